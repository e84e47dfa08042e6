/- What the functions of bench and those of the reference leave, in one shape for both. BenchMatchesReference: the walk of the law. BenchMatchesReference holds: the program's functions return what the reference's return (up to 100 indices and checks). No condition. -/
import Derived.Test.YtkgklmmkkhbimaaRefH
import Derived.Test.YtkgklmmkkhbimaaRefI
import Derived.Test.YtkgklmmkkhbimaaBenchG
import Derived.Test.YtkgklmmkkhbimaaRows
import Derived.Test.YtkgklmmkkhbimaaSusB
import Derived.Test.YtkgklmmkkhbimaaOpensC
import Derived.ProofKit
import Derived.OpenShut
import Derived.ChangeOld
import Derived.Lib.SmallJoins
namespace Go.Proofs.Ytkgklmmkkhbimaa
open Go.RowKit

def OutB (N : Nat) (k : Int) (g h : Nat → Int × Int) (w : World) (e : Ending) (w' : World) : Prop := Below w.heap.size w w' ∧ ∃ (B : Option Addr) (c : Nat), e = .returned (.tuple #[.slice B N c, .int .i64 k]) ∧ BandsR w' w'.heap.size B N g h
def OutR (N : Nat) (k : Int) (g : Nat → Int × Int) (w : World) (e : Ending) (w' : World) : Prop := Below w.heap.size w w' ∧ ∃ (B : Option Addr) (c : Nat), e = .returned (.tuple #[.slice B N c, .int .i64 k]) ∧ RatsR w' w'.heap.size B N g
def OutI (M : Nat) (k : Int) (xs : List Int) (w : World) (e : Ending) (w' : World) : Prop := Below w.heap.size w w' ∧ ∃ (B : Option Addr) (c : Nat), e = .returned (.tuple #[.slice B M c, .int .i64 k]) ∧ IntsR w' w'.heap.size B xs

theorem run_out {n : Int} {l : List Bt} {f1 f2 e1 e2 : Int} : ∃ (N : Nat) (k : Int) (g h : Nat → Int × Int), N ≤ 40 ∧ ∀ w e w', RunP n l f1 f2 e1 e2 w e w' → OutB N k g h w e w' := by
  cases hg : runG n l f1 f2 e1 e2
  · refine ⟨0, 1, fun _ => (0, 0), fun _ => (0, 0), by omega, ?_⟩
    rintro w e w' ⟨hb, ⟨_, rfl⟩ | ⟨h, _⟩ | ⟨h, _⟩⟩
    · exact ⟨hb, none, 0, rfl, fun h => absurd h (by omega)⟩
    · rw [hg] at h; cases h
    · rw [hg] at h; cases h
  · have hn : n.toNat ≤ 40 := by
      have hg' := hg
      unfold runG at hg'
      simp only [Bool.and_eq_true] at hg'
      have := vld_len hg'.1
      omega
    cases hl : plO l (f1, f2) (fun _ => (-e1, e2)) l.length with
    | none =>
      refine ⟨0, 3, fun _ => (0, 0), fun _ => (0, 0), by omega, ?_⟩
      rintro w e w' ⟨hb, ⟨h, _⟩ | ⟨_, _, rfl⟩ | ⟨_, g, h, _, _, h1, _⟩⟩
      · rw [hg] at h; cases h
      · exact ⟨hb, none, 0, rfl, fun h => absurd h (by omega)⟩
      · rw [hl] at h1; cases h1
    | some g =>
      cases hh : plO l (f1, f2) (fun _ => (e1, e2)) l.length with
      | none =>
        refine ⟨0, 3, fun _ => (0, 0), fun _ => (0, 0), by omega, ?_⟩
        rintro w e w' ⟨hb, ⟨h, _⟩ | ⟨_, _, rfl⟩ | ⟨_, g, h, _, _, _, h1, _⟩⟩
        · rw [hg] at h; cases h
        · exact ⟨hb, none, 0, rfl, fun h => absurd h (by omega)⟩
        · rw [hh] at h1; cases h1
      | some h =>
        refine ⟨n.toNat, 0, g, h, hn, ?_⟩
        rintro w e w' ⟨hb, ⟨h', _⟩ | ⟨_, h', _⟩ | ⟨_, g', h', A, c, h1, h2, rfl, hB⟩⟩
        · rw [hg] at h'; cases h'
        · rcases h' with h' | h'
          · rw [hl] at h'; cases h'
          · rw [hh] at h'; cases h'
        · rw [hl] at h1
          rw [hh] at h2
          obtain rfl := Option.some.inj h1
          obtain rfl := Option.some.inj h2
          exact ⟨hb, A, c, rfl, hB⟩
theorem ply_out {n : Int} {l : List Bt} {f1 f2 : Int} {M : Nat} {off : Nat → Int × Int} : ∃ (N : Nat) (k : Int) (g : Nat → Int × Int), N ≤ 40 ∧ ∀ w e w', PlyP n l f1 f2 M off w e w' → OutR N k g w e w' := by
  cases hg : plyG n l f1 f2 M off
  · refine ⟨0, 1, fun _ => (0, 0), by omega, ?_⟩
    rintro w e w' ⟨hb, ⟨_, rfl⟩ | ⟨h, _⟩ | ⟨h, _⟩⟩
    · exact ⟨hb, none, 0, rfl, fun h => absurd h (by omega)⟩
    · rw [hg] at h; cases h
    · rw [hg] at h; cases h
  · have hn : n.toNat ≤ 40 := by
      have hg' := hg
      unfold plyG at hg'
      simp only [Bool.and_eq_true] at hg'
      have := vld_len hg'.1
      omega
    cases hl : plO l (f1, f2) off l.length with
    | none =>
      refine ⟨0, 3, fun _ => (0, 0), by omega, ?_⟩
      rintro w e w' ⟨hb, ⟨h, _⟩ | ⟨_, _, rfl⟩ | ⟨_, g, _, h1, _⟩⟩
      · rw [hg] at h; cases h
      · exact ⟨hb, none, 0, rfl, fun h => absurd h (by omega)⟩
      · rw [hl] at h1; cases h1
    | some g =>
      refine ⟨n.toNat, 0, g, hn, ?_⟩
      rintro w e w' ⟨hb, ⟨h', _⟩ | ⟨_, h', _⟩ | ⟨_, g', A, h1, rfl, hB⟩⟩
      · rw [hg] at h'; cases h'
      · rw [hl] at h'; cases h'
      · rw [hl] at h1
        obtain rfl := Option.some.inj h1
        exact ⟨hb, A, _, rfl, hB⟩
theorem ints_none {w : World} {B : Nat} {A : Option Addr} : IntsR w B A [] := fun h => absurd h (by simp)
theorem rep_out {n : Int} {l : List Bt} {ws : List Int} (hL : l.length ≤ 1000) : ∃ (M : Nat) (k : Int) (xs : List Int), M ≤ 1000 ∧ xs.length = M ∧ ∀ w e w', RepP n l ws w e w' → OutI M k xs w e w' := by
  cases hg : vld n l && okW l.length ws
  · refine ⟨0, 1, [], by omega, rfl, ?_⟩
    rintro w e w' ⟨hb, ⟨_, rfl⟩ | ⟨h, _⟩⟩
    · exact ⟨hb, none, 0, rfl, ints_none⟩
    · rw [hg] at h; cases h
  · refine ⟨_, 0, selF (repS l ws) l.length, Nat.le_trans (sel_len _ _) hL, rfl, ?_⟩
    rintro w e w' ⟨hb, ⟨h, _⟩ | ⟨_, A, c, rfl, hI⟩⟩
    · rw [hg] at h; cases h
    · exact ⟨hb, A, c, rfl, hI⟩
theorem it_out {n : Int} {l : List Bt} {x : Int} (hL : l.length ≤ 1000) : ∃ (M : Nat) (k : Int) (xs : List Int), M ≤ 1000 ∧ xs.length = M ∧ (∀ w e w', ItemQ n l x w e w' → OutI M k xs w e w') := by
  cases hg : itB n l x
  · refine ⟨0, 1, [], by omega, rfl, ?_⟩
    rintro w e w' ⟨hb, ⟨_, rfl⟩ | ⟨h, _⟩⟩
    · exact ⟨hb, none, 0, rfl, ints_none⟩
    · rw [hg] at h; cases h
  · refine ⟨_, 0, selF (onW l x) l.length, Nat.le_trans (sel_len _ _) hL, rfl, ?_⟩
    rintro w e w' ⟨hb, ⟨h, _⟩ | ⟨_, A, c, rfl, hI⟩⟩
    · rw [hg] at h; cases h
    · exact ⟨hb, A, c, rfl, hI.plain⟩
theorem sus_out {n : Int} {l : List Bt} {cs : List (Int × Int)} {fs : List Bool} (hL : l.length ≤ 1000) : ∃ (M : Nat) (k : Int) (xs : List Int), M ≤ 1000 ∧ xs.length = M ∧ ∀ w e w', SusP n l cs fs w e w' → OutI M k xs w e w' := by
  cases hg : susG n l cs fs
  · refine ⟨0, 1, [], by omega, rfl, ?_⟩
    rintro w e w' ⟨hb, ⟨_, rfl⟩ | ⟨h, _⟩⟩
    · exact ⟨hb, none, 0, rfl, ints_none⟩
    · rw [hg] at h; cases h
  · refine ⟨_, 0, selF (susS l cs fs) l.length, Nat.le_trans (sel_len _ _) hL, rfl, ?_⟩
    rintro w e w' ⟨hb, ⟨h, _⟩ | ⟨_, A, c, rfl, hI⟩⟩
    · rw [hg] at h; cases h
    · exact ⟨hb, A, c, rfl, hI⟩
theorem ChkR.rise {w w' : World} {A : Option Addr} {cs : List (Int × Int)} (h : ChkR w w.heap.size A cs) (hb : Below w.heap.size w w') : ChkR w' w'.heap.size A cs := (h.below hb).more hb.size
theorem BoolsR.rise {w w' : World} {A : Option Addr} {cs : List Bool} (h : BoolsR w w.heap.size A cs) (hb : Below w.heap.size w w') : BoolsR w' w'.heap.size A cs := (h.below hb).more hb.size
theorem bands_same (N : Nat) (g h : Nat → Int × Int) (hN : N ≤ 40) (A B : Option Addr) (c d : Nat) (w : World) (hx : BandsR w w.heap.size A N g h) (hy : BandsR w w.heap.size B N g h) :
    Calls Try.prog 16 #[.slice A N c, .slice B N d] w (Ret (.bool true) w) := by
  have h1 := SameBands_c N N g h g h A B c d w hx hy (by omega) (by omega)
  rw [show sameB N N g h g h = true by simp [sameB]] at h1
  exact h1
theorem rats_same (N : Nat) (g : Nat → Int × Int) (hN : N ≤ 40) (A B : Option Addr) (c d : Nat) (w : World) (hx : RatsR w w.heap.size A N g) (hy : RatsR w w.heap.size B N g) :
    Calls Try.prog 19 #[.slice A N c, .slice B N d] w (Ret (.bool true) w) := by
  have h1 := SameRats_c N N g g A B c d w hx hy (by omega) (by omega)
  rw [show sameR N N g g = true by simp [sameR]] at h1
  exact h1
theorem ints_same (M : Nat) (xs : List Int) (hM : M ≤ 1000) (hxs : xs.length = M) (A B : Option Addr) (c d : Nat) (w : World) (hx : IntsR w w.heap.size A xs) (hy : IntsR w w.heap.size B xs) :
    Calls Try.prog 22 #[.slice A M c, .slice B M d] w (Ret (.bool true) w) := by
  subst hxs
  have h1 := Ints_c xs xs A B c d w hx hy (by omega) (by omega)
  rw [decide_eq_true rfl] at h1
  exact h1
end Go.Proofs.Ytkgklmmkkhbimaa
namespace Go.Proofs.Ytkgklmmkkhbimaa
open Go.RowKit

set_option maxRecDepth 100000 in
set_option maxHeartbeats 8000000 in
theorem walk_BenchMatchesReference (n : Int) (A : Option Addr) (l : List Bt) (cap : Nat) (f1 f2 e1 e2 : Int) (Ao : Option Addr) (M : Nat) (off : Nat → Int × Int) (capo : Nat) (Aw : Option Addr) (ws : List Int) (capw : Nat) (x : Int) (Ac : Option Addr) (cs : List (Int × Int)) (capc : Nat) (Af : Option Addr) (fs : List Bool) (capf : Nat) (w : World)
    (hlen : l.length ≤ 9223372036854775807) (hl : Lst w w.heap.size A l) (hcap : l.length ≤ cap) (hM : M ≤ 9223372036854775807) (ho : RatsR w w.heap.size Ao M off) (hlw : ws.length ≤ 9223372036854775807) (hw : IntsR w w.heap.size Aw ws) (hlc : cs.length ≤ 9223372036854775807) (hc0 : ChkR w w.heap.size Ac cs) (hlf : fs.length ≤ 9223372036854775807) (hf0 : BoolsR w w.heap.size Af fs) :
    Calls Try.prog 3 #[.int .i64 n, .slice A l.length cap, .agg #[.int .i64 f1, .int .i64 f2], .agg #[.int .i64 e1, .int .i64 e2], .slice Ao M capo, .slice Aw ws.length capw, .int .i64 x, .slice Ac cs.length capc, .slice Af fs.length capf] w (Ret (.bool true) w) := by
  by_cases hbig : 60 < l.length ∨ (l.length ≤ 60 ∧ 100 < ws.length) ∨ (l.length ≤ 60 ∧ ws.length ≤ 100 ∧ 100 < cs.length ∧ cs.length ≤ 200)
  · clear hl ho hw hc0 hf0
    generalize l.length = L at *
    generalize ws.length = W at *
    generalize cs.length = C at *
    generalize fs.length = F at *
    rcases hbig with h1 | ⟨h1, h2⟩ | ⟨h1, h2, h3, h4⟩
    all_goals
      go_enter Try.func3, Try.ntmps3
      go_wp2_with (go_at_call 11; ((with_reducible refine (head18_c _).mono ?_); rintro e w' ⟨rfl, hb⟩; obtain ⟨hz, hc, hf⟩ := bcl hb (by first | (simp; rfl) | rfl)))
      go_ret
      refine ⟨rfl, ?_⟩
      (repeat (first | (with_reducible exact bl_refl _) | (with_reducible refine bl_drew ?_) | (with_reducible refine bl_alloc ?_ _) | (with_reducible refine bl_set' ?_ ?_; · (first | omega | (simp; done) | (simp; omega))) | (with_reducible refine bl_last (by assumption) ?_) | (with_reducible refine bl_drewN ?_ _)))
  have hL60 : l.length ≤ 60 := by omega
  have hW : ws.length ≤ 100 := by omega
  have hC : cs.length ≤ 100 ∨ 200 < cs.length := by omega
  clear hbig
  have HL := Lib.hid hl
  have HO := Lib.hid ho
  have HW := Lib.hid hw
  have HC := Lib.hid hc0
  have HF := Lib.hid hf0
  obtain ⟨N1, k1, g1, h1, hN1, hRu⟩ := run_out (n := n) (l := l) (f1 := f1) (f2 := f2) (e1 := e1) (e2 := e2)
  obtain ⟨N2, k2, g2, hN2, hPl⟩ := ply_out (n := n) (l := l) (f1 := f1) (f2 := f2) (M := M) (off := off)
  obtain ⟨M3, k3, x3, hM3, hx3, hRe⟩ := rep_out (n := n) (l := l) (ws := ws) (by omega)
  obtain ⟨M4, k4, x4, hM4, hx4, hIt⟩ := it_out (n := n) (l := l) (x := x) (by omega)
  obtain ⟨M5, k5, x5, hM5, hx5, hSu⟩ := sus_out (n := n) (l := l) (cs := cs) (fs := fs) (by omega)
  have HV := Lib.hid (fun w h => Valid18_c n l A cap w h hlen)
  have HRV := Lib.hid (fun w h => RefValid_c n l A cap w h hlen hcap)
  have HRun := Lib.hid (fun w h => (Run_c n l f1 f2 e1 e2 A cap w h hlen).mono (hRu w))
  have HRRun := Lib.hid (fun w h => (RRun_c n l f1 f2 e1 e2 A cap w h hlen hcap).mono (hRu w))
  have HPlay := Lib.hid (fun w h ho => (Play_c n l f1 f2 M off A Ao cap capo w h ho hlen hM).mono (hPl w))
  have HRPlay := Lib.hid (fun w h ho => (RPlay_c n l f1 f2 M off A Ao cap capo w h ho hlen hcap hM).mono (hPl w))
  have HRep := Lib.hid (fun w h hw => (Repair_c n l ws A Aw cap capw w h hw hlen hlw).mono (hRe w))
  have HRRep := Lib.hid (fun w h hw => (RRepair_c n l ws A Aw cap capw w h hw hlen hcap hlw).mono (hRe w))
  have HItem := Lib.hid (fun w h => (ItemF_c n l x A cap w h hlen).mono (hIt w))
  have HRItem := Lib.hid (fun w h => (RItem_c n l x A cap w h hlen hcap).mono (hIt w))
  have HSus := Lib.hid (fun w h hc hf => (Susp_c n l cs fs A Ac Af cap capc capf w h hc hf hlen hlc hlf).mono (hSu w))
  have HRSus := Lib.hid (fun w h hc hf => (RSusp_c n l cs fs A Ac Af cap capc capf w h hc hf hlen hcap hlc hlf).mono (hSu w))
  have HSB := Lib.hid (bands_same N1 g1 h1 hN1)
  have HSR := Lib.hid (rats_same N2 g2 hN2)
  have HS3 := Lib.hid (ints_same M3 x3 hM3 hx3)
  have HS4 := Lib.hid (ints_same M4 x4 hM4 hx4)
  have HS5 := Lib.hid (ints_same M5 x5 hM5 hx5)
  clear hl ho hw hc0 hf0 hRu hPl hRe hIt hSu hx3 hx4 hx5
  generalize vld n l = vb at HV HRV
  generalize l.length = L at *
  generalize ws.length = W at *
  generalize cs.length = C at *
  generalize fs.length = F at *
  rcases hC with hC | hC
  all_goals
    go_enter Try.func3, Try.ntmps3
    go_wp2_with fail
    ((with_reducible refine (head18_c _).mono ?_); rintro e w1 ⟨rfl, b1⟩)
    have HB : Hid (Below w.heap.size w w1) := Lib.hid (by (repeat (first | (with_reducible exact bl_refl _) | (with_reducible refine bl_drew ?_) | (with_reducible refine bl_alloc ?_ _) | (with_reducible refine bl_set' ?_ ?_; · (first | omega | (simp; done) | (simp; omega))) | (with_reducible refine bl_last (by assumption) ?_) | (with_reducible refine bl_drewN ?_ _))))
    have H6 : Hid (Blk w1 w.heap.size 24 #[.int .i64 f1, .int .i64 f2]) := Lib.hid (((Blk.new w _ _).alloc _).below b1 (by simp; omega))
    have H7 : Hid (Blk w1 (w.heap.size + 1) 24 #[.int .i64 e1, .int .i64 e2]) := Lib.hid ((Blk.new' _ _ _ _ (by simp)).below b1 (by simp))
    clear b1
    go_wp2_with fail
    ((with_reducible refine (HV.out _ (HL.out.up HB.out)).mono ?_); rintro e w2 ⟨rfl, b2⟩)
    have H6 := Lib.hid (H6.out.below b2 H6.out.lt)
    have H7 := Lib.hid (H7.out.below b2 H7.out.lt)
    have HB := Lib.hid (bl_trans HB.out b2)
    clear b2
    go_wp2_with fail
    ((with_reducible refine (HRV.out _ (HL.out.up HB.out)).mono ?_); rintro e w3 ⟨rfl, b3⟩)
    have H6 := Lib.hid (H6.out.below b3 H6.out.lt)
    have H7 := Lib.hid (H7.out.below b3 H7.out.lt)
    have HB := Lib.hid (bl_trans HB.out b3)
    clear b3
    have c60 : w3.cell? ⟨w.heap.size, 0, none⟩ = some (.int .i64 f1) := by simpa using H6.out.cell 0
    have c61 : w3.cell? ⟨w.heap.size, 1, none⟩ = some (.int .i64 f2) := by simpa using H6.out.cell 1
    have c70 : w3.cell? ⟨w.heap.size + 1, 0, none⟩ = some (.int .i64 e1) := by simpa using H7.out.cell 0
    have c71 : w3.cell? ⟨w.heap.size + 1, 1, none⟩ = some (.int .i64 e2) := by simpa using H7.out.cell 1
    go_wp2_with fail
    ((with_reducible refine (HRun.out _ (HL.out.up HB.out)).mono ?_); rintro e w4 ⟨b4, A4, c4, rfl, hR⟩)
    have H6 := Lib.hid (H6.out.below b4 H6.out.lt)
    have H7 := Lib.hid (H7.out.below b4 H7.out.lt)
    have HB := Lib.hid (bl_trans HB.out b4)
    have HR4 := Lib.hid hR
    clear hR b4
    clear c60 c61 c70 c71
    have c60 : w4.cell? ⟨w.heap.size, 0, none⟩ = some (.int .i64 f1) := by simpa using H6.out.cell 0
    have c61 : w4.cell? ⟨w.heap.size, 1, none⟩ = some (.int .i64 f2) := by simpa using H6.out.cell 1
    have c70 : w4.cell? ⟨w.heap.size + 1, 0, none⟩ = some (.int .i64 e1) := by simpa using H7.out.cell 0
    have c71 : w4.cell? ⟨w.heap.size + 1, 1, none⟩ = some (.int .i64 e2) := by simpa using H7.out.cell 1
    go_wp2_with fail
    ((with_reducible refine (HRRun.out _ (HL.out.up HB.out)).mono ?_); rintro e w5 ⟨b5, A5, c5, rfl, hR⟩)
    have H6 := Lib.hid (H6.out.below b5 H6.out.lt)
    have H7 := Lib.hid (H7.out.below b5 H7.out.lt)
    have HB := Lib.hid (bl_trans HB.out b5)
    have HR4 := Lib.hid (HR4.out.up b5)
    have HR5 := Lib.hid hR
    clear hR b5
    clear c60 c61 c70 c71
    go_wp2_with fail
    ((with_reducible refine (HSB.out _ _ _ _ _ HR4.out HR5.out).mono ?_); rintro e w6 ⟨rfl, b6⟩)
    have H6 := Lib.hid (H6.out.below b6 H6.out.lt)
    have H7 := Lib.hid (H7.out.below b6 H7.out.lt)
    have HB := Lib.hid (bl_trans HB.out b6)
    clear b6 HR4 HR5
    have c60 : w6.cell? ⟨w.heap.size, 0, none⟩ = some (.int .i64 f1) := by simpa using H6.out.cell 0
    have c61 : w6.cell? ⟨w.heap.size, 1, none⟩ = some (.int .i64 f2) := by simpa using H6.out.cell 1
    go_wp2_with fail
    ((with_reducible refine (HPlay.out _ (HL.out.up HB.out) (HO.out.up HB.out)).mono ?_); rintro e w7 ⟨b7, A7, c7, rfl, hR⟩)
    have H6 := Lib.hid (H6.out.below b7 H6.out.lt)
    have H7 := Lib.hid (H7.out.below b7 H7.out.lt)
    have HB := Lib.hid (bl_trans HB.out b7)
    have HR4 := Lib.hid hR
    clear hR b7
    clear c60 c61
    have c60 : w7.cell? ⟨w.heap.size, 0, none⟩ = some (.int .i64 f1) := by simpa using H6.out.cell 0
    have c61 : w7.cell? ⟨w.heap.size, 1, none⟩ = some (.int .i64 f2) := by simpa using H6.out.cell 1
    go_wp2_with fail
    ((with_reducible refine (HRPlay.out _ (HL.out.up HB.out) (HO.out.up HB.out)).mono ?_); rintro e w8 ⟨b8, A8, c8, rfl, hR⟩)
    have H6 := Lib.hid (H6.out.below b8 H6.out.lt)
    have H7 := Lib.hid (H7.out.below b8 H7.out.lt)
    have HB := Lib.hid (bl_trans HB.out b8)
    have HR4 := Lib.hid (HR4.out.up b8)
    have HR5 := Lib.hid hR
    clear hR b8
    clear c60 c61
    go_wp2_with fail
    ((with_reducible refine (HSR.out _ _ _ _ _ HR4.out HR5.out).mono ?_); rintro e w9 ⟨rfl, b9⟩)
    have H6 := Lib.hid (H6.out.below b9 H6.out.lt)
    have H7 := Lib.hid (H7.out.below b9 H7.out.lt)
    have HB := Lib.hid (bl_trans HB.out b9)
    clear b9 HR4 HR5
    go_wp2_with fail
    ((with_reducible refine (HRep.out _ (HL.out.up HB.out) (HW.out.up HB.out)).mono ?_); rintro e w10 ⟨b10, A10, c10, rfl, hR⟩)
    have H6 := Lib.hid (H6.out.below b10 H6.out.lt)
    have H7 := Lib.hid (H7.out.below b10 H7.out.lt)
    have HB := Lib.hid (bl_trans HB.out b10)
    have HR4 := Lib.hid hR
    clear hR b10
    go_wp2_with fail
    ((with_reducible refine (HRRep.out _ (HL.out.up HB.out) (HW.out.up HB.out)).mono ?_); rintro e w11 ⟨b11, A11, c11, rfl, hR⟩)
    have H6 := Lib.hid (H6.out.below b11 H6.out.lt)
    have H7 := Lib.hid (H7.out.below b11 H7.out.lt)
    have HB := Lib.hid (bl_trans HB.out b11)
    have HR4 := Lib.hid (HR4.out.up b11)
    have HR5 := Lib.hid hR
    clear hR b11
    go_wp2_with fail
    ((with_reducible refine (HS3.out _ _ _ _ _ HR4.out HR5.out).mono ?_); rintro e w12 ⟨rfl, b12⟩)
    have H6 := Lib.hid (H6.out.below b12 H6.out.lt)
    have H7 := Lib.hid (H7.out.below b12 H7.out.lt)
    have HB := Lib.hid (bl_trans HB.out b12)
    clear b12 HR4 HR5
    go_wp2_with fail
    ((with_reducible refine (HItem.out _ (HL.out.up HB.out)).mono ?_); rintro e w13 ⟨b13, A13, c13, rfl, hR⟩)
    have H6 := Lib.hid (H6.out.below b13 H6.out.lt)
    have H7 := Lib.hid (H7.out.below b13 H7.out.lt)
    have HB := Lib.hid (bl_trans HB.out b13)
    have HR4 := Lib.hid hR
    clear hR b13
    go_wp2_with fail
    ((with_reducible refine (HRItem.out _ (HL.out.up HB.out)).mono ?_); rintro e w14 ⟨b14, A14, c14, rfl, hR⟩)
    have H6 := Lib.hid (H6.out.below b14 H6.out.lt)
    have H7 := Lib.hid (H7.out.below b14 H7.out.lt)
    have HB := Lib.hid (bl_trans HB.out b14)
    have HR4 := Lib.hid (HR4.out.up b14)
    have HR5 := Lib.hid hR
    clear hR b14
    go_wp2_with fail
    ((with_reducible refine (HS4.out _ _ _ _ _ HR4.out HR5.out).mono ?_); rintro e w15 ⟨rfl, b15⟩)
    have H6 := Lib.hid (H6.out.below b15 H6.out.lt)
    have H7 := Lib.hid (H7.out.below b15 H7.out.lt)
    have HB := Lib.hid (bl_trans HB.out b15)
    clear b15 HR4 HR5
    go_wp2_with fail
    ((with_reducible refine (HSus.out _ (HL.out.up HB.out) (HC.out.rise HB.out) (HF.out.rise HB.out)).mono ?_); rintro e w16 ⟨b16, A16, c16, rfl, hR⟩)
    have H6 := Lib.hid (H6.out.below b16 H6.out.lt)
    have H7 := Lib.hid (H7.out.below b16 H7.out.lt)
    have HB := Lib.hid (bl_trans HB.out b16)
    have HR4 := Lib.hid hR
    clear hR b16
    go_wp2_with fail
    ((with_reducible refine (HRSus.out _ (HL.out.up HB.out) (HC.out.rise HB.out) (HF.out.rise HB.out)).mono ?_); rintro e w17 ⟨b17, A17, c17, rfl, hR⟩)
    have H6 := Lib.hid (H6.out.below b17 H6.out.lt)
    have H7 := Lib.hid (H7.out.below b17 H7.out.lt)
    have HB := Lib.hid (bl_trans HB.out b17)
    have HR4 := Lib.hid (HR4.out.up b17)
    have HR5 := Lib.hid hR
    clear hR b17
    go_wp2_with fail
    ((with_reducible refine (HS5.out _ _ _ _ _ HR4.out HR5.out).mono ?_); rintro e w18 ⟨rfl, b18⟩)
    have H6 := Lib.hid (H6.out.below b18 H6.out.lt)
    have H7 := Lib.hid (H7.out.below b18 H7.out.lt)
    have HB := Lib.hid (bl_trans HB.out b18)
    clear b18 HR4 HR5
    go_wp2
    go_ret
    exact ⟨rfl, HB.out⟩
end Go.Proofs.Ytkgklmmkkhbimaa
namespace Go.Proofs.Ytkgklmmkkhbimaa
open Go.ChangeShapes Go.WideShapes Go.ChangeAt Go.RowKit Go.Joins

theorem own : ownKnob Try.prog.godebug = none := by kernel_rfl
theorem laidOut : laidOutB Try.prog = true := by kernel_rfl

set_option maxRecDepth 100000 in
theorem lifted_BenchMatchesReference (os : Os) (started : os.Started) (H : Type) (enc : TypeId × Value → H) :
    ReturnsInHanded {} Try.checked os 3 .any (Rows.benchMatchesReferenceSpec.pre6 enc Try.prog Try.f3 Rows.benchMatchesReferenceRow.domain false) (Rows.benchMatchesReferenceSpec.post enc Try.prog Try.f3 false true false false) := by
  refine returnsInHanded_of_change (C := Try.checked) own started (by kernel_rfl) Try.func3
    (ChangeSpec.witness6 (enc := enc) (C := Try.checked) false ⟨#[], #[.int .i64 0, .slice none 0 0, .agg #[.int .i64 0, .int .i64 0], .agg #[.int .i64 0, .int .i64 0], .slice none 0 0, .slice none 0 0, .int .i64 0, .slice none 0 0, .slice none 0 0], []⟩ 8 (by kernel_rfl) (by kernel_rfl) (by kernel_rfl) (by kernel_rfl)) ?_
  intro W base args ds gs before hval0 hW hcnd _
  have hval : ∀ (j : Nat) t v, Try.f3.params[j]? = some t → args[j]? = some v → Value.okWide Try.prog W .any base t v := hval0
  have hW' := hW
  obtain ⟨p, q, hA0, hV, rfl, hfz, hnd⟩ := hW
  have hA : DataW.TrodAll enc Try.prog W 0 (fun _ => true) true Try.f3.params.toList args.toList ds p := hA0
  rw [Try.params3] at hA hval
  obtain ⟨v0, vs0, d0, ds0, p0, q0, hargs, rfl, rfl, h0, r0⟩ := trodAll_cons hA
  obtain ⟨v1, vs1, d1, ds1, p1, q1, rfl, rfl, rfl, h1, r1⟩ := trodAll_cons r0
  obtain ⟨v2, vs2, d2, ds2, p2, q2, rfl, rfl, rfl, h2, r2⟩ := trodAll_cons r1
  obtain ⟨v3, vs3, d3, ds3, p3, q3, rfl, rfl, rfl, h3, r3⟩ := trodAll_cons r2
  obtain ⟨v4, vs4, d4, ds4, p4, q4, rfl, rfl, rfl, h4, r4⟩ := trodAll_cons r3
  obtain ⟨v5, vs5, d5, ds5, p5, q5, rfl, rfl, rfl, h5, r5⟩ := trodAll_cons r4
  obtain ⟨v6, vs6, d6, ds6, p6, q6, rfl, rfl, rfl, h6, r6⟩ := trodAll_cons r5
  obtain ⟨v7, vs7, d7, ds7, p7, q7, rfl, rfl, rfl, h7, r7⟩ := trodAll_cons r6
  obtain ⟨v8, vs8, d8, ds8, p8, q8, rfl, rfl, rfl, h8, r8⟩ := trodAll_cons r7
  obtain ⟨rfl, rfl, rfl⟩ := trodAll_nil r8
  obtain rfl : args = #[v0, v1, v2, v3, v4, v5, v6, v7, v8] := by cases args; simp_all
  obtain ⟨rfl, rfl⟩ := trodVars_none hV
  have k0 := h0
  have lt0 : ∀ x ∈ p0, x.block < W.heap.size := by obtain ⟨m, hm⟩ := k0; exact DataW.trod_lt m _ _ _ hm
  obtain ⟨a0, rfl, _, _, w0⟩ := open_int Try.underlying3 (hval 0 3 v0 rfl rfl) h0
  have k1 := h1
  have lt1 : ∀ x ∈ p1, x.block < W.heap.size := by obtain ⟨m, hm⟩ := k1; exact DataW.trod_lt m _ _ _ hm
  obtain ⟨A1, l1, cap1, rfl, len1, rw1⟩ := open_beats (hval 1 22 v1 rfl rfl) h1
  have le1 := slice_cap Try.underlying22 k1
  have k2 := h2
  have lt2 : ∀ x ∈ p2, x.block < W.heap.size := by obtain ⟨m, hm⟩ := k2; exact DataW.trod_lt m _ _ _ hm
  obtain ⟨c2_0, c2_1, y2_0, y2_1, m2, rfl, _, _, hy2_0, hy2_1⟩ := open_agg2 Try.underlying24 (by kernel_rfl) (show Try.prog.cellsOf 24 = 2 by kernel_rfl) (hval 2 24 v2 rfl rfl) h2
  obtain ⟨a2_0, e2_0, _, w2_0⟩ := DataW.trod_int Try.underlying3 hy2_0
  simp at e2_0
  subst e2_0
  obtain ⟨a2_1, e2_1, _, w2_1⟩ := DataW.trod_int Try.underlying3 hy2_1
  simp at e2_1
  subst e2_1
  have k3 := h3
  have lt3 : ∀ x ∈ p3, x.block < W.heap.size := by obtain ⟨m, hm⟩ := k3; exact DataW.trod_lt m _ _ _ hm
  obtain ⟨c3_0, c3_1, y3_0, y3_1, m3, rfl, _, _, hy3_0, hy3_1⟩ := open_agg2 Try.underlying24 (by kernel_rfl) (show Try.prog.cellsOf 24 = 2 by kernel_rfl) (hval 3 24 v3 rfl rfl) h3
  obtain ⟨a3_0, e3_0, _, w3_0⟩ := DataW.trod_int Try.underlying3 hy3_0
  simp at e3_0
  subst e3_0
  obtain ⟨a3_1, e3_1, _, w3_1⟩ := DataW.trod_int Try.underlying3 hy3_1
  simp at e3_1
  subst e3_1
  have k4 := h4
  have lt4 : ∀ x ∈ p4, x.block < W.heap.size := by obtain ⟨m, hm⟩ := k4; exact DataW.trod_lt m _ _ _ hm
  obtain ⟨A4, M4, g4, cap4, rfl, len4, rw4⟩ := open_rats (hval 4 25 v4 rfl rfl) h4
  have k5 := h5
  have lt5 : ∀ x ∈ p5, x.block < W.heap.size := by obtain ⟨m, hm⟩ := k5; exact DataW.trod_lt m _ _ _ hm
  obtain ⟨A5, l5, cap5, rfl, len5, rw5⟩ := open_ints (hval 5 26 v5 rfl rfl) h5
  have k6 := h6
  have lt6 : ∀ x ∈ p6, x.block < W.heap.size := by obtain ⟨m, hm⟩ := k6; exact DataW.trod_lt m _ _ _ hm
  obtain ⟨a6, rfl, _, _, w6⟩ := open_int Try.underlying3 (hval 6 3 v6 rfl rfl) h6
  have k7 := h7
  have lt7 : ∀ x ∈ p7, x.block < W.heap.size := by obtain ⟨m, hm⟩ := k7; exact DataW.trod_lt m _ _ _ hm
  obtain ⟨A7, l7, cap7, rfl, len7, rw7⟩ := open_pairs (hval 7 27 v7 rfl rfl) h7
  have k8 := h8
  have lt8 : ∀ x ∈ p8, x.block < W.heap.size := by obtain ⟨m, hm⟩ := k8; exact DataW.trod_lt m _ _ _ hm
  obtain ⟨A8, l8, cap8, rfl, len8, rw8⟩ := open_bools (hval 8 28 v8 rfl rfl) h8
  clear hA0 hval0
  refine (walk_BenchMatchesReference a0 A1 l1 cap1 a2_0 a2_1 a3_0 a3_1 A4 M4 g4 cap4 A5 l5 cap5 a6 A7 l7 cap7 A8 l8 cap8 W len1 rw1 le1 len4 rw4 len5 rw5 len7 rw7 len8 rw8).mono fun e W' ⟨he, bel⟩ => ?_
  subst he
  exact ⟨_, rfl, _, _, _, [], _, [], hW', trodAll_mk1 (shut_bool Try.underlying4 _), (trodAll_cons_mk (Below.trod laidOut (by kernel_rfl) (of_decide_eq_true (by kernel_rfl)) k0 bel lt0) (trodAll_cons_mk (Below.trod laidOut (by kernel_rfl) (of_decide_eq_true (by kernel_rfl)) k1 bel lt1) (trodAll_cons_mk (Below.trod laidOut (by kernel_rfl) (of_decide_eq_true (by kernel_rfl)) k2 bel lt2) (trodAll_cons_mk (Below.trod laidOut (by kernel_rfl) (of_decide_eq_true (by kernel_rfl)) k3 bel lt3) (trodAll_cons_mk (Below.trod laidOut (by kernel_rfl) (of_decide_eq_true (by kernel_rfl)) k4 bel lt4) (trodAll_cons_mk (Below.trod laidOut (by kernel_rfl) (of_decide_eq_true (by kernel_rfl)) k5 bel lt5) (trodAll_cons_mk (Below.trod laidOut (by kernel_rfl) (of_decide_eq_true (by kernel_rfl)) k6 bel lt6) (trodAll_cons_mk (Below.trod laidOut (by kernel_rfl) (of_decide_eq_true (by kernel_rfl)) k7 bel lt7) (trodAll_cons_mk (Below.trod laidOut (by kernel_rfl) (of_decide_eq_true (by kernel_rfl)) k8 bel lt8) trodAll_mk0))))))))), rfl, bel.frame _, fun h => by cases h⟩

theorem benchMatchesReference_holds : Rows.BenchMatchesReferenceSaid :=
  OpenClaim.holds_of_wide 3 Try.f3 rfl rfl rfl rfl rfl rfl rfl ⟨rfl, rfl, rfl, rfl, rfl⟩ rfl rfl rfl rfl rfl (by kernel_rfl) Try.func3 (by kernel_rfl)
    (of_decide_eq_true (by kernel_rfl)) (by unfold Func.isWrapper; first | (rw [if_pos (by decide +kernel)]; kernel_rfl) | (rw [if_neg (by decide +kernel)]; exact ⟨rfl, rfl⟩))
    (fun os started H enc _ => lifted_BenchMatchesReference os started H enc)
#print axioms benchMatchesReference_holds

end Go.Proofs.Ytkgklmmkkhbimaa
