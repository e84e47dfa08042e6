/- Bench: Play and Run. -/
import Derived.Test.YtkgklmmkkhbimaaBenchP
import Derived.Test.YtkgklmmkkhbimaaBenchI
namespace Go.Proofs.Ytkgklmmkkhbimaa
open Go.RowKit

/-- The address A of a slice of N frequencies. -/
def RatsR (w : World) (B : Nat) (A : Option Addr) (N : Nat) (g : Nat → Int × Int) : Prop :=
  0 < N → ∃ b off, A = some ⟨b, off, none⟩ ∧ b < B ∧ ∀ x, x < N → w.cell? ⟨b, off + x * 2, none⟩ = some (.int .i64 (g x).1) ∧ w.cell? ⟨b, off + x * 2 + 1, none⟩ = some (.int .i64 (g x).2)
theorem RatsR.below {w w' : World} {B N : Nat} {A : Option Addr} {g : Nat → Int × Int} (h : RatsR w B A N g) (hb : Below B w w') : RatsR w' B A N g := fun h0 => by
  obtain ⟨b, off, hA, hB, hc⟩ := h h0
  exact ⟨b, off, hA, hB, fun x hx => ⟨(hb.cell (p := ⟨b, _, none⟩) hB).trans (hc x hx).1, (hb.cell (p := ⟨b, _, none⟩) hB).trans (hc x hx).2⟩⟩
theorem RatsR.more {w : World} {B B' N : Nat} {A : Option Addr} {g : Nat → Int × Int} (h : RatsR w B A N g) (hB : B ≤ B') : RatsR w B' A N g := fun h0 => by
  obtain ⟨b, off, hA, hb, hc⟩ := h h0
  exact ⟨b, off, hA, by omega, hc⟩
theorem RatsR.of_blk {w : World} {g0 N : Nat} {g : Nat → Int × Int} (h : Blk w g0 24 (ratA N g)) : RatsR w w.heap.size (some ⟨g0, 0, none⟩) N g := fun _ =>
  ⟨g0, 0, rfl, h.lt, fun x hx => ⟨by rw [Nat.zero_add]; exact (h.cell _).trans (ratA_0 N g hx), by rw [Nat.zero_add]; exact (h.cell _).trans (ratA_1 N g hx)⟩⟩

set_option maxHeartbeats 400000 in
theorem run1_c (i : Nat) (B : Nat) (e1 e2 : Int) (w : World) (h0 : w.cell? ⟨B, 0, none⟩ = some (.int .i64 e1)) (h1 : w.cell? ⟨B, 1, none⟩ = some (.int .i64 e2)) (hB : B < w.heap.size) (hl : -9223372036854775807 ≤ e1) (hh : e1 ≤ 9223372036854775807) :
    Calls Try.prog 40 #[.int .i64 i, .pointer (some ⟨B, 0, none⟩)] w (Ret (.agg #[.int .i64 (-e1), .int .i64 e2]) w) := by
  go_enter Try.func40, Try.ntmps40
  go_wp2
  (refine bodyPost_ret (v := .agg #[.int .i64 (-e1), .int .i64 e2]) (by simp only [results, Try.results40]; go_simp) rfl ⟨rfl, ?_⟩)
  (repeat (first | (with_reducible exact bl_refl _) | (with_reducible refine bl_drew ?_) | (with_reducible refine bl_alloc ?_ _) | (with_reducible refine bl_set' ?_ ?_; · (first | omega | (simp; done) | (simp; omega))) | (with_reducible refine bl_last (by assumption) ?_) | (with_reducible refine bl_drewN ?_ _)))
set_option maxHeartbeats 400000 in
theorem run2_c (i : Nat) (B : Nat) (e1 e2 : Int) (w : World) (h0 : w.cell? ⟨B, 0, none⟩ = some (.int .i64 e1)) (h1 : w.cell? ⟨B, 1, none⟩ = some (.int .i64 e2)) (hB : B < w.heap.size) :
    Calls Try.prog 41 #[.int .i64 i, .pointer (some ⟨B, 0, none⟩)] w (Ret (.agg #[.int .i64 e1, .int .i64 e2]) w) := by
  go_enter Try.func41, Try.ntmps41
  go_wp2
  (refine bodyPost_ret (v := .agg #[.int .i64 e1, .int .i64 e2]) (by simp only [results, Try.results41]; go_simp) rfl ⟨rfl, ?_⟩)
  (repeat (first | (with_reducible exact bl_refl _) | (with_reducible refine bl_drew ?_) | (with_reducible refine bl_alloc ?_ _) | (with_reducible refine bl_set' ?_ ?_; · (first | omega | (simp; done) | (simp; omega))) | (with_reducible refine bl_last (by assumption) ?_) | (with_reducible refine bl_drewN ?_ _)))
set_option maxHeartbeats 400000 in
theorem play1_c (i L B b off cap : Nat) (u v : Int) (w : World) (h0 : w.cell? ⟨B, 0, none⟩ = some (.slice (some ⟨b, off, none⟩) L cap)) (hB : B < w.heap.size) (hb : b < w.heap.size) (hi : i < L)
    (hu : w.cell? ⟨b, off + i * 2, none⟩ = some (.int .i64 u)) (hv : w.cell? ⟨b, off + i * 2 + 1, none⟩ = some (.int .i64 v)) :
    Calls Try.prog 45 #[.int .i64 i, .pointer (some ⟨B, 0, none⟩)] w (Ret (.agg #[.int .i64 u, .int .i64 v]) w) := by
  go_enter Try.func45, Try.ntmps45
  go_wp2
  (refine bodyPost_ret (v := .agg #[.int .i64 u, .int .i64 v]) (by simp only [results, Try.results45]; go_simp) rfl ⟨rfl, ?_⟩)
  (repeat (first | (with_reducible exact bl_refl _) | (with_reducible refine bl_drew ?_) | (with_reducible refine bl_alloc ?_ _) | (with_reducible refine bl_set' ?_ ?_; · (first | omega | (simp; done) | (simp; omega))) | (with_reducible refine bl_last (by assumption) ?_) | (with_reducible refine bl_drewN ?_ _)))

def allV (off : Nat → Int × Int) (L : Nat) : Bool := (List.range L).all fun i => vR (off i).1 (off i).2
def plyG (n : Int) (l : List Bt) (f1 f2 : Int) (M : Nat) (off : Nat → Int × Int) : Bool := vld n l && (sdV f1 f2 && (decide (M = l.length) && allV off M))
/-- What Play leaves. -/
def PlyP (n : Int) (l : List Bt) (f1 f2 : Int) (M : Nat) (off : Nat → Int × Int) (w : World) (e : Ending) (w' : World) : Prop :=
  Below w.heap.size w w' ∧ ((plyG n l f1 f2 M off = false ∧ e = .returned (.tuple #[.slice none 0 0, .int .i64 1])) ∨ (plyG n l f1 f2 M off = true ∧ plO l (f1, f2) off l.length = none ∧ e = .returned (.tuple #[.slice none 0 0, .int .i64 3])) ∨
    (plyG n l f1 f2 M off = true ∧ ∃ g A, plO l (f1, f2) off l.length = some g ∧ e = .returned (.tuple #[.slice A n.toNat n.toNat, .int .i64 0]) ∧ RatsR w' w'.heap.size A n.toNat g))

set_option maxRecDepth 100000 in
set_option maxHeartbeats 4000000 in
theorem Play_c (n : Int) (l : List Bt) (f1 f2 : Int) (M : Nat) (off : Nat → Int × Int) (A Ao : Option Addr) (cap capo : Nat) (w : World) (hl : Lst w w.heap.size A l) (ho : RatsR w w.heap.size Ao M off) (hlen : l.length ≤ 9223372036854775807) (hM : M ≤ 9223372036854775807) :
    Calls Try.prog 17 #[.int .i64 n, .slice A l.length cap, .agg #[.int .i64 f1, .int .i64 f2], .slice Ao M capo] w (PlyP n l f1 f2 M off w) := by
  have hmf : ∀ (fn : Fn) (first cap : Array Value) (w : World), (Instr.makeFunc fn first cap).run Try.prog w = .ok (.func fn first cap) w := fun _ _ _ _ => rfl
  have HN := Lib.hid (fun o o' => newPlan_c n l A cap ((w.alloc o).alloc o') ((hl.below (((Below.refl _ _).alloc (Nat.le_refl _) o).alloc (by simp) o')).more (by simp; omega)) hlen)
  have HL := Lib.hid hl
  have HO := Lib.hid ho
  clear hl ho
  generalize hLL : l.length = L at *
  have HLL := Lib.hid hLL
  clear hLL
  go_enter Try.func17, Try.ntmps17
  go_wp2_with fail
  ((with_reducible refine (HN.out _ _).mono ?_); rintro e w1 ⟨hb1, ⟨hv, rfl⟩ | ⟨hv, rfl, hs1⟩⟩)
  · have hp : plyG n l f1 f2 M off = false := by simp [plyG, hv]
    have HP := Lib.hid hp
    clear hv hp
    go_wp2
    refine bodyPost_ret (v := .tuple #[.slice none 0 0, .int .i64 1]) (by simp only [results, Try.results17]; go_simp) rfl ⟨?_, Or.inl ⟨HP.out, rfl⟩⟩
    (repeat (first | (with_reducible exact bl_refl _) | (with_reducible refine bl_drew ?_) | (with_reducible refine bl_alloc ?_ _) | (with_reducible refine bl_set' ?_ ?_; · (first | omega | (simp; done) | (simp; omega))) | (with_reducible refine bl_last (by assumption) ?_) | (with_reducible refine bl_drewN ?_ _)))
  have hvl := vld_len hv
  have hL39 : L ≤ 39 := by have := HLL.out; omega
  obtain ⟨N, rfl⟩ : ∃ N : Nat, n = N := ⟨n.toNat, by omega⟩
  have HV := Lib.hid hv
  have HS := Lib.hid hs1
  have HVL := Lib.hid hvl
  clear hv hs1 hvl
  have hz1 := hb1.size
  have hz2 := HS.out.lt
  have hbw1 : Below w.heap.size w w1 := (((Below.refl w.heap.size w).alloc (Nat.le_refl _) _).alloc (by simp) _).trans (hb1.mono (by simp; omega))
  have c60 : w1.cell? ⟨w.heap.size, 0, none⟩ = some (.int .i64 f1) := by
    rw [hb1.cell (p := ⟨w.heap.size, 0, none⟩) (by simp; omega)]
    exact ((Blk.new w _ _).alloc _).cell 0
  have c61 : w1.cell? ⟨w.heap.size, 1, none⟩ = some (.int .i64 f2) := by
    rw [hb1.cell (p := ⟨w.heap.size, 1, none⟩) (by simp; omega)]
    exact ((Blk.new w _ _).alloc _).cell 1
  have c70 : w1.cell? ⟨w.heap.size + 1, 0, none⟩ = some (.slice Ao M capo) := by
    rw [hb1.cell (p := ⟨w.heap.size + 1, 0, none⟩) (by simp)]
    exact (Blk.new' _ _ _ _ (by simp)).cell 0
  have HB1 := Lib.hid hb1
  clear hb1
  simp only [World.size_alloc] at hz1 hz2 HS
  have hF := fun w => isFreq_c f1 f2 w
  cases hsd : sdV f1 f2
  · rw [hsd] at hF
    have hp : plyG N l f1 f2 M off = false := by simp [plyG, hsd]
    have HP := Lib.hid hp
    have HF := Lib.hid hF
    clear hsd hp hF
    go_wp2_with (go_at_call 37; ((with_reducible refine (HF.out _).mono ?_); rintro e w' ⟨rfl, hb⟩; obtain ⟨hz, hc, hf⟩ := bcl hb (by first | (simp; rfl) | rfl)))
    refine bodyPost_ret (v := .tuple #[.slice none 0 0, .int .i64 1]) (by simp only [results, Try.results17]; go_simp) rfl ⟨?_, Or.inl ⟨HP.out, rfl⟩⟩
    (repeat (first | (with_reducible exact bl_refl _) | (with_reducible refine bl_drew ?_) | (with_reducible refine bl_alloc ?_ _) | (with_reducible refine bl_set' ?_ ?_; · (first | omega | (simp; done) | (simp; omega))) | (with_reducible refine bl_last (by assumption) ?_) | (with_reducible refine bl_drewN ?_ _)))
  rw [hsd] at hF
  have HF := Lib.hid hF
  have HSD := Lib.hid hsd
  clear hF hsd
  by_cases hML : M = L
  case neg =>
    have hp : plyG N l f1 f2 M off = false := by
      have := HLL.out
      unfold plyG
      rw [decide_eq_false (by omega)]
      simp
    have HP := Lib.hid hp
    have hne : ((M : Int) != (L : Int)) = true := by simp; omega
    clear hp hML
    go_wp2_with (go_at_call 37; ((with_reducible refine (HF.out _).mono ?_); rintro e w' ⟨rfl, hb⟩; obtain ⟨hz, hc, hf⟩ := bcl hb (by first | (simp; rfl) | rfl)))
    refine bodyPost_ret (v := .tuple #[.slice none 0 0, .int .i64 1]) (by simp only [results, Try.results17]; go_simp) rfl ⟨?_, Or.inl ⟨HP.out, rfl⟩⟩
    (repeat (first | (with_reducible exact bl_refl _) | (with_reducible refine bl_drew ?_) | (with_reducible refine bl_alloc ?_ _) | (with_reducible refine bl_set' ?_ ?_; · (first | omega | (simp; done) | (simp; omega))) | (with_reducible refine bl_last (by assumption) ?_) | (with_reducible refine bl_drewN ?_ _)))
  subst hML
  go_wp2_with (go_at_call 37; ((with_reducible refine (HF.out _).mono ?_); rintro e w' ⟨rfl, hb⟩; obtain ⟨hz, hc, hf⟩ := bcl hb (by first | (simp; rfl) | rfl)))
  have hbW : Below w.heap.size w w' := (hbw1.alloc hbw1.size _).trans (hb.mono (by simp; omega))
  have hzW : w1.heap.size + 1 ≤ w'.heap.size := hz
  have k60 : w'.cell? ⟨w.heap.size, 0, none⟩ = some (.int .i64 f1) := by rw [hb.cell (p := ⟨w.heap.size, 0, none⟩) (by simp; omega), World.cell?_alloc_lt _ _ _ (by show w.heap.size < _; omega)]; exact c60
  have k61 : w'.cell? ⟨w.heap.size, 1, none⟩ = some (.int .i64 f2) := by rw [hb.cell (p := ⟨w.heap.size, 1, none⟩) (by simp; omega), World.cell?_alloc_lt _ _ _ (by show w.heap.size < _; omega)]; exact c61
  have k70 : w'.cell? ⟨w.heap.size + 1, 0, none⟩ = some (.slice Ao M capo) := by rw [hb.cell (p := ⟨w.heap.size + 1, 0, none⟩) (by simp; omega), World.cell?_alloc_lt _ _ _ (by show w.heap.size + 1 < _; omega)]; exact c70
  have k100 : w'.cell? ⟨w1.heap.size, 0, none⟩ = some (.slice A M cap) := by rw [hb.cell (p := ⟨w1.heap.size, 0, none⟩) (by simp)]; exact (Blk.new w1 _ _).cell 0
  have k101 : w'.cell? ⟨w1.heap.size, 1, none⟩ = some (.slice (some ⟨w.heap.size + 1 + 1 + 2, 0, none⟩) N N) := by rw [hb.cell (p := ⟨w1.heap.size, 1, none⟩) (by simp)]; exact (Blk.new w1 _ _).cell 1
  have K60 := Lib.hid k60
  have K61 := Lib.hid k61
  have K70 := Lib.hid k70
  have K100 := Lib.hid k100
  have K101 := Lib.hid k101
  clear c60 c61 c70 k60 k61 k70 k100 k101 hz hc hf
  have HBW := Lib.hid hbW
  have HBB := Lib.hid hb
  clear hb hbW
  go_loopw [36] (fun i wr => ∃ k : Nat, k ≤ M ∧ i = .int .i64 k ∧ Hid (allV off k = true) ∧ Below w'.heap.size w' wr) (fun i _ => M - (intOf i).toNat)
  case atStart => exact ⟨0, Nat.zero_le _, rfl, rfl, Below.refl _ _⟩
  case round =>
    obtain ⟨k, hk, rfl, HK, hbr⟩ := hrel
    have hzr := hbr.size
    have hbwr : Below w.heap.size w wr := HBW.out.trans (hbr.mono HBW.out.size)
    by_cases hlt : k < M
    · obtain ⟨bl, o, rfl, hbl, hcl⟩ := HO.out (by omega)
      obtain ⟨u1, u2⟩ := hcl k hlt
      have cx := (hbwr.cell (p := ⟨bl, o + k * 2, none⟩) hbl).trans u1
      have cy := (hbwr.cell (p := ⟨bl, o + k * 2 + 1, none⟩) hbl).trans u2
      have hbl' : bl < wr.heap.size := by have := hbwr.size; omega
      have hVc := fun w => Valid_c (off k).1 (off k).2 w
      clear hcl u1 u2
      cases hvk : vR (off k).1 (off k).2
      · rw [hvk] at hVc
        have hp : plyG N l f1 f2 M off = false := by
          have : allV off M = false := by
            cases ha : allV off M with
            | false => rfl
            | true =>
              unfold allV at ha
              have := List.all_eq_true.1 ha k (by simp [hlt])
              rw [hvk] at this
              cases this
          simp [plyG, this]
        have HP := Lib.hid hp
        have HVC := Lib.hid hVc
        clear hvk hVc hp
        go_wp2_with (go_at_call 44; ((with_reducible refine (HVC.out _).mono ?_); rintro e w' ⟨rfl, hb⟩; obtain ⟨hz, hc, hf⟩ := bcl hb (by first | (simp; rfl) | rfl)))
        refine bodyPost_ret (v := .tuple #[.slice none 0 0, .int .i64 1]) (by simp only [results, Try.results17]; go_simp) rfl ⟨?_, Or.inl ⟨HP.out, rfl⟩⟩
        exact bl_trans (hbwr.alloc hbwr.size _) hb
      · rw [hvk] at hVc
        have hnx : allV off (k + 1) = true := by
          have := HK.out
          unfold allV at this ⊢
          rw [List.range_succ, List.all_append, this]
          simp [hvk]
        have HNX := Lib.hid hnx
        have HVC := Lib.hid hVc
        clear hvk hVc hnx
        go_wp2_with (go_at_call 44; ((with_reducible refine (HVC.out _).mono ?_); rintro e w' ⟨rfl, hb⟩; obtain ⟨hz, hc, hf⟩ := bcl hb (by first | (simp; rfl) | rfl)))
        go_roundw
        case rel => exact ⟨k + 1, hlt, by go_num, HNX.out, (hbr.alloc hbr.size _).trans (hb.mono (by simp; omega))⟩
        case measure => simp [intOf]; omega
    · have hkM : k = M := by omega
      subst hkM
      have hG : ∀ (i : Nat) (W : World), i < l.length → Below wr.heap.size wr W → Calls Try.prog 45 #[.int .i64 i, .pointer (some ⟨w.heap.size + 1, 0, none⟩)] W (Ret (.agg #[.int .i64 (off i).1, .int .i64 (off i).2]) W) := fun i W hi h3 => by
        have hi' : i < k := by have := HLL.out; omega
        obtain ⟨bl, o, rfl, hbl, hcl⟩ := HO.out (by omega)
        have hbW3 : Below w.heap.size w W := bl_trans hbwr h3
        obtain ⟨u1, u2⟩ := hcl i hi'
        have h0 := hbwr.size
        have h1 := h3.size
        exact play1_c i k (w.heap.size + 1) bl o capo _ _ W ((h3.cell (p := ⟨w.heap.size + 1, 0, none⟩) (by show w.heap.size + 1 < _; omega)).trans ((hbr.cell (p := ⟨w.heap.size + 1, 0, none⟩) (by show w.heap.size + 1 < _; omega)).trans K70.out)) (by omega) (by omega) hi'
          ((hbW3.cell (p := ⟨bl, _, none⟩) hbl).trans u1) ((hbW3.cell (p := ⟨bl, _, none⟩) hbl).trans u2)
      have HPL := Lib.hid (play_play1 N HV.out A cap (w.heap.size + 1 + 1 + 2) f1 f2 off ⟨w.heap.size + 1, 0, none⟩ wr ((HL.out.below hbwr).more hbwr.size) hG)
      have c60 := (hbr.cell (p := ⟨w.heap.size, 0, none⟩) (by show w.heap.size < _; omega)).trans K60.out
      have c61 := (hbr.cell (p := ⟨w.heap.size, 1, none⟩) (by show w.heap.size < _; omega)).trans K61.out
      have c100 := (hbr.cell (p := ⟨w1.heap.size, 0, none⟩) (by show w1.heap.size < _; omega)).trans K100.out
      have c101 := (hbr.cell (p := ⟨w1.heap.size, 1, none⟩) (by show w1.heap.size < _; omega)).trans K101.out
      rw [HLL.out] at HPL
      have hp : plyG N l f1 f2 k off = true := by
        unfold plyG
        rw [HV.out, HSD.out, HK.out, decide_eq_true HLL.out.symm]
        rfl
      have HP := Lib.hid hp
      clear hG hp
      go_wp2_with fail
      ((with_reducible refine (HPL.out).mono ?_); rintro e W4 ⟨hb4, ⟨hno, rfl⟩ | ⟨g, hso, rfl, hg⟩⟩)
      · have HNO := Lib.hid hno
        clear hno
        go_wp2
        refine bodyPost_ret (v := .tuple #[.slice none 0 0, .int .i64 3]) (by simp only [results, Try.results17]; go_simp) rfl ⟨bl_trans hbwr hb4, Or.inr (Or.inl ⟨HP.out, HNO.out, rfl⟩)⟩
      · have HSO := Lib.hid hso
        have HG4 := Lib.hid hg
        clear hso hg
        go_wp2
        refine bodyPost_ret (v := .tuple #[.slice (some ⟨wr.heap.size + 2, 0, none⟩) N N, .int .i64 0]) (by simp only [results, Try.results17]; go_simp) rfl ⟨bl_trans hbwr hb4, Or.inr (Or.inr ⟨HP.out, g, _, HSO.out, rfl, RatsR.of_blk HG4.out⟩)⟩
end Go.Proofs.Ytkgklmmkkhbimaa
