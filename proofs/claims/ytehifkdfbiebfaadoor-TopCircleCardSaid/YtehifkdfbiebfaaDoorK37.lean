/- Bench: Play and Run. Bench: Run. -/
import Derived.Test.YtehifkdfbiebfaaDoorK36
import Derived.Test.YtehifkdfbiebfaaDoorK31
namespace Go.Proofs.YtehifkdfbiebfaaDoor
open Go.RowKit

/-- The address A of a slice of N frequencies. -/
def RatsR (w : World) (B : Nat) (A : Option Addr) (N : Nat) (g : Nat → Int × Int) : Prop :=
  0 < N → ∃ b off, A = some ⟨b, off, none⟩ ∧ b < B ∧ ∀ x, x < N → w.cell? ⟨b, off + x * 2, none⟩ = some (.int .i64 (g x).1) ∧ w.cell? ⟨b, off + x * 2 + 1, none⟩ = some (.int .i64 (g x).2)
theorem RatsR.below {w w' : World} {B N : Nat} {A : Option Addr} {g : Nat → Int × Int} (h : RatsR w B A N g) (hb : Below B w w') : RatsR w' B A N g := fun h0 => by
  obtain ⟨b, off, hA, hB, hc⟩ := h h0
  exact ⟨b, off, hA, hB, fun x hx => ⟨(hb.cell (p := ⟨b, _, none⟩) hB).trans (hc x hx).1, (hb.cell (p := ⟨b, _, none⟩) hB).trans (hc x hx).2⟩⟩
theorem RatsR.more {w : World} {B B' N : Nat} {A : Option Addr} {g : Nat → Int × Int} (h : RatsR w B A N g) (hB : B ≤ B') : RatsR w B' A N g := fun h0 => by
  obtain ⟨b, off, hA, hb, hc⟩ := h h0
  exact ⟨b, off, hA, by omega, hc⟩
theorem RatsR.of_blk {w : World} {g0 N : Nat} {g : Nat → Int × Int} (h : Blk w g0 25 (ratA N g)) : RatsR w w.heap.size (some ⟨g0, 0, none⟩) N g := fun _ =>
  ⟨g0, 0, rfl, h.lt, fun x hx => ⟨by rw [Nat.zero_add]; exact (h.cell _).trans (ratA_0 N g hx), by rw [Nat.zero_add]; exact (h.cell _).trans (ratA_1 N g hx)⟩⟩

set_option maxHeartbeats 400000 in
theorem run1_c (i : Nat) (B : Nat) (e1 e2 : Int) (w : World) (h0 : w.cell? ⟨B, 0, none⟩ = some (.int .i64 e1)) (h1 : w.cell? ⟨B, 1, none⟩ = some (.int .i64 e2)) (hB : B < w.heap.size) (hl : -9223372036854775807 ≤ e1) (hh : e1 ≤ 9223372036854775807) :
    Calls Tryd.prog 64 #[.int .i64 i, .pointer (some ⟨B, 0, none⟩)] w (Ret (.agg #[.int .i64 (-e1), .int .i64 e2]) w) := by
  go_enter Tryd.func64, Tryd.ntmps64
  go_wp2
  (refine bodyPost_ret (v := .agg #[.int .i64 (-e1), .int .i64 e2]) (by simp only [results, Tryd.results64]; go_simp) rfl ⟨rfl, ?_⟩)
  (repeat (first | (with_reducible exact bl_refl _) | (with_reducible refine bl_drew ?_) | (with_reducible refine bl_alloc ?_ _) | (with_reducible refine bl_set' ?_ ?_; · (first | omega | (simp; done) | (simp; omega))) | (with_reducible refine bl_last (by assumption) ?_) | (with_reducible refine bl_drewN ?_ _)))
set_option maxHeartbeats 400000 in
theorem run2_c (i : Nat) (B : Nat) (e1 e2 : Int) (w : World) (h0 : w.cell? ⟨B, 0, none⟩ = some (.int .i64 e1)) (h1 : w.cell? ⟨B, 1, none⟩ = some (.int .i64 e2)) (hB : B < w.heap.size) :
    Calls Tryd.prog 65 #[.int .i64 i, .pointer (some ⟨B, 0, none⟩)] w (Ret (.agg #[.int .i64 e1, .int .i64 e2]) w) := by
  go_enter Tryd.func65, Tryd.ntmps65
  go_wp2
  (refine bodyPost_ret (v := .agg #[.int .i64 e1, .int .i64 e2]) (by simp only [results, Tryd.results65]; go_simp) rfl ⟨rfl, ?_⟩)
  (repeat (first | (with_reducible exact bl_refl _) | (with_reducible refine bl_drew ?_) | (with_reducible refine bl_alloc ?_ _) | (with_reducible refine bl_set' ?_ ?_; · (first | omega | (simp; done) | (simp; omega))) | (with_reducible refine bl_last (by assumption) ?_) | (with_reducible refine bl_drewN ?_ _)))
set_option maxHeartbeats 400000 in
theorem play1_c (i L B b off cap : Nat) (u v : Int) (w : World) (h0 : w.cell? ⟨B, 0, none⟩ = some (.slice (some ⟨b, off, none⟩) L cap)) (hB : B < w.heap.size) (hb : b < w.heap.size) (hi : i < L)
    (hu : w.cell? ⟨b, off + i * 2, none⟩ = some (.int .i64 u)) (hv : w.cell? ⟨b, off + i * 2 + 1, none⟩ = some (.int .i64 v)) :
    Calls Tryd.prog 54 #[.int .i64 i, .pointer (some ⟨B, 0, none⟩)] w (Ret (.agg #[.int .i64 u, .int .i64 v]) w) := by
  go_enter Tryd.func54, Tryd.ntmps54
  go_wp2
  (refine bodyPost_ret (v := .agg #[.int .i64 u, .int .i64 v]) (by simp only [results, Tryd.results54]; go_simp) rfl ⟨rfl, ?_⟩)
  (repeat (first | (with_reducible exact bl_refl _) | (with_reducible refine bl_drew ?_) | (with_reducible refine bl_alloc ?_ _) | (with_reducible refine bl_set' ?_ ?_; · (first | omega | (simp; done) | (simp; omega))) | (with_reducible refine bl_last (by assumption) ?_) | (with_reducible refine bl_drewN ?_ _)))

def allV (off : Nat → Int × Int) (L : Nat) : Bool := (List.range L).all fun i => vR (off i).1 (off i).2
def plyG (n : Int) (l : List Bt) (f1 f2 : Int) (M : Nat) (off : Nat → Int × Int) : Bool := vld n l && (sdV f1 f2 && (decide (M = l.length) && allV off M))
/-- What Play leaves. -/
def PlyP (n : Int) (l : List Bt) (f1 f2 : Int) (M : Nat) (off : Nat → Int × Int) (w : World) (e : Ending) (w' : World) : Prop :=
  Below w.heap.size w w' ∧ ((plyG n l f1 f2 M off = false ∧ e = .returned (.tuple #[.slice none 0 0, .int .i64 1])) ∨ (plyG n l f1 f2 M off = true ∧ plO l (f1, f2) off l.length = none ∧ e = .returned (.tuple #[.slice none 0 0, .int .i64 3])) ∨
    (plyG n l f1 f2 M off = true ∧ ∃ g A, plO l (f1, f2) off l.length = some g ∧ e = .returned (.tuple #[.slice A n.toNat n.toNat, .int .i64 0]) ∧ RatsR w' w'.heap.size A n.toNat g))

set_option maxRecDepth 100000 in
set_option maxHeartbeats 4000000 in
theorem Play_c (n : Int) (l : List Bt) (f1 f2 : Int) (M : Nat) (off : Nat → Int × Int) (A Ao : Option Addr) (cap capo : Nat) (w : World) (hl : Lst w w.heap.size A l) (ho : RatsR w w.heap.size Ao M off) (hlen : l.length ≤ 9223372036854775807) (hM : M ≤ 9223372036854775807) :
    Calls Tryd.prog 10 #[.int .i64 n, .slice A l.length cap, .agg #[.int .i64 f1, .int .i64 f2], .slice Ao M capo] w (PlyP n l f1 f2 M off w) := by
  have hmf : ∀ (fn : Fn) (first cap : Array Value) (w : World), (Instr.makeFunc fn first cap).run Tryd.prog w = .ok (.func fn first cap) w := fun _ _ _ _ => rfl
  have HN := Lib.hid (fun o o' => newPlan_c n l A cap ((w.alloc o).alloc o') ((hl.below (((Below.refl _ _).alloc (Nat.le_refl _) o).alloc (by simp) o')).more (by simp; omega)) hlen)
  have HL := Lib.hid hl
  have HO := Lib.hid ho
  clear hl ho
  generalize hLL : l.length = L at *
  have HLL := Lib.hid hLL
  clear hLL
  go_enter Tryd.func10, Tryd.ntmps10
  go_wp2_with fail
  ((with_reducible refine (HN.out _ _).mono ?_); rintro e w1 ⟨hb1, ⟨hv, rfl⟩ | ⟨hv, rfl, hs1⟩⟩)
  · have hp : plyG n l f1 f2 M off = false := by simp [plyG, hv]
    have HP := Lib.hid hp
    clear hv hp
    go_wp2
    refine bodyPost_ret (v := .tuple #[.slice none 0 0, .int .i64 1]) (by simp only [results, Tryd.results10]; go_simp) rfl ⟨?_, Or.inl ⟨HP.out, rfl⟩⟩
    (repeat (first | (with_reducible exact bl_refl _) | (with_reducible refine bl_drew ?_) | (with_reducible refine bl_alloc ?_ _) | (with_reducible refine bl_set' ?_ ?_; · (first | omega | (simp; done) | (simp; omega))) | (with_reducible refine bl_last (by assumption) ?_) | (with_reducible refine bl_drewN ?_ _)))
  have hvl := vld_len hv
  have hL39 : L ≤ 39 := by have := HLL.out; omega
  obtain ⟨N, rfl⟩ : ∃ N : Nat, n = N := ⟨n.toNat, by omega⟩
  have HV := Lib.hid hv
  have HS := Lib.hid hs1
  have HVL := Lib.hid hvl
  clear hv hs1 hvl
  have hz1 := hb1.size
  have hz2 := HS.out.lt
  have hbw1 : Below w.heap.size w w1 := (((Below.refl w.heap.size w).alloc (Nat.le_refl _) _).alloc (by simp) _).trans (hb1.mono (by simp; omega))
  have c60 : w1.cell? ⟨w.heap.size, 0, none⟩ = some (.int .i64 f1) := by
    rw [hb1.cell (p := ⟨w.heap.size, 0, none⟩) (by simp; omega)]
    exact ((Blk.new w _ _).alloc _).cell 0
  have c61 : w1.cell? ⟨w.heap.size, 1, none⟩ = some (.int .i64 f2) := by
    rw [hb1.cell (p := ⟨w.heap.size, 1, none⟩) (by simp; omega)]
    exact ((Blk.new w _ _).alloc _).cell 1
  have c70 : w1.cell? ⟨w.heap.size + 1, 0, none⟩ = some (.slice Ao M capo) := by
    rw [hb1.cell (p := ⟨w.heap.size + 1, 0, none⟩) (by simp)]
    exact (Blk.new' _ _ _ _ (by simp)).cell 0
  have HB1 := Lib.hid hb1
  clear hb1
  simp only [World.size_alloc] at hz1 hz2 HS
  have hF := fun w => isFreq_c f1 f2 w
  cases hsd : sdV f1 f2
  · rw [hsd] at hF
    have hp : plyG N l f1 f2 M off = false := by simp [plyG, hsd]
    have HP := Lib.hid hp
    have HF := Lib.hid hF
    clear hsd hp hF
    go_wp2_with (go_at_call 51; ((with_reducible refine (HF.out _).mono ?_); rintro e w' ⟨rfl, hb⟩; obtain ⟨hz, hc, hf⟩ := bcl hb (by first | (simp; rfl) | rfl)))
    refine bodyPost_ret (v := .tuple #[.slice none 0 0, .int .i64 1]) (by simp only [results, Tryd.results10]; go_simp) rfl ⟨?_, Or.inl ⟨HP.out, rfl⟩⟩
    (repeat (first | (with_reducible exact bl_refl _) | (with_reducible refine bl_drew ?_) | (with_reducible refine bl_alloc ?_ _) | (with_reducible refine bl_set' ?_ ?_; · (first | omega | (simp; done) | (simp; omega))) | (with_reducible refine bl_last (by assumption) ?_) | (with_reducible refine bl_drewN ?_ _)))
  rw [hsd] at hF
  have HF := Lib.hid hF
  have HSD := Lib.hid hsd
  clear hF hsd
  by_cases hML : M = L
  case neg =>
    have hp : plyG N l f1 f2 M off = false := by
      have := HLL.out
      unfold plyG
      rw [decide_eq_false (by omega)]
      simp
    have HP := Lib.hid hp
    have hne : ((M : Int) != (L : Int)) = true := by simp; omega
    clear hp hML
    go_wp2_with (go_at_call 51; ((with_reducible refine (HF.out _).mono ?_); rintro e w' ⟨rfl, hb⟩; obtain ⟨hz, hc, hf⟩ := bcl hb (by first | (simp; rfl) | rfl)))
    refine bodyPost_ret (v := .tuple #[.slice none 0 0, .int .i64 1]) (by simp only [results, Tryd.results10]; go_simp) rfl ⟨?_, Or.inl ⟨HP.out, rfl⟩⟩
    (repeat (first | (with_reducible exact bl_refl _) | (with_reducible refine bl_drew ?_) | (with_reducible refine bl_alloc ?_ _) | (with_reducible refine bl_set' ?_ ?_; · (first | omega | (simp; done) | (simp; omega))) | (with_reducible refine bl_last (by assumption) ?_) | (with_reducible refine bl_drewN ?_ _)))
  subst hML
  go_wp2_with (go_at_call 51; ((with_reducible refine (HF.out _).mono ?_); rintro e w' ⟨rfl, hb⟩; obtain ⟨hz, hc, hf⟩ := bcl hb (by first | (simp; rfl) | rfl)))
  have hbW : Below w.heap.size w w' := (hbw1.alloc hbw1.size _).trans (hb.mono (by simp; omega))
  have hzW : w1.heap.size + 1 ≤ w'.heap.size := hz
  have k60 : w'.cell? ⟨w.heap.size, 0, none⟩ = some (.int .i64 f1) := by rw [hb.cell (p := ⟨w.heap.size, 0, none⟩) (by simp; omega), World.cell?_alloc_lt _ _ _ (by show w.heap.size < _; omega)]; exact c60
  have k61 : w'.cell? ⟨w.heap.size, 1, none⟩ = some (.int .i64 f2) := by rw [hb.cell (p := ⟨w.heap.size, 1, none⟩) (by simp; omega), World.cell?_alloc_lt _ _ _ (by show w.heap.size < _; omega)]; exact c61
  have k70 : w'.cell? ⟨w.heap.size + 1, 0, none⟩ = some (.slice Ao M capo) := by rw [hb.cell (p := ⟨w.heap.size + 1, 0, none⟩) (by simp; omega), World.cell?_alloc_lt _ _ _ (by show w.heap.size + 1 < _; omega)]; exact c70
  have k100 : w'.cell? ⟨w1.heap.size, 0, none⟩ = some (.slice A M cap) := by rw [hb.cell (p := ⟨w1.heap.size, 0, none⟩) (by simp)]; exact (Blk.new w1 _ _).cell 0
  have k101 : w'.cell? ⟨w1.heap.size, 1, none⟩ = some (.slice (some ⟨w.heap.size + 1 + 1 + 2, 0, none⟩) N N) := by rw [hb.cell (p := ⟨w1.heap.size, 1, none⟩) (by simp)]; exact (Blk.new w1 _ _).cell 1
  have K60 := Lib.hid k60
  have K61 := Lib.hid k61
  have K70 := Lib.hid k70
  have K100 := Lib.hid k100
  have K101 := Lib.hid k101
  clear c60 c61 c70 k60 k61 k70 k100 k101 hz hc hf
  have HBW := Lib.hid hbW
  have HBB := Lib.hid hb
  clear hb hbW
  go_loopw [36] (fun i wr => ∃ k : Nat, k ≤ M ∧ i = .int .i64 k ∧ Hid (allV off k = true) ∧ Below w'.heap.size w' wr) (fun i _ => M - (intOf i).toNat)
  case atStart => exact ⟨0, Nat.zero_le _, rfl, rfl, Below.refl _ _⟩
  case round =>
    obtain ⟨k, hk, rfl, HK, hbr⟩ := hrel
    have hzr := hbr.size
    have hbwr : Below w.heap.size w wr := HBW.out.trans (hbr.mono HBW.out.size)
    by_cases hlt : k < M
    · obtain ⟨bl, o, rfl, hbl, hcl⟩ := HO.out (by omega)
      obtain ⟨u1, u2⟩ := hcl k hlt
      have cx := (hbwr.cell (p := ⟨bl, o + k * 2, none⟩) hbl).trans u1
      have cy := (hbwr.cell (p := ⟨bl, o + k * 2 + 1, none⟩) hbl).trans u2
      have hbl' : bl < wr.heap.size := by have := hbwr.size; omega
      have hVc := fun w => Valid_c (off k).1 (off k).2 w
      clear hcl u1 u2
      cases hvk : vR (off k).1 (off k).2
      · rw [hvk] at hVc
        have hp : plyG N l f1 f2 M off = false := by
          have : allV off M = false := by
            cases ha : allV off M with
            | false => rfl
            | true =>
              unfold allV at ha
              have := List.all_eq_true.1 ha k (by simp [hlt])
              rw [hvk] at this
              cases this
          simp [plyG, this]
        have HP := Lib.hid hp
        have HVC := Lib.hid hVc
        clear hvk hVc hp
        go_wp2_with (go_at_call 52; ((with_reducible refine (HVC.out _).mono ?_); rintro e w' ⟨rfl, hb⟩; obtain ⟨hz, hc, hf⟩ := bcl hb (by first | (simp; rfl) | rfl)))
        refine bodyPost_ret (v := .tuple #[.slice none 0 0, .int .i64 1]) (by simp only [results, Tryd.results10]; go_simp) rfl ⟨?_, Or.inl ⟨HP.out, rfl⟩⟩
        exact bl_trans (hbwr.alloc hbwr.size _) hb
      · rw [hvk] at hVc
        have hnx : allV off (k + 1) = true := by
          have := HK.out
          unfold allV at this ⊢
          rw [List.range_succ, List.all_append, this]
          simp [hvk]
        have HNX := Lib.hid hnx
        have HVC := Lib.hid hVc
        clear hvk hVc hnx
        go_wp2_with (go_at_call 52; ((with_reducible refine (HVC.out _).mono ?_); rintro e w' ⟨rfl, hb⟩; obtain ⟨hz, hc, hf⟩ := bcl hb (by first | (simp; rfl) | rfl)))
        go_roundw
        case rel => exact ⟨k + 1, hlt, by go_num, HNX.out, (hbr.alloc hbr.size _).trans (hb.mono (by simp; omega))⟩
        case measure => simp [intOf]; omega
    · have hkM : k = M := by omega
      subst hkM
      have hG : ∀ (i : Nat) (W : World), i < l.length → Below wr.heap.size wr W → Calls Tryd.prog 54 #[.int .i64 i, .pointer (some ⟨w.heap.size + 1, 0, none⟩)] W (Ret (.agg #[.int .i64 (off i).1, .int .i64 (off i).2]) W) := fun i W hi h3 => by
        have hi' : i < k := by have := HLL.out; omega
        obtain ⟨bl, o, rfl, hbl, hcl⟩ := HO.out (by omega)
        have hbW3 : Below w.heap.size w W := bl_trans hbwr h3
        obtain ⟨u1, u2⟩ := hcl i hi'
        have h0 := hbwr.size
        have h1 := h3.size
        exact play1_c i k (w.heap.size + 1) bl o capo _ _ W ((h3.cell (p := ⟨w.heap.size + 1, 0, none⟩) (by show w.heap.size + 1 < _; omega)).trans ((hbr.cell (p := ⟨w.heap.size + 1, 0, none⟩) (by show w.heap.size + 1 < _; omega)).trans K70.out)) (by omega) (by omega) hi'
          ((hbW3.cell (p := ⟨bl, _, none⟩) hbl).trans u1) ((hbW3.cell (p := ⟨bl, _, none⟩) hbl).trans u2)
      have HPL := Lib.hid (play_play1 N HV.out A cap (w.heap.size + 1 + 1 + 2) f1 f2 off ⟨w.heap.size + 1, 0, none⟩ wr ((HL.out.below hbwr).more hbwr.size) hG)
      have c60 := (hbr.cell (p := ⟨w.heap.size, 0, none⟩) (by show w.heap.size < _; omega)).trans K60.out
      have c61 := (hbr.cell (p := ⟨w.heap.size, 1, none⟩) (by show w.heap.size < _; omega)).trans K61.out
      have c100 := (hbr.cell (p := ⟨w1.heap.size, 0, none⟩) (by show w1.heap.size < _; omega)).trans K100.out
      have c101 := (hbr.cell (p := ⟨w1.heap.size, 1, none⟩) (by show w1.heap.size < _; omega)).trans K101.out
      rw [HLL.out] at HPL
      have hp : plyG N l f1 f2 k off = true := by
        unfold plyG
        rw [HV.out, HSD.out, HK.out, decide_eq_true HLL.out.symm]
        rfl
      have HP := Lib.hid hp
      clear hG hp
      go_wp2_with fail
      ((with_reducible refine (HPL.out).mono ?_); rintro e W4 ⟨hb4, ⟨hno, rfl⟩ | ⟨g, hso, rfl, hg⟩⟩)
      · have HNO := Lib.hid hno
        clear hno
        go_wp2
        refine bodyPost_ret (v := .tuple #[.slice none 0 0, .int .i64 3]) (by simp only [results, Tryd.results10]; go_simp) rfl ⟨bl_trans hbwr hb4, Or.inr (Or.inl ⟨HP.out, HNO.out, rfl⟩)⟩
      · have HSO := Lib.hid hso
        have HG4 := Lib.hid hg
        clear hso hg
        go_wp2
        refine bodyPost_ret (v := .tuple #[.slice (some ⟨wr.heap.size + 2, 0, none⟩) N N, .int .i64 0]) (by simp only [results, Tryd.results10]; go_simp) rfl ⟨bl_trans hbwr hb4, Or.inr (Or.inr ⟨HP.out, g, _, HSO.out, rfl, RatsR.of_blk HG4.out⟩)⟩
end Go.Proofs.YtehifkdfbiebfaaDoor
namespace Go.Proofs.YtehifkdfbiebfaaDoor
open Go.RowKit

/-- The cells of the first k bands. -/
def bandL (g h : Nat → Int × Int) (k : Nat) : List Value := (List.range k).flatMap fun x => [.int .i64 (g x).1, .int .i64 (g x).2, .int .i64 (h x).1, .int .i64 (h x).2]
theorem bandL_succ (g h : Nat → Int × Int) (k : Nat) : bandL g h (k + 1) = bandL g h k ++ [.int .i64 (g k).1, .int .i64 (g k).2, .int .i64 (h k).1, .int .i64 (h k).2] := by
  simp [bandL, List.range_succ]
theorem bandL_len (g h : Nat → Int × Int) : ∀ k, (bandL g h k).length = k * 4
  | 0 => rfl
  | k + 1 => by rw [bandL_succ, List.length_append, bandL_len g h k]; simp; omega
theorem bandL_get (g h : Nat → Int × Int) {x : Nat} : ∀ {k : Nat}, x < k → (bandL g h k)[x * 4]? = some (.int .i64 (g x).1) ∧ (bandL g h k)[x * 4 + 1]? = some (.int .i64 (g x).2) ∧ (bandL g h k)[x * 4 + 2]? = some (.int .i64 (h x).1) ∧ (bandL g h k)[x * 4 + 3]? = some (.int .i64 (h x).2)
  | 0, h0 => absurd h0 (by omega)
  | k + 1, h0 => by
    rw [bandL_succ]
    have hl := bandL_len g h k
    by_cases e : x < k
    · obtain ⟨p1, p2, p3, p4⟩ := bandL_get g h e
      rw [List.getElem?_append_left (by omega), List.getElem?_append_left (by omega), List.getElem?_append_left (by omega), List.getElem?_append_left (by omega)]
      exact ⟨p1, p2, p3, p4⟩
    · have e' : x = k := by omega
      subst e'
      rw [List.getElem?_append_right (by omega), List.getElem?_append_right (by omega), List.getElem?_append_right (by omega), List.getElem?_append_right (by omega), hl]
      have q1 : x * 4 - x * 4 = 0 := by omega
      have q2 : x * 4 + 1 - x * 4 = 1 := by omega
      have q3 : x * 4 + 2 - x * 4 = 2 := by omega
      have q4 : x * 4 + 3 - x * 4 = 3 := by omega
      rw [q1, q2, q3, q4]
      exact ⟨rfl, rfl, rfl, rfl⟩
/-- The address A of a slice of N bands. -/
def BandsR (w : World) (B : Nat) (A : Option Addr) (N : Nat) (g h : Nat → Int × Int) : Prop :=
  0 < N → ∃ b off, A = some ⟨b, off, none⟩ ∧ b < B ∧ ∀ x, x < N → w.cell? ⟨b, off + x * 4, none⟩ = some (.int .i64 (g x).1) ∧ w.cell? ⟨b, off + x * 4 + 1, none⟩ = some (.int .i64 (g x).2) ∧
    w.cell? ⟨b, off + x * 4 + 2, none⟩ = some (.int .i64 (h x).1) ∧ w.cell? ⟨b, off + x * 4 + 3, none⟩ = some (.int .i64 (h x).2)
theorem BandsR.below {w w' : World} {B N : Nat} {A : Option Addr} {g h : Nat → Int × Int} (hh : BandsR w B A N g h) (hb : Below B w w') : BandsR w' B A N g h := fun h0 => by
  obtain ⟨b, off, hA, hB, hc⟩ := hh h0
  refine ⟨b, off, hA, hB, fun x hx => ?_⟩
  obtain ⟨p1, p2, p3, p4⟩ := hc x hx
  exact ⟨(hb.cell (p := ⟨b, _, none⟩) hB).trans p1, (hb.cell (p := ⟨b, _, none⟩) hB).trans p2, (hb.cell (p := ⟨b, _, none⟩) hB).trans p3, (hb.cell (p := ⟨b, _, none⟩) hB).trans p4⟩
theorem BandsR.more {w : World} {B B' N : Nat} {A : Option Addr} {g h : Nat → Int × Int} (hh : BandsR w B A N g h) (hB : B ≤ B') : BandsR w B' A N g h := fun h0 => by
  obtain ⟨b, off, hA, hb, hc⟩ := hh h0
  exact ⟨b, off, hA, by omega, hc⟩
theorem bands_of_own {w : World} {base n : Nat} {e : TypeId} {v : Value} {g h : Nat → Int × Int} (hn : 0 < n) (ho : w.ownsRow base e 4 v n (bandL g h n)) : ∃ A cap, v = .slice A n cap ∧ BandsR w w.heap.size A n g h := by
  rcases ho.2 with ⟨rfl, h0⟩ | ⟨g0, cap, cur, rfl, hb, hh, hc⟩
  · omega
  · refine ⟨_, cap, rfl, fun _ => ⟨g0, 0, rfl, (Array.getElem?_eq_some_iff.1 hh).1, fun x hx => ?_⟩⟩
    obtain ⟨p1, p2, p3, p4⟩ := bandL_get g h hx
    rw [Nat.zero_add]
    exact ⟨(World.ownsRow.cellAt ho _ (by omega)).trans p1, (World.ownsRow.cellAt ho _ (by omega)).trans p2, (World.ownsRow.cellAt ho _ (by omega)).trans p3, (World.ownsRow.cellAt ho _ (by omega)).trans p4⟩
theorem cell_four_new (w : World) (a b c d : Value) (t : TypeId) : ∀ (j : Nat) (u : Value), [a, b, c, d][j]? = some u → (w.alloc (.cells #[a, b, c, d] t)).cell? ((⟨w.heap.size, 0, none⟩ : Addr).add j) = some u := by
  intro j u hj
  have : (⟨w.heap.size, 0, none⟩ : Addr).add j = ⟨w.heap.size, j, none⟩ := by
    unfold Addr.add
    split
    · rename_i h; subst h; rfl
    · simp
  rw [this, (Blk.new w t #[a, b, c, d]).cell j]
  simpa using hj

def runG (n : Int) (l : List Bt) (f1 f2 e1 e2 : Int) : Bool := vld n l && (sdV f1 f2 && rtV e1 e2)
/-- What Run leaves. -/
def RunP (n : Int) (l : List Bt) (f1 f2 e1 e2 : Int) (w : World) (e : Ending) (w' : World) : Prop :=
  Below w.heap.size w w' ∧ ((runG n l f1 f2 e1 e2 = false ∧ e = .returned (.tuple #[.slice none 0 0, .int .i64 1])) ∨
    (runG n l f1 f2 e1 e2 = true ∧ (plO l (f1, f2) (fun _ => (-e1, e2)) l.length = none ∨ plO l (f1, f2) (fun _ => (e1, e2)) l.length = none) ∧ e = .returned (.tuple #[.slice none 0 0, .int .i64 3])) ∨
    (runG n l f1 f2 e1 e2 = true ∧ ∃ g h A cap, plO l (f1, f2) (fun _ => (-e1, e2)) l.length = some g ∧ plO l (f1, f2) (fun _ => (e1, e2)) l.length = some h ∧ e = .returned (.tuple #[.slice A n.toNat cap, .int .i64 0]) ∧ BandsR w' w'.heap.size A n.toNat g h))

theorem Tryd.infoBand : (Tryd.prog.info? 68).map (fun i => (i.zero, i.size, i.bytes)) = some (some (.agg #[.int .i64 0, .int .i64 0, .int .i64 0, .int .i64 0]), 4, 32) := by kernel_rfl

set_option maxRecDepth 100000 in
set_option maxHeartbeats 4000000 in
theorem Run_c (n : Int) (l : List Bt) (f1 f2 e1 e2 : Int) (A : Option Addr) (cap : Nat) (w : World) (hl : Lst w w.heap.size A l) (hlen : l.length ≤ 9223372036854775807) :
    Calls Tryd.prog 18 #[.int .i64 n, .slice A l.length cap, .agg #[.int .i64 f1, .int .i64 f2], .agg #[.int .i64 e1, .int .i64 e2]] w (RunP n l f1 f2 e1 e2 w) := by
  have hmf : ∀ (fn : Fn) (first cap : Array Value) (w : World), (Instr.makeFunc fn first cap).run Tryd.prog w = .ok (.func fn first cap) w := fun _ _ _ _ => rfl
  obtain ⟨i0, hi, hz0, hz1, hz2⟩ := info_parts Tryd.infoBand
  have HN := Lib.hid (fun o o' => newPlan_c n l A cap ((w.alloc o).alloc o') ((hl.below (((Below.refl _ _).alloc (Nat.le_refl _) o).alloc (by simp) o')).more (by simp; omega)) hlen)
  have HL := Lib.hid hl
  clear hl
  generalize hLL : l.length = L at *
  have HLL := Lib.hid hLL
  clear hLL
  go_enter Tryd.func18, Tryd.ntmps18
  go_wp2_with fail
  ((with_reducible refine (HN.out _ _).mono ?_); rintro e w1 ⟨hb1, ⟨hv, rfl⟩ | ⟨hv, rfl, hs1⟩⟩)
  · have hp : runG n l f1 f2 e1 e2 = false := by simp [runG, hv]
    have HP := Lib.hid hp
    clear hv hp
    go_wp2
    refine bodyPost_ret (v := .tuple #[.slice none 0 0, .int .i64 1]) (by simp only [results, Tryd.results18]; go_simp) rfl ⟨?_, Or.inl ⟨HP.out, rfl⟩⟩
    (repeat (first | (with_reducible exact bl_refl _) | (with_reducible refine bl_drew ?_) | (with_reducible refine bl_alloc ?_ _) | (with_reducible refine bl_set' ?_ ?_; · (first | omega | (simp; done) | (simp; omega))) | (with_reducible refine bl_last (by assumption) ?_) | (with_reducible refine bl_drewN ?_ _)))
  have hvl := vld_len hv
  have hL39 : L ≤ 39 := by have := HLL.out; omega
  obtain ⟨N, rfl⟩ : ∃ N : Nat, n = N := ⟨n.toNat, by omega⟩
  have hN0 : 0 < N := by omega
  have hN40 : N ≤ 40 := by omega
  have HV := Lib.hid hv
  have HVL := Lib.hid hvl
  clear hv hs1 hvl
  have hzz1 := hb1.size
  have hbw1 : Below w.heap.size w w1 := (((Below.refl w.heap.size w).alloc (Nat.le_refl _) _).alloc (by simp) _).trans (hb1.mono (by simp; omega))
  have c60 : w1.cell? ⟨w.heap.size, 0, none⟩ = some (.int .i64 f1) := by
    rw [hb1.cell (p := ⟨w.heap.size, 0, none⟩) (by simp; omega)]
    exact ((Blk.new w _ _).alloc _).cell 0
  have c61 : w1.cell? ⟨w.heap.size, 1, none⟩ = some (.int .i64 f2) := by
    rw [hb1.cell (p := ⟨w.heap.size, 1, none⟩) (by simp; omega)]
    exact ((Blk.new w _ _).alloc _).cell 1
  have c70 : w1.cell? ⟨w.heap.size + 1, 0, none⟩ = some (.int .i64 e1) := by
    rw [hb1.cell (p := ⟨w.heap.size + 1, 0, none⟩) (by simp)]
    exact (Blk.new' _ _ _ _ (by simp)).cell 0
  have c71 : w1.cell? ⟨w.heap.size + 1, 1, none⟩ = some (.int .i64 e2) := by
    rw [hb1.cell (p := ⟨w.heap.size + 1, 1, none⟩) (by simp)]
    exact (Blk.new' _ _ _ _ (by simp)).cell 1
  have HB1 := Lib.hid hb1
  clear hb1
  simp only [World.size_alloc] at hzz1
  have hF := fun w => isFreq_c f1 f2 w
  cases hsd : sdV f1 f2
  · rw [hsd] at hF
    have hp : runG N l f1 f2 e1 e2 = false := by simp [runG, hsd]
    have HP := Lib.hid hp
    have HF := Lib.hid hF
    clear hsd hp hF
    go_wp2_with (go_at_call 51; ((with_reducible refine (HF.out _).mono ?_); rintro e w' ⟨rfl, hb⟩; obtain ⟨hz, hc, hf⟩ := bcl hb (by first | (simp; rfl) | rfl)))
    refine bodyPost_ret (v := .tuple #[.slice none 0 0, .int .i64 1]) (by simp only [results, Tryd.results18]; go_simp) rfl ⟨?_, Or.inl ⟨HP.out, rfl⟩⟩
    (repeat (first | (with_reducible exact bl_refl _) | (with_reducible refine bl_drew ?_) | (with_reducible refine bl_alloc ?_ _) | (with_reducible refine bl_set' ?_ ?_; · (first | omega | (simp; done) | (simp; omega))) | (with_reducible refine bl_last (by assumption) ?_) | (with_reducible refine bl_drewN ?_ _)))
  rw [hsd] at hF
  have HF := Lib.hid hF
  have HSD := Lib.hid hsd
  clear hF hsd
  have hR := fun w => isRate_c e1 e2 w
  cases hrt : rtV e1 e2
  · rw [hrt] at hR
    have hp : runG N l f1 f2 e1 e2 = false := by simp [runG, hrt]
    have HP := Lib.hid hp
    have HR := Lib.hid hR
    clear hrt hp hR
    go_wp2_with (first | (go_at_call 51; ((with_reducible refine (HF.out _).mono ?_); rintro e w' ⟨rfl, hb⟩; obtain ⟨hz, hc, hf⟩ := bcl hb (by first | (simp; rfl) | rfl))) | (go_at_call 63; ((with_reducible refine (HR.out _).mono ?_); rintro e w' ⟨rfl, hb⟩; obtain ⟨hz, hc, hf⟩ := bcl hb (by first | (simp; rfl) | rfl))))
    refine bodyPost_ret (v := .tuple #[.slice none 0 0, .int .i64 1]) (by simp only [results, Tryd.results18]; go_simp) rfl ⟨?_, Or.inl ⟨HP.out, rfl⟩⟩
    (repeat (first | (with_reducible exact bl_refl _) | (with_reducible refine bl_drew ?_) | (with_reducible refine bl_alloc ?_ _) | (with_reducible refine bl_set' ?_ ?_; · (first | omega | (simp; done) | (simp; omega))) | (with_reducible refine bl_last (by assumption) ?_) | (with_reducible refine bl_drewN ?_ _)))
  rw [hrt] at hR
  have HR := Lib.hid hR
  have HRT := Lib.hid hrt
  have hp : runG N l f1 f2 e1 e2 = true := by
    unfold runG
    rw [HV.out, HSD.out, hrt]
    rfl
  have HP := Lib.hid hp
  have hrt2 := rt_of hrt
  clear hR hrt hp
  go_wp2_with (go_at_call 51; ((with_reducible refine (HF.out _).mono ?_); rintro e w' ⟨rfl, hb⟩; obtain ⟨hz, hc, hf⟩ := bcl hb (by first | (simp; rfl) | rfl)))
  ((with_reducible refine (HR.out _).mono ?_); rintro e w2 ⟨rfl, hb2⟩)
  have hzw1 : w1.heap.size + 1 ≤ w'.heap.size := hz
  have hzw2 := hb2.size
  have hbA : Below w.heap.size w (w1.alloc (.cells #[.slice A L cap, .slice (some ⟨w.heap.size + 1 + 1 + 2, 0, none⟩) N N] 116)) := hbw1.alloc hbw1.size _
  have hbB : Below (w1.heap.size + 1) (w1.alloc (.cells #[.slice A L cap, .slice (some ⟨w.heap.size + 1 + 1 + 2, 0, none⟩) N N] 116)) w2 := Below.trans (hb.mono (by simp)) (hb2.mono (by omega))
  have hbw2 : Below w.heap.size w w2 := hbA.trans (hbB.mono (by omega))
  have k60 : w2.cell? ⟨w.heap.size, 0, none⟩ = some (.int .i64 f1) := by rw [hbB.cell (p := ⟨w.heap.size, 0, none⟩) (by show w.heap.size < _; omega), World.cell?_alloc_lt _ _ _ (by show w.heap.size < _; omega)]; exact c60
  have k61 : w2.cell? ⟨w.heap.size, 1, none⟩ = some (.int .i64 f2) := by rw [hbB.cell (p := ⟨w.heap.size, 1, none⟩) (by show w.heap.size < _; omega), World.cell?_alloc_lt _ _ _ (by show w.heap.size < _; omega)]; exact c61
  have k70 : w2.cell? ⟨w.heap.size + 1, 0, none⟩ = some (.int .i64 e1) := by rw [hbB.cell (p := ⟨w.heap.size + 1, 0, none⟩) (by show w.heap.size + 1 < _; omega), World.cell?_alloc_lt _ _ _ (by show w.heap.size + 1 < _; omega)]; exact c70
  have k71 : w2.cell? ⟨w.heap.size + 1, 1, none⟩ = some (.int .i64 e2) := by rw [hbB.cell (p := ⟨w.heap.size + 1, 1, none⟩) (by show w.heap.size + 1 < _; omega), World.cell?_alloc_lt _ _ _ (by show w.heap.size + 1 < _; omega)]; exact c71
  have k100 : w2.cell? ⟨w1.heap.size, 0, none⟩ = some (.slice A L cap) := by rw [hbB.cell (p := ⟨w1.heap.size, 0, none⟩) (by show w1.heap.size < _; omega)]; exact (Blk.new w1 _ _).cell 0
  have k101 : w2.cell? ⟨w1.heap.size, 1, none⟩ = some (.slice (some ⟨w.heap.size + 1 + 1 + 2, 0, none⟩) N N) := by rw [hbB.cell (p := ⟨w1.heap.size, 1, none⟩) (by show w1.heap.size < _; omega)]; exact (Blk.new w1 _ _).cell 1
  clear c60 c61 c70 c71 hz hc hf hb hbA hbB
  obtain ⟨hr0, hr1, hr2, hr3⟩ := hrt2
  have hw1lt : w1.heap.size < w2.heap.size := by omega
  have hG1 : ∀ (i : Nat) (W : World), i < l.length → Below w2.heap.size w2 W → Calls Tryd.prog 64 #[.int .i64 i, .pointer (some ⟨w.heap.size + 1, 0, none⟩)] W (Ret (.agg #[.int .i64 (-e1), .int .i64 e2]) W) := fun i W _ h3 =>
    run1_c i (w.heap.size + 1) e1 e2 W ((h3.cell (p := ⟨w.heap.size + 1, 0, none⟩) (by show w.heap.size + 1 < _; omega)).trans k70) ((h3.cell (p := ⟨w.heap.size + 1, 1, none⟩) (by show w.heap.size + 1 < _; omega)).trans k71) (by have := h3.size; omega) (by omega) (by omega)
  have hG2 : ∀ (W0 : World), Below w2.heap.size w2 W0 → ∀ (i : Nat) (W : World), i < l.length → Below W0.heap.size W0 W → Calls Tryd.prog 65 #[.int .i64 i, .pointer (some ⟨w.heap.size + 1, 0, none⟩)] W (Ret (.agg #[.int .i64 e1, .int .i64 e2]) W) := fun W0 h0 i W _ h3 =>
    run2_c i (w.heap.size + 1) e1 e2 W (((h0.trans (h3.mono h0.size)).cell (p := ⟨w.heap.size + 1, 0, none⟩) (by show w.heap.size + 1 < _; omega)).trans k70) (((h0.trans (h3.mono h0.size)).cell (p := ⟨w.heap.size + 1, 1, none⟩) (by show w.heap.size + 1 < _; omega)).trans k71) (by have := h3.size; have := h0.size; omega)
  have HPL1 := Lib.hid (play_run1 N HV.out A cap (w.heap.size + 1 + 1 + 2) f1 f2 (fun _ => (-e1, e2)) ⟨w.heap.size + 1, 0, none⟩ w2 ((HL.out.below hbw2).more hbw2.size) hG1)
  have HPL2 := Lib.hid (fun W0 (h0 : Below w2.heap.size w2 W0) => play_run2 N HV.out A cap (w.heap.size + 1 + 1 + 2) f1 f2 (fun _ => (e1, e2)) ⟨w.heap.size + 1, 0, none⟩ W0 ((HL.out.below (bl_trans hbw2 h0)).more (Nat.le_trans hbw2.size h0.size)) (hG2 W0 h0))
  rw [HLL.out] at HPL1 HPL2
  clear hG1 hG2
  go_wp2_with fail
  ((with_reducible refine (HPL1.out).mono ?_); rintro e w3 ⟨hb3, hlow⟩)
  have HP2 := HPL2.out w3 hb3
  have HP2 := Lib.hid HP2
  have q60 := (hb3.cell (p := ⟨w.heap.size, 0, none⟩) (by show w.heap.size < _; omega)).trans k60
  have q61 := (hb3.cell (p := ⟨w.heap.size, 1, none⟩) (by show w.heap.size < _; omega)).trans k61
  have q100 := (hb3.cell (p := ⟨w1.heap.size, 0, none⟩) hw1lt).trans k100
  have q101 := (hb3.cell (p := ⟨w1.heap.size, 1, none⟩) hw1lt).trans k101
  have hbw3 : Below w.heap.size w w3 := bl_trans hbw2 hb3
  rcases hlow with ⟨hno, rfl⟩ | ⟨g, hso, rfl, hg⟩
  · have HNO := Lib.hid hno
    clear hno
    go_wp2_with fail
    ((with_reducible refine (HP2.out).mono ?_); rintro e w4 ⟨hb4, ⟨hno2, rfl⟩ | ⟨g2, hso2, rfl, hg2⟩⟩)
    · clear hno2
      go_wp2
      refine bodyPost_ret (v := .tuple #[.slice none 0 0, .int .i64 3]) (by simp only [results, Tryd.results18]; go_simp) rfl ⟨bl_trans hbw3 hb4, Or.inr (Or.inl ⟨HP.out, Or.inl HNO.out, rfl⟩)⟩
    · clear hso2 hg2
      go_wp2
      refine bodyPost_ret (v := .tuple #[.slice none 0 0, .int .i64 3]) (by simp only [results, Tryd.results18]; go_simp) rfl ⟨bl_trans hbw3 hb4, Or.inr (Or.inl ⟨HP.out, Or.inl HNO.out, rfl⟩)⟩
  have HSO := Lib.hid hso
  have HG := Lib.hid hg
  clear hso hg
  go_wp2_with fail
  ((with_reducible refine (HP2.out).mono ?_); rintro e w4 ⟨hb4, ⟨hno2, rfl⟩ | ⟨g2, hso2, rfl, hg2⟩⟩)
  · have HNO := Lib.hid hno2
    clear hno2
    go_wp2
    refine bodyPost_ret (v := .tuple #[.slice none 0 0, .int .i64 3]) (by simp only [results, Tryd.results18]; go_simp) rfl ⟨bl_trans hbw3 hb4, Or.inr (Or.inl ⟨HP.out, Or.inr HNO.out, rfl⟩)⟩
  have HSO2 := Lib.hid hso2
  have HG2 := Lib.hid hg2
  have hbw4 : Below w.heap.size w w4 := bl_trans hbw3 hb4
  have HG4 : Hid (Blk w4 (w2.heap.size + 2) 25 (ratA N g)) := HG.out.below hb4 HG.out.lt
  have hl1 := HG4.out.lt
  have hl2 := HG2.out.lt
  clear hso2 hg2
  go_wp2
  go_loopw [16, 58] (fun v i wr => ∃ k : Nat, k ≤ N ∧ i = .int .i64 k ∧ Hid (wr.ownsRow w4.heap.size 68 4 v k (bandL g g2 k)) ∧ Below w4.heap.size w4 wr) (fun _ i _ => N - (intOf i).toNat)
  case atStart => exact ⟨0, Nat.zero_le _, rfl, World.ownsRow_nil _ _ _ _, Below.refl _ _⟩
  case round =>
    obtain ⟨k, hk, rfl, HO, hbr⟩ := hrel
    have hzr := hbr.size
    by_cases hlt : k < N
    · have a0 := (hbr.cell (p := ⟨w2.heap.size + 2, k * 2, none⟩) hl1).trans ((HG4.out.cell (k * 2)).trans (ratA_0 N g hlt))
      have a1 := (hbr.cell (p := ⟨w2.heap.size + 2, k * 2 + 1, none⟩) hl1).trans ((HG4.out.cell (k * 2 + 1)).trans (ratA_1 N g hlt))
      have b0 := (hbr.cell (p := ⟨w3.heap.size + 2, k * 2, none⟩) hl2).trans ((HG2.out.cell (k * 2)).trans (ratA_0 N g2 hlt))
      have b1 := (hbr.cell (p := ⟨w3.heap.size + 2, k * 2 + 1, none⟩) hl2).trans ((HG2.out.cell (k * 2 + 1)).trans (ratA_1 N g2 hlt))
      have HBS := Lib.hid (bandL_succ g g2 k)
      generalize (g k).1 = ga at *
      generalize (g k).2 = gb at *
      generalize (g2 k).1 = ha at *
      generalize (g2 k).2 = hb' at *
      go_wp2
      (refine wp_region_ble [0,1,2,3,4,5,6,7,8,9] [0] [10,11,12] (by kernel_rfl) (by kernel_rfl) (by rfl) (by repeat (first | (with_reducible refine panic_then ?_) | (with_reducible refine panic_block ?_) | (with_reducible exact panic_body) | exact panic_body | refine panic_then ?_ | refine panic_block ?_)) ?_
       simp only [pickI, pick, List.getElem?_cons_succ, List.getElem?_cons_zero]
       iterate 10 (first
         | (refine head_val (by rfl) (by first | exact wanted_free rfl | rfl) ?_
            apply Exists.intro
            refine ⟨fun X hX => ?_, ?_⟩
            · (obtain ⟨qz, qc, qf⟩ := bcl hX.out (by first | (simp; rfl) | rfl)
               go_simp
               first | done | rfl | exact ⟨rfl, rfl⟩)
            simp only [Act.put, List.setIfInBounds_toArray, List.set_cons_zero, List.set_cons_succ])
         | (refine head_pure (by rfl) (by first | exact wanted_free rfl | rfl) ?_
            apply Exists.intro
            refine ⟨fun X => ?_, ?_⟩
            · (go_simp
               first | done | rfl)
            simp only [Act.put, List.setIfInBounds_toArray, List.set_cons_zero, List.set_cons_succ])
         | (refine head_pass (by rfl) ?_
            simp only [Act.put, List.setIfInBounds_toArray, List.set_cons_zero, List.set_cons_succ]))
       refine head_nil ?_
       intro w' hw'
       have hb := hw'.out
       clear hw'
       obtain ⟨hz, hc, hf⟩ := bcl hb (by first | (simp; rfl) | rfl))
      have HO2 := Lib.hid (own_below HO.out hb)
      go_wp2_with (at_builtin; refine wpList_append_own _ rfl _ _ 59 rfl w4.heap.size 68 i0 (.agg #[.int .i64 0, .int .i64 0, .int .i64 0, .int .i64 0]) 4 32 Tryd.underlying59 hi hz0 hz1 hz2 rfl (by decide) _ _ _ rfl (HO2.out.alloc _) ⟨w'.heap.size, 0, none⟩ 1 1 [.int .i64 ga, .int .i64 gb, .int .i64 ha, .int .i64 hb'] rfl rfl (cell_four_new _ _ _ _ _ _) (fun u hu => by simp at hu; rcases hu with rfl | rfl | rfl | rfl <;> rfl) (by unfold maxLen; omega) (by omega) (by have := hb.size; simp; omega) ?_; intro v' w5 hown' hgrow _)
      go_roundw
      case rel =>
        refine ⟨k + 1, hlt, by go_num, ?_, ?_⟩
        · rw [HBS.out]
          exact hown'
        · refine ((hbr.trans (hb.mono hzr)).alloc (by have := hb.size; omega) _).grown hgrow (by have := hb.size; simp; omega) ?_
          intro g0 hg0
          exact (HO.out.lt g0 hg0).1
      case measure => simp [intOf]; omega
    · have hkN : k = N := by omega
      subst hkN
      obtain ⟨A', cap', rfl, hR⟩ := bands_of_own hN0 HO.out
      have HR' := Lib.hid hR
      clear hR
      go_wp2
      refine bodyPost_ret (v := .tuple #[.slice A' k cap', .int .i64 0]) (by simp only [results, Tryd.results18]; go_simp) rfl ⟨bl_trans hbw4 hbr, Or.inr (Or.inr ⟨HP.out, g, g2, A', cap', HSO.out, HSO2.out, rfl, HR'.out⟩)⟩
end Go.Proofs.YtehifkdfbiebfaaDoor
