/- PitchOrder: the walk (genlaw03.py prints it). -/
import Derived.Test.YtgbiiaaeabflnaaDoorHead03
import Derived.Test.YtgbiiaaeabflnaaDoorLawTrans
namespace Go.Proofs.YtgbiiaaeabflnaaDoor
open Go Go.RowKit

theorem ordr {a0 a1 a2 a3 a4 a5 b0 b1 b2 b3 b4 b5 c0 c1 c2 c3 c4 c5 : Int} (va : pV a0 a1 a2 a3 a4 a5 576 = true) (vb : pV b0 b1 b2 b3 b4 b5 576 = true) (vc : pV c0 c1 c2 c3 c4 c5 576 = true) : ∃ x y z u : Int, ∃ t : Bool, pcV a0 a1 a2 a3 a4 a5 b0 b1 b2 b3 b4 b5 = .tuple #[.int .i64 x, .int .i64 0] ∧ pcV b0 b1 b2 b3 b4 b5 a0 a1 a2 a3 a4 a5 = .tuple #[.int .i64 y, .int .i64 0] ∧ pcV b0 b1 b2 b3 b4 b5 c0 c1 c2 c3 c4 c5 = .tuple #[.int .i64 z, .int .i64 0] ∧ pcV a0 a1 a2 a3 a4 a5 c0 c1 c2 c3 c4 c5 = .tuple #[.int .i64 u, .int .i64 0] ∧
    (a0 == b0 && (a1 == b1 && (a2 == b2 && (a3 == b3 && (a4 == b4 && a5 == b5))))) = t ∧ ((x = -1 ∧ y = 1 ∧ t = false) ∨ (x = 0 ∧ y = 0 ∧ t = true) ∨ (x = 1 ∧ y = -1 ∧ t = false)) ∧ (z = -1 ∨ z = 0 ∨ z = 1) ∧ (u = -1 ∨ u = 0 ∨ u = 1) ∧ (x ≤ 0 → z ≤ 0 → u ≤ 0 ∧ (u = 0 ↔ x = 0 ∧ z = 0)) ∧ (0 ≤ x → 0 ≤ z → 0 ≤ u) := by
  refine ⟨_, _, _, _, _, pc_ok va vb, pc_ok vb va, pc_ok vb vc, pc_ok va vc, rfl, ?_, cmP_ways _ _ _ _ _ _ _ _ _ _ _ _, cmP_ways _ _ _ _ _ _ _ _ _ _ _ _, fun h1 h2 => cmP_trans h1 h2, fun h1 h2 => ?_⟩
  · have h0 := cmP_anti a0 a1 a2 a3 a4 a5 b0 b1 b2 b3 b4 b5
    have hz := @cmP_zero a0 a1 a2 a3 a4 a5 b0 b1 b2 b3 b4 b5
    rcases cmP_ways a0 a1 a2 a3 a4 a5 b0 b1 b2 b3 b4 b5 with h | h | h
    · left
      rw [h0, h]
      refine ⟨rfl, rfl, ?_⟩
      rw [Bool.eq_false_iff]
      intro hh
      simp only [Bool.and_eq_true, beq_iff_eq] at hh
      have := hz.2 hh
      omega
    · right; left
      rw [h0, h]
      refine ⟨rfl, rfl, ?_⟩
      simp only [Bool.and_eq_true, beq_iff_eq]
      exact hz.1 h
    · right; right
      rw [h0, h]
      refine ⟨rfl, rfl, ?_⟩
      rw [Bool.eq_false_iff]
      intro hh
      simp only [Bool.and_eq_true, beq_iff_eq] at hh
      have := hz.2 hh
      omega
  · have k1 := cmP_anti a0 a1 a2 a3 a4 a5 b0 b1 b2 b3 b4 b5
    have k2 := cmP_anti b0 b1 b2 b3 b4 b5 c0 c1 c2 c3 c4 c5
    have k3 := cmP_anti a0 a1 a2 a3 a4 a5 c0 c1 c2 c3 c4 c5
    have := (cmP_trans (show cmP c0 c1 c2 c3 c4 c5 b0 b1 b2 b3 b4 b5 ≤ 0 by omega) (show cmP b0 b1 b2 b3 b4 b5 a0 a1 a2 a3 a4 a5 ≤ 0 by omega)).1
    omega
set_option maxRecDepth 100000 in
set_option maxHeartbeats 16000000 in
theorem walk_PitchOrder (a0 a1 a2 a3 a4 a5 b0 b1 b2 b3 b4 b5 c0 c1 c2 c3 c4 c5 : Int) (w : World)
    (w_a0 : (Lit.int .i64 a0).wf = true) (w_a1 : (Lit.int .i64 a1).wf = true) (w_a2 : (Lit.int .i64 a2).wf = true) (w_a3 : (Lit.int .i64 a3).wf = true) (w_a4 : (Lit.int .i64 a4).wf = true) (w_a5 : (Lit.int .i64 a5).wf = true) (w_b0 : (Lit.int .i64 b0).wf = true) (w_b1 : (Lit.int .i64 b1).wf = true) (w_b2 : (Lit.int .i64 b2).wf = true) (w_b3 : (Lit.int .i64 b3).wf = true) (w_b4 : (Lit.int .i64 b4).wf = true) (w_b5 : (Lit.int .i64 b5).wf = true) (w_c0 : (Lit.int .i64 c0).wf = true) (w_c1 : (Lit.int .i64 c1).wf = true) (w_c2 : (Lit.int .i64 c2).wf = true) (w_c3 : (Lit.int .i64 c3).wf = true) (w_c4 : (Lit.int .i64 c4).wf = true) (w_c5 : (Lit.int .i64 c5).wf = true) (hL : PR w ∧ PW w) :
    Calls Tryd.prog 3 #[.agg #[.int .i64 a0, .int .i64 a1, .int .i64 a2, .int .i64 a3, .int .i64 a4, .int .i64 a5], .agg #[.int .i64 b0, .int .i64 b1, .int .i64 b2, .int .i64 b3, .int .i64 b4, .int .i64 b5], .agg #[.int .i64 c0, .int .i64 c1, .int .i64 c2, .int .i64 c3, .int .i64 c4, .int .i64 c5]] w (Ret (.bool true) w) := by
  clear w_a0 w_a1 w_a2 w_a3 w_a4 w_a5 w_b0 w_b1 w_b2 w_b3 w_b4 w_b5 w_c0 w_c1 w_c2 w_c3 w_c4 w_c5
  have HP := Lib.hid hL.1
  have HQ := Lib.hid hL.2
  have HH := Lib.hid (fun W (h : PR W) (h' : PW W) => head03_c W h h')
  clear hL
  have h1 := fun W => RPVld_c a0 a1 a2 a3 a4 a5 W
  have h2 := fun W => RPVld_c b0 b1 b2 b3 b4 b5 W
  have h3 := fun W => RPVld_c c0 c1 c2 c3 c4 c5 W
  cases va : pV a0 a1 a2 a3 a4 a5 576
  · rw [va] at h1
    have H1 := Lib.hid h1
    clear h1 h2 h3 va
    go_enter Tryd.func3, Tryd.ntmps3
    go_wp2_with fail
    ((with_reducible refine (HH.out _ (HP.out.up (by (repeat (first | (with_reducible exact bl_refl _) | (with_reducible refine bl_drew ?_) | (with_reducible refine bl_alloc ?_ _) | (with_reducible refine bl_set' ?_ ?_; · (first | omega | (simp; done) | (simp; omega))) | (with_reducible refine bl_last (by assumption) ?_) | (with_reducible refine bl_drewN ?_ _))))) (tab_up HQ.out (by (repeat (first | (with_reducible exact bl_refl _) | (with_reducible refine bl_drew ?_) | (with_reducible refine bl_alloc ?_ _) | (with_reducible refine bl_set' ?_ ?_; · (first | omega | (simp; done) | (simp; omega))) | (with_reducible refine bl_last (by assumption) ?_) | (with_reducible refine bl_drewN ?_ _)))))).mono ?_); rintro e u0 ⟨rfl, d0⟩)
    obtain ⟨hz0, hc0, hf0⟩ := bcl d0 (by first | (simp; rfl) | rfl)
    have z0_0 : w.heap.size < u0.heap.size := by omega
    have z0_1 : w.heap.size + 1 < u0.heap.size := by omega
    have z0_2 : w.heap.size + 1 + 1 < u0.heap.size := by omega
    go_wp2_with fail
    refine calls_letter ?_
    intro W1 hW1
    have k1 : Below w.heap.size w W1 := by
      rw [hW1]
      (repeat (first | (with_reducible assumption) | (with_reducible exact bl_refl _) | (with_reducible refine bl_alloc ?_ _) | (with_reducible refine bl_set' ?_ ?_; · (dsimp only; first | assumption | exact Nat.le_refl _ | omega)) | (with_reducible refine bl_last (by assumption) ?_)))
    have A1 : Blk W1 (w.heap.size) 23 #[.int .i64 a0, .int .i64 a1, .int .i64 a2, .int .i64 a3, .int .i64 a4, .int .i64 a5] := by
      rw [hW1]
      (repeat (first | (with_reducible assumption) | (with_reducible apply Blk.new) | (with_reducible exact blkAt _ _ _ _ (by simp; done)) | (with_reducible apply blk_st2) | (with_reducible apply blk_st4) | (with_reducible apply blk_st6) | (with_reducible apply blk_far (hne := by first | (with_reducible assumption) | omega)) | (with_reducible apply blk_up (hb := by assumption)) | (with_reducible apply Blk.alloc)))
    have B1 : Blk W1 (w.heap.size + 1) 23 #[.int .i64 b0, .int .i64 b1, .int .i64 b2, .int .i64 b3, .int .i64 b4, .int .i64 b5] := by
      rw [hW1]
      (repeat (first | (with_reducible assumption) | (with_reducible apply Blk.new) | (with_reducible exact blkAt _ _ _ _ (by simp; done)) | (with_reducible apply blk_st2) | (with_reducible apply blk_st4) | (with_reducible apply blk_st6) | (with_reducible apply blk_far (hne := by first | (with_reducible assumption) | omega)) | (with_reducible apply blk_up (hb := by assumption)) | (with_reducible apply Blk.alloc)))
    have C1 : Blk W1 (w.heap.size + 1 + 1) 23 #[.int .i64 c0, .int .i64 c1, .int .i64 c2, .int .i64 c3, .int .i64 c4, .int .i64 c5] := by
      rw [hW1]
      (repeat (first | (with_reducible assumption) | (with_reducible apply Blk.new) | (with_reducible exact blkAt _ _ _ _ (by simp; done)) | (with_reducible apply blk_st2) | (with_reducible apply blk_st4) | (with_reducible apply blk_st6) | (with_reducible apply blk_far (hne := by first | (with_reducible assumption) | omega)) | (with_reducible apply blk_up (hb := by assumption)) | (with_reducible apply Blk.alloc)))
    clear hW1
    try clear hz0
    try clear hc0
    try clear hf0
    try clear d0
    try clear z0_0
    try clear z0_1
    try clear z0_2
    have y1 := k1.size
    have gA1 := A1.lt
    have lA1 := Nat.le_of_lt gA1
    have gB1 := B1.lt
    have lB1 := Nat.le_of_lt gB1
    have gC1 := C1.lt
    have lC1 := Nat.le_of_lt gC1
    have cB1_0 := B1.cell 0
    have cB1_1 := B1.cell 1
    have cB1_2 := B1.cell 2
    have cB1_3 := B1.cell 3
    have cB1_4 := B1.cell 4
    have cB1_5 := B1.cell 5
    simp only [List.getElem?_toArray, List.getElem?_cons_zero, List.getElem?_cons_succ] at cB1_0 cB1_1 cB1_2 cB1_3 cB1_4 cB1_5
    ((with_reducible refine (H1.out _).mono ?_); rintro e u1 ⟨rfl, d1⟩)
    obtain ⟨hz1, hc1, hf1⟩ := bcl d1 (by first | (simp; rfl) | rfl)
    have qA1 : w.heap.size < u1.heap.size := by omega
    have pA1 : w.heap.size ≤ u1.heap.size := by omega
    have qB1 : w.heap.size + 1 < u1.heap.size := by omega
    have pB1 : w.heap.size + 1 ≤ u1.heap.size := by omega
    have qC1 : w.heap.size + 1 + 1 < u1.heap.size := by omega
    have pC1 : w.heap.size + 1 + 1 ≤ u1.heap.size := by omega
    go_wp2_with fail
    go_ret
    refine ⟨rfl, ?_⟩
    (repeat (first | (with_reducible exact bl_refl _) | (with_reducible refine bl_drew ?_) | (with_reducible refine bl_alloc ?_ _) | (with_reducible refine bl_set' ?_ ?_; · (first | omega | (simp; done) | (simp; omega))) | (with_reducible refine bl_last (by assumption) ?_) | (with_reducible refine bl_drewN ?_ _)))
  cases vb : pV b0 b1 b2 b3 b4 b5 576
  · rw [va] at h1
    rw [vb] at h2
    have H1 := Lib.hid h1
    have H2 := Lib.hid h2
    clear h1 h2 h3 va vb
    go_enter Tryd.func3, Tryd.ntmps3
    go_wp2_with fail
    ((with_reducible refine (HH.out _ (HP.out.up (by (repeat (first | (with_reducible exact bl_refl _) | (with_reducible refine bl_drew ?_) | (with_reducible refine bl_alloc ?_ _) | (with_reducible refine bl_set' ?_ ?_; · (first | omega | (simp; done) | (simp; omega))) | (with_reducible refine bl_last (by assumption) ?_) | (with_reducible refine bl_drewN ?_ _))))) (tab_up HQ.out (by (repeat (first | (with_reducible exact bl_refl _) | (with_reducible refine bl_drew ?_) | (with_reducible refine bl_alloc ?_ _) | (with_reducible refine bl_set' ?_ ?_; · (first | omega | (simp; done) | (simp; omega))) | (with_reducible refine bl_last (by assumption) ?_) | (with_reducible refine bl_drewN ?_ _)))))).mono ?_); rintro e u0 ⟨rfl, d0⟩)
    obtain ⟨hz0, hc0, hf0⟩ := bcl d0 (by first | (simp; rfl) | rfl)
    have z0_0 : w.heap.size < u0.heap.size := by omega
    have z0_1 : w.heap.size + 1 < u0.heap.size := by omega
    have z0_2 : w.heap.size + 1 + 1 < u0.heap.size := by omega
    go_wp2_with fail
    refine calls_letter ?_
    intro W1 hW1
    have k1 : Below w.heap.size w W1 := by
      rw [hW1]
      (repeat (first | (with_reducible assumption) | (with_reducible exact bl_refl _) | (with_reducible refine bl_alloc ?_ _) | (with_reducible refine bl_set' ?_ ?_; · (dsimp only; first | assumption | exact Nat.le_refl _ | omega)) | (with_reducible refine bl_last (by assumption) ?_)))
    have A1 : Blk W1 (w.heap.size) 23 #[.int .i64 a0, .int .i64 a1, .int .i64 a2, .int .i64 a3, .int .i64 a4, .int .i64 a5] := by
      rw [hW1]
      (repeat (first | (with_reducible assumption) | (with_reducible apply Blk.new) | (with_reducible exact blkAt _ _ _ _ (by simp; done)) | (with_reducible apply blk_st2) | (with_reducible apply blk_st4) | (with_reducible apply blk_st6) | (with_reducible apply blk_far (hne := by first | (with_reducible assumption) | omega)) | (with_reducible apply blk_up (hb := by assumption)) | (with_reducible apply Blk.alloc)))
    have B1 : Blk W1 (w.heap.size + 1) 23 #[.int .i64 b0, .int .i64 b1, .int .i64 b2, .int .i64 b3, .int .i64 b4, .int .i64 b5] := by
      rw [hW1]
      (repeat (first | (with_reducible assumption) | (with_reducible apply Blk.new) | (with_reducible exact blkAt _ _ _ _ (by simp; done)) | (with_reducible apply blk_st2) | (with_reducible apply blk_st4) | (with_reducible apply blk_st6) | (with_reducible apply blk_far (hne := by first | (with_reducible assumption) | omega)) | (with_reducible apply blk_up (hb := by assumption)) | (with_reducible apply Blk.alloc)))
    have C1 : Blk W1 (w.heap.size + 1 + 1) 23 #[.int .i64 c0, .int .i64 c1, .int .i64 c2, .int .i64 c3, .int .i64 c4, .int .i64 c5] := by
      rw [hW1]
      (repeat (first | (with_reducible assumption) | (with_reducible apply Blk.new) | (with_reducible exact blkAt _ _ _ _ (by simp; done)) | (with_reducible apply blk_st2) | (with_reducible apply blk_st4) | (with_reducible apply blk_st6) | (with_reducible apply blk_far (hne := by first | (with_reducible assumption) | omega)) | (with_reducible apply blk_up (hb := by assumption)) | (with_reducible apply Blk.alloc)))
    clear hW1
    try clear hz0
    try clear hc0
    try clear hf0
    try clear d0
    try clear z0_0
    try clear z0_1
    try clear z0_2
    have y1 := k1.size
    have gA1 := A1.lt
    have lA1 := Nat.le_of_lt gA1
    have gB1 := B1.lt
    have lB1 := Nat.le_of_lt gB1
    have gC1 := C1.lt
    have lC1 := Nat.le_of_lt gC1
    have cB1_0 := B1.cell 0
    have cB1_1 := B1.cell 1
    have cB1_2 := B1.cell 2
    have cB1_3 := B1.cell 3
    have cB1_4 := B1.cell 4
    have cB1_5 := B1.cell 5
    simp only [List.getElem?_toArray, List.getElem?_cons_zero, List.getElem?_cons_succ] at cB1_0 cB1_1 cB1_2 cB1_3 cB1_4 cB1_5
    ((with_reducible refine (H1.out _).mono ?_); rintro e u1 ⟨rfl, d1⟩)
    obtain ⟨hz1, hc1, hf1⟩ := bcl d1 (by first | (simp; rfl) | rfl)
    have qA1 : w.heap.size < u1.heap.size := by omega
    have pA1 : w.heap.size ≤ u1.heap.size := by omega
    have qB1 : w.heap.size + 1 < u1.heap.size := by omega
    have pB1 : w.heap.size + 1 ≤ u1.heap.size := by omega
    have qC1 : w.heap.size + 1 + 1 < u1.heap.size := by omega
    have pC1 : w.heap.size + 1 + 1 ≤ u1.heap.size := by omega
    go_wp2_with fail
    refine calls_letter ?_
    intro W2 hW2
    have k2 : Below w.heap.size w W2 := by
      rw [hW2]
      (repeat (first | (with_reducible assumption) | (with_reducible exact bl_refl _) | (with_reducible refine bl_alloc ?_ _) | (with_reducible refine bl_set' ?_ ?_; · (dsimp only; first | assumption | exact Nat.le_refl _ | omega)) | (with_reducible refine bl_last (by assumption) ?_)))
    have A2 : Blk W2 (w.heap.size) 23 #[.int .i64 a0, .int .i64 a1, .int .i64 a2, .int .i64 a3, .int .i64 a4, .int .i64 a5] := by
      rw [hW2]
      (repeat (first | (with_reducible assumption) | (with_reducible apply Blk.new) | (with_reducible exact blkAt _ _ _ _ (by simp; done)) | (with_reducible apply blk_st2) | (with_reducible apply blk_st4) | (with_reducible apply blk_st6) | (with_reducible apply blk_far (hne := by first | (with_reducible assumption) | omega)) | (with_reducible apply blk_up (hb := by assumption)) | (with_reducible apply Blk.alloc)))
    have B2 : Blk W2 (w.heap.size + 1) 23 #[.int .i64 b0, .int .i64 b1, .int .i64 b2, .int .i64 b3, .int .i64 b4, .int .i64 b5] := by
      rw [hW2]
      (repeat (first | (with_reducible assumption) | (with_reducible apply Blk.new) | (with_reducible exact blkAt _ _ _ _ (by simp; done)) | (with_reducible apply blk_st2) | (with_reducible apply blk_st4) | (with_reducible apply blk_st6) | (with_reducible apply blk_far (hne := by first | (with_reducible assumption) | omega)) | (with_reducible apply blk_up (hb := by assumption)) | (with_reducible apply Blk.alloc)))
    have C2 : Blk W2 (w.heap.size + 1 + 1) 23 #[.int .i64 c0, .int .i64 c1, .int .i64 c2, .int .i64 c3, .int .i64 c4, .int .i64 c5] := by
      rw [hW2]
      (repeat (first | (with_reducible assumption) | (with_reducible apply Blk.new) | (with_reducible exact blkAt _ _ _ _ (by simp; done)) | (with_reducible apply blk_st2) | (with_reducible apply blk_st4) | (with_reducible apply blk_st6) | (with_reducible apply blk_far (hne := by first | (with_reducible assumption) | omega)) | (with_reducible apply blk_up (hb := by assumption)) | (with_reducible apply Blk.alloc)))
    clear hW2
    try clear qC1
    try clear pC1
    try clear qB1
    try clear pB1
    try clear qA1
    try clear pA1
    try clear hz1
    try clear hc1
    try clear hf1
    try clear d1
    try clear cB1_0
    try clear cB1_1
    try clear cB1_2
    try clear cB1_3
    try clear cB1_4
    try clear cB1_5
    try clear y1
    try clear k1
    try clear A1
    try clear B1
    try clear C1
    try clear gA1
    try clear lA1
    try clear gB1
    try clear lB1
    try clear gC1
    try clear lC1
    have y2 := k2.size
    have gA2 := A2.lt
    have lA2 := Nat.le_of_lt gA2
    have gB2 := B2.lt
    have lB2 := Nat.le_of_lt gB2
    have gC2 := C2.lt
    have lC2 := Nat.le_of_lt gC2
    have cC2_0 := C2.cell 0
    have cC2_1 := C2.cell 1
    have cC2_2 := C2.cell 2
    have cC2_3 := C2.cell 3
    have cC2_4 := C2.cell 4
    have cC2_5 := C2.cell 5
    simp only [List.getElem?_toArray, List.getElem?_cons_zero, List.getElem?_cons_succ] at cC2_0 cC2_1 cC2_2 cC2_3 cC2_4 cC2_5
    ((with_reducible refine (H2.out _).mono ?_); rintro e u2 ⟨rfl, d2⟩)
    obtain ⟨hz2, hc2, hf2⟩ := bcl d2 (by first | (simp; rfl) | rfl)
    have qA2 : w.heap.size < u2.heap.size := by omega
    have pA2 : w.heap.size ≤ u2.heap.size := by omega
    have qB2 : w.heap.size + 1 < u2.heap.size := by omega
    have pB2 : w.heap.size + 1 ≤ u2.heap.size := by omega
    have qC2 : w.heap.size + 1 + 1 < u2.heap.size := by omega
    have pC2 : w.heap.size + 1 + 1 ≤ u2.heap.size := by omega
    go_wp2_with fail
    go_ret
    refine ⟨rfl, ?_⟩
    (repeat (first | (with_reducible exact bl_refl _) | (with_reducible refine bl_drew ?_) | (with_reducible refine bl_alloc ?_ _) | (with_reducible refine bl_set' ?_ ?_; · (first | omega | (simp; done) | (simp; omega))) | (with_reducible refine bl_last (by assumption) ?_) | (with_reducible refine bl_drewN ?_ _)))
  cases vc : pV c0 c1 c2 c3 c4 c5 576
  · rw [va] at h1
    rw [vb] at h2
    rw [vc] at h3
    have H1 := Lib.hid h1
    have H2 := Lib.hid h2
    have H3 := Lib.hid h3
    clear h1 h2 h3 va vb vc
    go_enter Tryd.func3, Tryd.ntmps3
    go_wp2_with fail
    ((with_reducible refine (HH.out _ (HP.out.up (by (repeat (first | (with_reducible exact bl_refl _) | (with_reducible refine bl_drew ?_) | (with_reducible refine bl_alloc ?_ _) | (with_reducible refine bl_set' ?_ ?_; · (first | omega | (simp; done) | (simp; omega))) | (with_reducible refine bl_last (by assumption) ?_) | (with_reducible refine bl_drewN ?_ _))))) (tab_up HQ.out (by (repeat (first | (with_reducible exact bl_refl _) | (with_reducible refine bl_drew ?_) | (with_reducible refine bl_alloc ?_ _) | (with_reducible refine bl_set' ?_ ?_; · (first | omega | (simp; done) | (simp; omega))) | (with_reducible refine bl_last (by assumption) ?_) | (with_reducible refine bl_drewN ?_ _)))))).mono ?_); rintro e u0 ⟨rfl, d0⟩)
    obtain ⟨hz0, hc0, hf0⟩ := bcl d0 (by first | (simp; rfl) | rfl)
    have z0_0 : w.heap.size < u0.heap.size := by omega
    have z0_1 : w.heap.size + 1 < u0.heap.size := by omega
    have z0_2 : w.heap.size + 1 + 1 < u0.heap.size := by omega
    go_wp2_with fail
    refine calls_letter ?_
    intro W1 hW1
    have k1 : Below w.heap.size w W1 := by
      rw [hW1]
      (repeat (first | (with_reducible assumption) | (with_reducible exact bl_refl _) | (with_reducible refine bl_alloc ?_ _) | (with_reducible refine bl_set' ?_ ?_; · (dsimp only; first | assumption | exact Nat.le_refl _ | omega)) | (with_reducible refine bl_last (by assumption) ?_)))
    have A1 : Blk W1 (w.heap.size) 23 #[.int .i64 a0, .int .i64 a1, .int .i64 a2, .int .i64 a3, .int .i64 a4, .int .i64 a5] := by
      rw [hW1]
      (repeat (first | (with_reducible assumption) | (with_reducible apply Blk.new) | (with_reducible exact blkAt _ _ _ _ (by simp; done)) | (with_reducible apply blk_st2) | (with_reducible apply blk_st4) | (with_reducible apply blk_st6) | (with_reducible apply blk_far (hne := by first | (with_reducible assumption) | omega)) | (with_reducible apply blk_up (hb := by assumption)) | (with_reducible apply Blk.alloc)))
    have B1 : Blk W1 (w.heap.size + 1) 23 #[.int .i64 b0, .int .i64 b1, .int .i64 b2, .int .i64 b3, .int .i64 b4, .int .i64 b5] := by
      rw [hW1]
      (repeat (first | (with_reducible assumption) | (with_reducible apply Blk.new) | (with_reducible exact blkAt _ _ _ _ (by simp; done)) | (with_reducible apply blk_st2) | (with_reducible apply blk_st4) | (with_reducible apply blk_st6) | (with_reducible apply blk_far (hne := by first | (with_reducible assumption) | omega)) | (with_reducible apply blk_up (hb := by assumption)) | (with_reducible apply Blk.alloc)))
    have C1 : Blk W1 (w.heap.size + 1 + 1) 23 #[.int .i64 c0, .int .i64 c1, .int .i64 c2, .int .i64 c3, .int .i64 c4, .int .i64 c5] := by
      rw [hW1]
      (repeat (first | (with_reducible assumption) | (with_reducible apply Blk.new) | (with_reducible exact blkAt _ _ _ _ (by simp; done)) | (with_reducible apply blk_st2) | (with_reducible apply blk_st4) | (with_reducible apply blk_st6) | (with_reducible apply blk_far (hne := by first | (with_reducible assumption) | omega)) | (with_reducible apply blk_up (hb := by assumption)) | (with_reducible apply Blk.alloc)))
    clear hW1
    try clear hz0
    try clear hc0
    try clear hf0
    try clear d0
    try clear z0_0
    try clear z0_1
    try clear z0_2
    have y1 := k1.size
    have gA1 := A1.lt
    have lA1 := Nat.le_of_lt gA1
    have gB1 := B1.lt
    have lB1 := Nat.le_of_lt gB1
    have gC1 := C1.lt
    have lC1 := Nat.le_of_lt gC1
    have cB1_0 := B1.cell 0
    have cB1_1 := B1.cell 1
    have cB1_2 := B1.cell 2
    have cB1_3 := B1.cell 3
    have cB1_4 := B1.cell 4
    have cB1_5 := B1.cell 5
    simp only [List.getElem?_toArray, List.getElem?_cons_zero, List.getElem?_cons_succ] at cB1_0 cB1_1 cB1_2 cB1_3 cB1_4 cB1_5
    ((with_reducible refine (H1.out _).mono ?_); rintro e u1 ⟨rfl, d1⟩)
    obtain ⟨hz1, hc1, hf1⟩ := bcl d1 (by first | (simp; rfl) | rfl)
    have qA1 : w.heap.size < u1.heap.size := by omega
    have pA1 : w.heap.size ≤ u1.heap.size := by omega
    have qB1 : w.heap.size + 1 < u1.heap.size := by omega
    have pB1 : w.heap.size + 1 ≤ u1.heap.size := by omega
    have qC1 : w.heap.size + 1 + 1 < u1.heap.size := by omega
    have pC1 : w.heap.size + 1 + 1 ≤ u1.heap.size := by omega
    go_wp2_with fail
    refine calls_letter ?_
    intro W2 hW2
    have k2 : Below w.heap.size w W2 := by
      rw [hW2]
      (repeat (first | (with_reducible assumption) | (with_reducible exact bl_refl _) | (with_reducible refine bl_alloc ?_ _) | (with_reducible refine bl_set' ?_ ?_; · (dsimp only; first | assumption | exact Nat.le_refl _ | omega)) | (with_reducible refine bl_last (by assumption) ?_)))
    have A2 : Blk W2 (w.heap.size) 23 #[.int .i64 a0, .int .i64 a1, .int .i64 a2, .int .i64 a3, .int .i64 a4, .int .i64 a5] := by
      rw [hW2]
      (repeat (first | (with_reducible assumption) | (with_reducible apply Blk.new) | (with_reducible exact blkAt _ _ _ _ (by simp; done)) | (with_reducible apply blk_st2) | (with_reducible apply blk_st4) | (with_reducible apply blk_st6) | (with_reducible apply blk_far (hne := by first | (with_reducible assumption) | omega)) | (with_reducible apply blk_up (hb := by assumption)) | (with_reducible apply Blk.alloc)))
    have B2 : Blk W2 (w.heap.size + 1) 23 #[.int .i64 b0, .int .i64 b1, .int .i64 b2, .int .i64 b3, .int .i64 b4, .int .i64 b5] := by
      rw [hW2]
      (repeat (first | (with_reducible assumption) | (with_reducible apply Blk.new) | (with_reducible exact blkAt _ _ _ _ (by simp; done)) | (with_reducible apply blk_st2) | (with_reducible apply blk_st4) | (with_reducible apply blk_st6) | (with_reducible apply blk_far (hne := by first | (with_reducible assumption) | omega)) | (with_reducible apply blk_up (hb := by assumption)) | (with_reducible apply Blk.alloc)))
    have C2 : Blk W2 (w.heap.size + 1 + 1) 23 #[.int .i64 c0, .int .i64 c1, .int .i64 c2, .int .i64 c3, .int .i64 c4, .int .i64 c5] := by
      rw [hW2]
      (repeat (first | (with_reducible assumption) | (with_reducible apply Blk.new) | (with_reducible exact blkAt _ _ _ _ (by simp; done)) | (with_reducible apply blk_st2) | (with_reducible apply blk_st4) | (with_reducible apply blk_st6) | (with_reducible apply blk_far (hne := by first | (with_reducible assumption) | omega)) | (with_reducible apply blk_up (hb := by assumption)) | (with_reducible apply Blk.alloc)))
    clear hW2
    try clear qC1
    try clear pC1
    try clear qB1
    try clear pB1
    try clear qA1
    try clear pA1
    try clear hz1
    try clear hc1
    try clear hf1
    try clear d1
    try clear cB1_0
    try clear cB1_1
    try clear cB1_2
    try clear cB1_3
    try clear cB1_4
    try clear cB1_5
    try clear y1
    try clear k1
    try clear A1
    try clear B1
    try clear C1
    try clear gA1
    try clear lA1
    try clear gB1
    try clear lB1
    try clear gC1
    try clear lC1
    have y2 := k2.size
    have gA2 := A2.lt
    have lA2 := Nat.le_of_lt gA2
    have gB2 := B2.lt
    have lB2 := Nat.le_of_lt gB2
    have gC2 := C2.lt
    have lC2 := Nat.le_of_lt gC2
    have cC2_0 := C2.cell 0
    have cC2_1 := C2.cell 1
    have cC2_2 := C2.cell 2
    have cC2_3 := C2.cell 3
    have cC2_4 := C2.cell 4
    have cC2_5 := C2.cell 5
    simp only [List.getElem?_toArray, List.getElem?_cons_zero, List.getElem?_cons_succ] at cC2_0 cC2_1 cC2_2 cC2_3 cC2_4 cC2_5
    ((with_reducible refine (H2.out _).mono ?_); rintro e u2 ⟨rfl, d2⟩)
    obtain ⟨hz2, hc2, hf2⟩ := bcl d2 (by first | (simp; rfl) | rfl)
    have qA2 : w.heap.size < u2.heap.size := by omega
    have pA2 : w.heap.size ≤ u2.heap.size := by omega
    have qB2 : w.heap.size + 1 < u2.heap.size := by omega
    have pB2 : w.heap.size + 1 ≤ u2.heap.size := by omega
    have qC2 : w.heap.size + 1 + 1 < u2.heap.size := by omega
    have pC2 : w.heap.size + 1 + 1 ≤ u2.heap.size := by omega
    go_wp2_with fail
    refine calls_letter ?_
    intro W3 hW3
    have k3 : Below w.heap.size w W3 := by
      rw [hW3]
      (repeat (first | (with_reducible assumption) | (with_reducible exact bl_refl _) | (with_reducible refine bl_alloc ?_ _) | (with_reducible refine bl_set' ?_ ?_; · (dsimp only; first | assumption | exact Nat.le_refl _ | omega)) | (with_reducible refine bl_last (by assumption) ?_)))
    have A3 : Blk W3 (w.heap.size) 23 #[.int .i64 a0, .int .i64 a1, .int .i64 a2, .int .i64 a3, .int .i64 a4, .int .i64 a5] := by
      rw [hW3]
      (repeat (first | (with_reducible assumption) | (with_reducible apply Blk.new) | (with_reducible exact blkAt _ _ _ _ (by simp; done)) | (with_reducible apply blk_st2) | (with_reducible apply blk_st4) | (with_reducible apply blk_st6) | (with_reducible apply blk_far (hne := by first | (with_reducible assumption) | omega)) | (with_reducible apply blk_up (hb := by assumption)) | (with_reducible apply Blk.alloc)))
    have B3 : Blk W3 (w.heap.size + 1) 23 #[.int .i64 b0, .int .i64 b1, .int .i64 b2, .int .i64 b3, .int .i64 b4, .int .i64 b5] := by
      rw [hW3]
      (repeat (first | (with_reducible assumption) | (with_reducible apply Blk.new) | (with_reducible exact blkAt _ _ _ _ (by simp; done)) | (with_reducible apply blk_st2) | (with_reducible apply blk_st4) | (with_reducible apply blk_st6) | (with_reducible apply blk_far (hne := by first | (with_reducible assumption) | omega)) | (with_reducible apply blk_up (hb := by assumption)) | (with_reducible apply Blk.alloc)))
    have C3 : Blk W3 (w.heap.size + 1 + 1) 23 #[.int .i64 c0, .int .i64 c1, .int .i64 c2, .int .i64 c3, .int .i64 c4, .int .i64 c5] := by
      rw [hW3]
      (repeat (first | (with_reducible assumption) | (with_reducible apply Blk.new) | (with_reducible exact blkAt _ _ _ _ (by simp; done)) | (with_reducible apply blk_st2) | (with_reducible apply blk_st4) | (with_reducible apply blk_st6) | (with_reducible apply blk_far (hne := by first | (with_reducible assumption) | omega)) | (with_reducible apply blk_up (hb := by assumption)) | (with_reducible apply Blk.alloc)))
    clear hW3
    try clear qC2
    try clear pC2
    try clear qB2
    try clear pB2
    try clear qA2
    try clear pA2
    try clear hz2
    try clear hc2
    try clear hf2
    try clear d2
    try clear cC2_0
    try clear cC2_1
    try clear cC2_2
    try clear cC2_3
    try clear cC2_4
    try clear cC2_5
    try clear y2
    try clear k2
    try clear A2
    try clear B2
    try clear C2
    try clear gA2
    try clear lA2
    try clear gB2
    try clear lB2
    try clear gC2
    try clear lC2
    have y3 := k3.size
    have gA3 := A3.lt
    have lA3 := Nat.le_of_lt gA3
    have gB3 := B3.lt
    have lB3 := Nat.le_of_lt gB3
    have gC3 := C3.lt
    have lC3 := Nat.le_of_lt gC3
    ((with_reducible refine (H3.out _).mono ?_); rintro e u3 ⟨rfl, d3⟩)
    obtain ⟨hz3, hc3, hf3⟩ := bcl d3 (by first | (simp; rfl) | rfl)
    have qA3 : w.heap.size < u3.heap.size := by omega
    have pA3 : w.heap.size ≤ u3.heap.size := by omega
    have qB3 : w.heap.size + 1 < u3.heap.size := by omega
    have pB3 : w.heap.size + 1 ≤ u3.heap.size := by omega
    have qC3 : w.heap.size + 1 + 1 < u3.heap.size := by omega
    have pC3 : w.heap.size + 1 + 1 ≤ u3.heap.size := by omega
    go_wp2_with fail
    go_ret
    refine ⟨rfl, ?_⟩
    (repeat (first | (with_reducible exact bl_refl _) | (with_reducible refine bl_drew ?_) | (with_reducible refine bl_alloc ?_ _) | (with_reducible refine bl_set' ?_ ?_; · (first | omega | (simp; done) | (simp; omega))) | (with_reducible refine bl_last (by assumption) ?_) | (with_reducible refine bl_drewN ?_ _)))
  have h4 := fun W (h : PR W) => PCmp_c a0 a1 a2 a3 a4 a5 b0 b1 b2 b3 b4 b5 W h
  have h5 := fun W (h : PR W) => PCmp_c b0 b1 b2 b3 b4 b5 a0 a1 a2 a3 a4 a5 W h
  have h6 := fun W (h : PR W) => PCmp_c b0 b1 b2 b3 b4 b5 c0 c1 c2 c3 c4 c5 W h
  have h7 := fun W (h : PR W) => PCmp_c a0 a1 a2 a3 a4 a5 c0 c1 c2 c3 c4 c5 W h
  obtain ⟨x, y, z, u, t, e4, e5, e6, e7, hE, hx, hz, hu, ht1, ht2⟩ := ordr va vb vc
  rw [va] at h1
  rw [vb] at h2
  rw [vc] at h3
  rw [e4] at h4
  rw [e5] at h5
  rw [e6] at h6
  rw [e7] at h7
  have H1 := Lib.hid h1
  have H2 := Lib.hid h2
  have H3 := Lib.hid h3
  have H4 := Lib.hid h4
  have H5 := Lib.hid h5
  have H6 := Lib.hid h6
  have H7 := Lib.hid h7
  have HX := Lib.hid hx
  have HZ := Lib.hid hz
  have HU := Lib.hid hu
  have HT := Lib.hid ht1
  have HT2 := Lib.hid ht2
  have HE := Lib.hid hE
  clear h1 h2 h3 h4 h5 h6 h7 e4 e5 e6 e7 va vb vc hx hz hu ht1 ht2 hE
  go_enter Tryd.func3, Tryd.ntmps3
  go_wp2_with fail
  ((with_reducible refine (HH.out _ (HP.out.up (by (repeat (first | (with_reducible exact bl_refl _) | (with_reducible refine bl_drew ?_) | (with_reducible refine bl_alloc ?_ _) | (with_reducible refine bl_set' ?_ ?_; · (first | omega | (simp; done) | (simp; omega))) | (with_reducible refine bl_last (by assumption) ?_) | (with_reducible refine bl_drewN ?_ _))))) (tab_up HQ.out (by (repeat (first | (with_reducible exact bl_refl _) | (with_reducible refine bl_drew ?_) | (with_reducible refine bl_alloc ?_ _) | (with_reducible refine bl_set' ?_ ?_; · (first | omega | (simp; done) | (simp; omega))) | (with_reducible refine bl_last (by assumption) ?_) | (with_reducible refine bl_drewN ?_ _)))))).mono ?_); rintro e u0 ⟨rfl, d0⟩)
  obtain ⟨hz0, hc0, hf0⟩ := bcl d0 (by first | (simp; rfl) | rfl)
  have z0_0 : w.heap.size < u0.heap.size := by omega
  have z0_1 : w.heap.size + 1 < u0.heap.size := by omega
  have z0_2 : w.heap.size + 1 + 1 < u0.heap.size := by omega
  go_wp2_with fail
  refine calls_letter ?_
  intro W1 hW1
  have k1 : Below w.heap.size w W1 := by
    rw [hW1]
    (repeat (first | (with_reducible assumption) | (with_reducible exact bl_refl _) | (with_reducible refine bl_alloc ?_ _) | (with_reducible refine bl_set' ?_ ?_; · (dsimp only; first | assumption | exact Nat.le_refl _ | omega)) | (with_reducible refine bl_last (by assumption) ?_)))
  have A1 : Blk W1 (w.heap.size) 23 #[.int .i64 a0, .int .i64 a1, .int .i64 a2, .int .i64 a3, .int .i64 a4, .int .i64 a5] := by
    rw [hW1]
    (repeat (first | (with_reducible assumption) | (with_reducible apply Blk.new) | (with_reducible exact blkAt _ _ _ _ (by simp; done)) | (with_reducible apply blk_st2) | (with_reducible apply blk_st4) | (with_reducible apply blk_st6) | (with_reducible apply blk_far (hne := by first | (with_reducible assumption) | omega)) | (with_reducible apply blk_up (hb := by assumption)) | (with_reducible apply Blk.alloc)))
  have B1 : Blk W1 (w.heap.size + 1) 23 #[.int .i64 b0, .int .i64 b1, .int .i64 b2, .int .i64 b3, .int .i64 b4, .int .i64 b5] := by
    rw [hW1]
    (repeat (first | (with_reducible assumption) | (with_reducible apply Blk.new) | (with_reducible exact blkAt _ _ _ _ (by simp; done)) | (with_reducible apply blk_st2) | (with_reducible apply blk_st4) | (with_reducible apply blk_st6) | (with_reducible apply blk_far (hne := by first | (with_reducible assumption) | omega)) | (with_reducible apply blk_up (hb := by assumption)) | (with_reducible apply Blk.alloc)))
  have C1 : Blk W1 (w.heap.size + 1 + 1) 23 #[.int .i64 c0, .int .i64 c1, .int .i64 c2, .int .i64 c3, .int .i64 c4, .int .i64 c5] := by
    rw [hW1]
    (repeat (first | (with_reducible assumption) | (with_reducible apply Blk.new) | (with_reducible exact blkAt _ _ _ _ (by simp; done)) | (with_reducible apply blk_st2) | (with_reducible apply blk_st4) | (with_reducible apply blk_st6) | (with_reducible apply blk_far (hne := by first | (with_reducible assumption) | omega)) | (with_reducible apply blk_up (hb := by assumption)) | (with_reducible apply Blk.alloc)))
  clear hW1
  try clear hz0
  try clear hc0
  try clear hf0
  try clear d0
  try clear z0_0
  try clear z0_1
  try clear z0_2
  have y1 := k1.size
  have gA1 := A1.lt
  have lA1 := Nat.le_of_lt gA1
  have gB1 := B1.lt
  have lB1 := Nat.le_of_lt gB1
  have gC1 := C1.lt
  have lC1 := Nat.le_of_lt gC1
  have cB1_0 := B1.cell 0
  have cB1_1 := B1.cell 1
  have cB1_2 := B1.cell 2
  have cB1_3 := B1.cell 3
  have cB1_4 := B1.cell 4
  have cB1_5 := B1.cell 5
  simp only [List.getElem?_toArray, List.getElem?_cons_zero, List.getElem?_cons_succ] at cB1_0 cB1_1 cB1_2 cB1_3 cB1_4 cB1_5
  ((with_reducible refine (H1.out _).mono ?_); rintro e u1 ⟨rfl, d1⟩)
  obtain ⟨hz1, hc1, hf1⟩ := bcl d1 (by first | (simp; rfl) | rfl)
  have qA1 : w.heap.size < u1.heap.size := by omega
  have pA1 : w.heap.size ≤ u1.heap.size := by omega
  have qB1 : w.heap.size + 1 < u1.heap.size := by omega
  have pB1 : w.heap.size + 1 ≤ u1.heap.size := by omega
  have qC1 : w.heap.size + 1 + 1 < u1.heap.size := by omega
  have pC1 : w.heap.size + 1 + 1 ≤ u1.heap.size := by omega
  go_wp2_with fail
  refine calls_letter ?_
  intro W2 hW2
  have k2 : Below w.heap.size w W2 := by
    rw [hW2]
    (repeat (first | (with_reducible assumption) | (with_reducible exact bl_refl _) | (with_reducible refine bl_alloc ?_ _) | (with_reducible refine bl_set' ?_ ?_; · (dsimp only; first | assumption | exact Nat.le_refl _ | omega)) | (with_reducible refine bl_last (by assumption) ?_)))
  have A2 : Blk W2 (w.heap.size) 23 #[.int .i64 a0, .int .i64 a1, .int .i64 a2, .int .i64 a3, .int .i64 a4, .int .i64 a5] := by
    rw [hW2]
    (repeat (first | (with_reducible assumption) | (with_reducible apply Blk.new) | (with_reducible exact blkAt _ _ _ _ (by simp; done)) | (with_reducible apply blk_st2) | (with_reducible apply blk_st4) | (with_reducible apply blk_st6) | (with_reducible apply blk_far (hne := by first | (with_reducible assumption) | omega)) | (with_reducible apply blk_up (hb := by assumption)) | (with_reducible apply Blk.alloc)))
  have B2 : Blk W2 (w.heap.size + 1) 23 #[.int .i64 b0, .int .i64 b1, .int .i64 b2, .int .i64 b3, .int .i64 b4, .int .i64 b5] := by
    rw [hW2]
    (repeat (first | (with_reducible assumption) | (with_reducible apply Blk.new) | (with_reducible exact blkAt _ _ _ _ (by simp; done)) | (with_reducible apply blk_st2) | (with_reducible apply blk_st4) | (with_reducible apply blk_st6) | (with_reducible apply blk_far (hne := by first | (with_reducible assumption) | omega)) | (with_reducible apply blk_up (hb := by assumption)) | (with_reducible apply Blk.alloc)))
  have C2 : Blk W2 (w.heap.size + 1 + 1) 23 #[.int .i64 c0, .int .i64 c1, .int .i64 c2, .int .i64 c3, .int .i64 c4, .int .i64 c5] := by
    rw [hW2]
    (repeat (first | (with_reducible assumption) | (with_reducible apply Blk.new) | (with_reducible exact blkAt _ _ _ _ (by simp; done)) | (with_reducible apply blk_st2) | (with_reducible apply blk_st4) | (with_reducible apply blk_st6) | (with_reducible apply blk_far (hne := by first | (with_reducible assumption) | omega)) | (with_reducible apply blk_up (hb := by assumption)) | (with_reducible apply Blk.alloc)))
  clear hW2
  try clear qC1
  try clear pC1
  try clear qB1
  try clear pB1
  try clear qA1
  try clear pA1
  try clear hz1
  try clear hc1
  try clear hf1
  try clear d1
  try clear cB1_0
  try clear cB1_1
  try clear cB1_2
  try clear cB1_3
  try clear cB1_4
  try clear cB1_5
  try clear y1
  try clear k1
  try clear A1
  try clear B1
  try clear C1
  try clear gA1
  try clear lA1
  try clear gB1
  try clear lB1
  try clear gC1
  try clear lC1
  have y2 := k2.size
  have gA2 := A2.lt
  have lA2 := Nat.le_of_lt gA2
  have gB2 := B2.lt
  have lB2 := Nat.le_of_lt gB2
  have gC2 := C2.lt
  have lC2 := Nat.le_of_lt gC2
  have cC2_0 := C2.cell 0
  have cC2_1 := C2.cell 1
  have cC2_2 := C2.cell 2
  have cC2_3 := C2.cell 3
  have cC2_4 := C2.cell 4
  have cC2_5 := C2.cell 5
  simp only [List.getElem?_toArray, List.getElem?_cons_zero, List.getElem?_cons_succ] at cC2_0 cC2_1 cC2_2 cC2_3 cC2_4 cC2_5
  ((with_reducible refine (H2.out _).mono ?_); rintro e u2 ⟨rfl, d2⟩)
  obtain ⟨hz2, hc2, hf2⟩ := bcl d2 (by first | (simp; rfl) | rfl)
  have qA2 : w.heap.size < u2.heap.size := by omega
  have pA2 : w.heap.size ≤ u2.heap.size := by omega
  have qB2 : w.heap.size + 1 < u2.heap.size := by omega
  have pB2 : w.heap.size + 1 ≤ u2.heap.size := by omega
  have qC2 : w.heap.size + 1 + 1 < u2.heap.size := by omega
  have pC2 : w.heap.size + 1 + 1 ≤ u2.heap.size := by omega
  go_wp2_with fail
  refine calls_letter ?_
  intro W3 hW3
  have k3 : Below w.heap.size w W3 := by
    rw [hW3]
    (repeat (first | (with_reducible assumption) | (with_reducible exact bl_refl _) | (with_reducible refine bl_alloc ?_ _) | (with_reducible refine bl_set' ?_ ?_; · (dsimp only; first | assumption | exact Nat.le_refl _ | omega)) | (with_reducible refine bl_last (by assumption) ?_)))
  have A3 : Blk W3 (w.heap.size) 23 #[.int .i64 a0, .int .i64 a1, .int .i64 a2, .int .i64 a3, .int .i64 a4, .int .i64 a5] := by
    rw [hW3]
    (repeat (first | (with_reducible assumption) | (with_reducible apply Blk.new) | (with_reducible exact blkAt _ _ _ _ (by simp; done)) | (with_reducible apply blk_st2) | (with_reducible apply blk_st4) | (with_reducible apply blk_st6) | (with_reducible apply blk_far (hne := by first | (with_reducible assumption) | omega)) | (with_reducible apply blk_up (hb := by assumption)) | (with_reducible apply Blk.alloc)))
  have B3 : Blk W3 (w.heap.size + 1) 23 #[.int .i64 b0, .int .i64 b1, .int .i64 b2, .int .i64 b3, .int .i64 b4, .int .i64 b5] := by
    rw [hW3]
    (repeat (first | (with_reducible assumption) | (with_reducible apply Blk.new) | (with_reducible exact blkAt _ _ _ _ (by simp; done)) | (with_reducible apply blk_st2) | (with_reducible apply blk_st4) | (with_reducible apply blk_st6) | (with_reducible apply blk_far (hne := by first | (with_reducible assumption) | omega)) | (with_reducible apply blk_up (hb := by assumption)) | (with_reducible apply Blk.alloc)))
  have C3 : Blk W3 (w.heap.size + 1 + 1) 23 #[.int .i64 c0, .int .i64 c1, .int .i64 c2, .int .i64 c3, .int .i64 c4, .int .i64 c5] := by
    rw [hW3]
    (repeat (first | (with_reducible assumption) | (with_reducible apply Blk.new) | (with_reducible exact blkAt _ _ _ _ (by simp; done)) | (with_reducible apply blk_st2) | (with_reducible apply blk_st4) | (with_reducible apply blk_st6) | (with_reducible apply blk_far (hne := by first | (with_reducible assumption) | omega)) | (with_reducible apply blk_up (hb := by assumption)) | (with_reducible apply Blk.alloc)))
  clear hW3
  try clear qC2
  try clear pC2
  try clear qB2
  try clear pB2
  try clear qA2
  try clear pA2
  try clear hz2
  try clear hc2
  try clear hf2
  try clear d2
  try clear cC2_0
  try clear cC2_1
  try clear cC2_2
  try clear cC2_3
  try clear cC2_4
  try clear cC2_5
  try clear y2
  try clear k2
  try clear A2
  try clear B2
  try clear C2
  try clear gA2
  try clear lA2
  try clear gB2
  try clear lB2
  try clear gC2
  try clear lC2
  have y3 := k3.size
  have gA3 := A3.lt
  have lA3 := Nat.le_of_lt gA3
  have gB3 := B3.lt
  have lB3 := Nat.le_of_lt gB3
  have gC3 := C3.lt
  have lC3 := Nat.le_of_lt gC3
  have cA3_0 := A3.cell 0
  have cA3_1 := A3.cell 1
  have cA3_2 := A3.cell 2
  have cA3_3 := A3.cell 3
  have cA3_4 := A3.cell 4
  have cA3_5 := A3.cell 5
  simp only [List.getElem?_toArray, List.getElem?_cons_zero, List.getElem?_cons_succ] at cA3_0 cA3_1 cA3_2 cA3_3 cA3_4 cA3_5
  have cB3_0 := B3.cell 0
  have cB3_1 := B3.cell 1
  have cB3_2 := B3.cell 2
  have cB3_3 := B3.cell 3
  have cB3_4 := B3.cell 4
  have cB3_5 := B3.cell 5
  simp only [List.getElem?_toArray, List.getElem?_cons_zero, List.getElem?_cons_succ] at cB3_0 cB3_1 cB3_2 cB3_3 cB3_4 cB3_5
  ((with_reducible refine (H3.out _).mono ?_); rintro e u3 ⟨rfl, d3⟩)
  obtain ⟨hz3, hc3, hf3⟩ := bcl d3 (by first | (simp; rfl) | rfl)
  have qA3 : w.heap.size < u3.heap.size := by omega
  have pA3 : w.heap.size ≤ u3.heap.size := by omega
  have qB3 : w.heap.size + 1 < u3.heap.size := by omega
  have pB3 : w.heap.size + 1 ≤ u3.heap.size := by omega
  have qC3 : w.heap.size + 1 + 1 < u3.heap.size := by omega
  have pC3 : w.heap.size + 1 + 1 ≤ u3.heap.size := by omega
  go_wp2_with fail
  refine calls_letter ?_
  intro W4 hW4
  have k4 : Below w.heap.size w W4 := by
    rw [hW4]
    (repeat (first | (with_reducible assumption) | (with_reducible exact bl_refl _) | (with_reducible refine bl_alloc ?_ _) | (with_reducible refine bl_set' ?_ ?_; · (dsimp only; first | assumption | exact Nat.le_refl _ | omega)) | (with_reducible refine bl_last (by assumption) ?_)))
  have A4 : Blk W4 (w.heap.size) 23 #[.int .i64 a0, .int .i64 a1, .int .i64 a2, .int .i64 a3, .int .i64 a4, .int .i64 a5] := by
    rw [hW4]
    (repeat (first | (with_reducible assumption) | (with_reducible apply Blk.new) | (with_reducible exact blkAt _ _ _ _ (by simp; done)) | (with_reducible apply blk_st2) | (with_reducible apply blk_st4) | (with_reducible apply blk_st6) | (with_reducible apply blk_far (hne := by first | (with_reducible assumption) | omega)) | (with_reducible apply blk_up (hb := by assumption)) | (with_reducible apply Blk.alloc)))
  have B4 : Blk W4 (w.heap.size + 1) 23 #[.int .i64 b0, .int .i64 b1, .int .i64 b2, .int .i64 b3, .int .i64 b4, .int .i64 b5] := by
    rw [hW4]
    (repeat (first | (with_reducible assumption) | (with_reducible apply Blk.new) | (with_reducible exact blkAt _ _ _ _ (by simp; done)) | (with_reducible apply blk_st2) | (with_reducible apply blk_st4) | (with_reducible apply blk_st6) | (with_reducible apply blk_far (hne := by first | (with_reducible assumption) | omega)) | (with_reducible apply blk_up (hb := by assumption)) | (with_reducible apply Blk.alloc)))
  have C4 : Blk W4 (w.heap.size + 1 + 1) 23 #[.int .i64 c0, .int .i64 c1, .int .i64 c2, .int .i64 c3, .int .i64 c4, .int .i64 c5] := by
    rw [hW4]
    (repeat (first | (with_reducible assumption) | (with_reducible apply Blk.new) | (with_reducible exact blkAt _ _ _ _ (by simp; done)) | (with_reducible apply blk_st2) | (with_reducible apply blk_st4) | (with_reducible apply blk_st6) | (with_reducible apply blk_far (hne := by first | (with_reducible assumption) | omega)) | (with_reducible apply blk_up (hb := by assumption)) | (with_reducible apply Blk.alloc)))
  clear hW4
  try clear qC3
  try clear pC3
  try clear qB3
  try clear pB3
  try clear qA3
  try clear pA3
  try clear hz3
  try clear hc3
  try clear hf3
  try clear d3
  try clear cB3_0
  try clear cB3_1
  try clear cB3_2
  try clear cB3_3
  try clear cB3_4
  try clear cB3_5
  try clear cA3_0
  try clear cA3_1
  try clear cA3_2
  try clear cA3_3
  try clear cA3_4
  try clear cA3_5
  try clear y3
  try clear k3
  try clear A3
  try clear B3
  try clear C3
  try clear gA3
  try clear lA3
  try clear gB3
  try clear lB3
  try clear gC3
  try clear lC3
  have y4 := k4.size
  have gA4 := A4.lt
  have lA4 := Nat.le_of_lt gA4
  have gB4 := B4.lt
  have lB4 := Nat.le_of_lt gB4
  have gC4 := C4.lt
  have lC4 := Nat.le_of_lt gC4
  have cA4_0 := A4.cell 0
  have cA4_1 := A4.cell 1
  have cA4_2 := A4.cell 2
  have cA4_3 := A4.cell 3
  have cA4_4 := A4.cell 4
  have cA4_5 := A4.cell 5
  simp only [List.getElem?_toArray, List.getElem?_cons_zero, List.getElem?_cons_succ] at cA4_0 cA4_1 cA4_2 cA4_3 cA4_4 cA4_5
  have cB4_0 := B4.cell 0
  have cB4_1 := B4.cell 1
  have cB4_2 := B4.cell 2
  have cB4_3 := B4.cell 3
  have cB4_4 := B4.cell 4
  have cB4_5 := B4.cell 5
  simp only [List.getElem?_toArray, List.getElem?_cons_zero, List.getElem?_cons_succ] at cB4_0 cB4_1 cB4_2 cB4_3 cB4_4 cB4_5
  ((with_reducible refine (H4.out _ (HP.out.up k4)).mono ?_); rintro e u4 ⟨rfl, d4⟩)
  obtain ⟨hz4, hc4, hf4⟩ := bcl d4 (by first | (simp; rfl) | rfl)
  have qA4 : w.heap.size < u4.heap.size := by omega
  have pA4 : w.heap.size ≤ u4.heap.size := by omega
  have qB4 : w.heap.size + 1 < u4.heap.size := by omega
  have pB4 : w.heap.size + 1 ≤ u4.heap.size := by omega
  have qC4 : w.heap.size + 1 + 1 < u4.heap.size := by omega
  have pC4 : w.heap.size + 1 + 1 ≤ u4.heap.size := by omega
  go_wp2_with fail
  refine calls_letter ?_
  intro W5 hW5
  have k5 : Below w.heap.size w W5 := by
    rw [hW5]
    (repeat (first | (with_reducible assumption) | (with_reducible exact bl_refl _) | (with_reducible refine bl_alloc ?_ _) | (with_reducible refine bl_set' ?_ ?_; · (dsimp only; first | assumption | exact Nat.le_refl _ | omega)) | (with_reducible refine bl_last (by assumption) ?_)))
  have A5 : Blk W5 (w.heap.size) 23 #[.int .i64 a0, .int .i64 a1, .int .i64 a2, .int .i64 a3, .int .i64 a4, .int .i64 a5] := by
    rw [hW5]
    (repeat (first | (with_reducible assumption) | (with_reducible apply Blk.new) | (with_reducible exact blkAt _ _ _ _ (by simp; done)) | (with_reducible apply blk_st2) | (with_reducible apply blk_st4) | (with_reducible apply blk_st6) | (with_reducible apply blk_far (hne := by first | (with_reducible assumption) | omega)) | (with_reducible apply blk_up (hb := by assumption)) | (with_reducible apply Blk.alloc)))
  have B5 : Blk W5 (w.heap.size + 1) 23 #[.int .i64 b0, .int .i64 b1, .int .i64 b2, .int .i64 b3, .int .i64 b4, .int .i64 b5] := by
    rw [hW5]
    (repeat (first | (with_reducible assumption) | (with_reducible apply Blk.new) | (with_reducible exact blkAt _ _ _ _ (by simp; done)) | (with_reducible apply blk_st2) | (with_reducible apply blk_st4) | (with_reducible apply blk_st6) | (with_reducible apply blk_far (hne := by first | (with_reducible assumption) | omega)) | (with_reducible apply blk_up (hb := by assumption)) | (with_reducible apply Blk.alloc)))
  have C5 : Blk W5 (w.heap.size + 1 + 1) 23 #[.int .i64 c0, .int .i64 c1, .int .i64 c2, .int .i64 c3, .int .i64 c4, .int .i64 c5] := by
    rw [hW5]
    (repeat (first | (with_reducible assumption) | (with_reducible apply Blk.new) | (with_reducible exact blkAt _ _ _ _ (by simp; done)) | (with_reducible apply blk_st2) | (with_reducible apply blk_st4) | (with_reducible apply blk_st6) | (with_reducible apply blk_far (hne := by first | (with_reducible assumption) | omega)) | (with_reducible apply blk_up (hb := by assumption)) | (with_reducible apply Blk.alloc)))
  clear hW5
  try clear qC4
  try clear pC4
  try clear qB4
  try clear pB4
  try clear qA4
  try clear pA4
  try clear hz4
  try clear hc4
  try clear hf4
  try clear d4
  try clear cB4_0
  try clear cB4_1
  try clear cB4_2
  try clear cB4_3
  try clear cB4_4
  try clear cB4_5
  try clear cA4_0
  try clear cA4_1
  try clear cA4_2
  try clear cA4_3
  try clear cA4_4
  try clear cA4_5
  try clear y4
  try clear k4
  try clear A4
  try clear B4
  try clear C4
  try clear gA4
  try clear lA4
  try clear gB4
  try clear lB4
  try clear gC4
  try clear lC4
  have y5 := k5.size
  have gA5 := A5.lt
  have lA5 := Nat.le_of_lt gA5
  have gB5 := B5.lt
  have lB5 := Nat.le_of_lt gB5
  have gC5 := C5.lt
  have lC5 := Nat.le_of_lt gC5
  have cB5_0 := B5.cell 0
  have cB5_1 := B5.cell 1
  have cB5_2 := B5.cell 2
  have cB5_3 := B5.cell 3
  have cB5_4 := B5.cell 4
  have cB5_5 := B5.cell 5
  simp only [List.getElem?_toArray, List.getElem?_cons_zero, List.getElem?_cons_succ] at cB5_0 cB5_1 cB5_2 cB5_3 cB5_4 cB5_5
  have cC5_0 := C5.cell 0
  have cC5_1 := C5.cell 1
  have cC5_2 := C5.cell 2
  have cC5_3 := C5.cell 3
  have cC5_4 := C5.cell 4
  have cC5_5 := C5.cell 5
  simp only [List.getElem?_toArray, List.getElem?_cons_zero, List.getElem?_cons_succ] at cC5_0 cC5_1 cC5_2 cC5_3 cC5_4 cC5_5
  ((with_reducible refine (H5.out _ (HP.out.up k5)).mono ?_); rintro e u5 ⟨rfl, d5⟩)
  obtain ⟨hz5, hc5, hf5⟩ := bcl d5 (by first | (simp; rfl) | rfl)
  have qA5 : w.heap.size < u5.heap.size := by omega
  have pA5 : w.heap.size ≤ u5.heap.size := by omega
  have qB5 : w.heap.size + 1 < u5.heap.size := by omega
  have pB5 : w.heap.size + 1 ≤ u5.heap.size := by omega
  have qC5 : w.heap.size + 1 + 1 < u5.heap.size := by omega
  have pC5 : w.heap.size + 1 + 1 ≤ u5.heap.size := by omega
  go_wp2_with fail
  refine calls_letter ?_
  intro W6 hW6
  have k6 : Below w.heap.size w W6 := by
    rw [hW6]
    (repeat (first | (with_reducible assumption) | (with_reducible exact bl_refl _) | (with_reducible refine bl_alloc ?_ _) | (with_reducible refine bl_set' ?_ ?_; · (dsimp only; first | assumption | exact Nat.le_refl _ | omega)) | (with_reducible refine bl_last (by assumption) ?_)))
  have A6 : Blk W6 (w.heap.size) 23 #[.int .i64 a0, .int .i64 a1, .int .i64 a2, .int .i64 a3, .int .i64 a4, .int .i64 a5] := by
    rw [hW6]
    (repeat (first | (with_reducible assumption) | (with_reducible apply Blk.new) | (with_reducible exact blkAt _ _ _ _ (by simp; done)) | (with_reducible apply blk_st2) | (with_reducible apply blk_st4) | (with_reducible apply blk_st6) | (with_reducible apply blk_far (hne := by first | (with_reducible assumption) | omega)) | (with_reducible apply blk_up (hb := by assumption)) | (with_reducible apply Blk.alloc)))
  have B6 : Blk W6 (w.heap.size + 1) 23 #[.int .i64 b0, .int .i64 b1, .int .i64 b2, .int .i64 b3, .int .i64 b4, .int .i64 b5] := by
    rw [hW6]
    (repeat (first | (with_reducible assumption) | (with_reducible apply Blk.new) | (with_reducible exact blkAt _ _ _ _ (by simp; done)) | (with_reducible apply blk_st2) | (with_reducible apply blk_st4) | (with_reducible apply blk_st6) | (with_reducible apply blk_far (hne := by first | (with_reducible assumption) | omega)) | (with_reducible apply blk_up (hb := by assumption)) | (with_reducible apply Blk.alloc)))
  have C6 : Blk W6 (w.heap.size + 1 + 1) 23 #[.int .i64 c0, .int .i64 c1, .int .i64 c2, .int .i64 c3, .int .i64 c4, .int .i64 c5] := by
    rw [hW6]
    (repeat (first | (with_reducible assumption) | (with_reducible apply Blk.new) | (with_reducible exact blkAt _ _ _ _ (by simp; done)) | (with_reducible apply blk_st2) | (with_reducible apply blk_st4) | (with_reducible apply blk_st6) | (with_reducible apply blk_far (hne := by first | (with_reducible assumption) | omega)) | (with_reducible apply blk_up (hb := by assumption)) | (with_reducible apply Blk.alloc)))
  clear hW6
  try clear qC5
  try clear pC5
  try clear qB5
  try clear pB5
  try clear qA5
  try clear pA5
  try clear hz5
  try clear hc5
  try clear hf5
  try clear d5
  try clear cC5_0
  try clear cC5_1
  try clear cC5_2
  try clear cC5_3
  try clear cC5_4
  try clear cC5_5
  try clear cB5_0
  try clear cB5_1
  try clear cB5_2
  try clear cB5_3
  try clear cB5_4
  try clear cB5_5
  try clear y5
  try clear k5
  try clear A5
  try clear B5
  try clear C5
  try clear gA5
  try clear lA5
  try clear gB5
  try clear lB5
  try clear gC5
  try clear lC5
  have y6 := k6.size
  have gA6 := A6.lt
  have lA6 := Nat.le_of_lt gA6
  have gB6 := B6.lt
  have lB6 := Nat.le_of_lt gB6
  have gC6 := C6.lt
  have lC6 := Nat.le_of_lt gC6
  have cA6_0 := A6.cell 0
  have cA6_1 := A6.cell 1
  have cA6_2 := A6.cell 2
  have cA6_3 := A6.cell 3
  have cA6_4 := A6.cell 4
  have cA6_5 := A6.cell 5
  simp only [List.getElem?_toArray, List.getElem?_cons_zero, List.getElem?_cons_succ] at cA6_0 cA6_1 cA6_2 cA6_3 cA6_4 cA6_5
  have cC6_0 := C6.cell 0
  have cC6_1 := C6.cell 1
  have cC6_2 := C6.cell 2
  have cC6_3 := C6.cell 3
  have cC6_4 := C6.cell 4
  have cC6_5 := C6.cell 5
  simp only [List.getElem?_toArray, List.getElem?_cons_zero, List.getElem?_cons_succ] at cC6_0 cC6_1 cC6_2 cC6_3 cC6_4 cC6_5
  ((with_reducible refine (H6.out _ (HP.out.up k6)).mono ?_); rintro e u6 ⟨rfl, d6⟩)
  obtain ⟨hz6, hc6, hf6⟩ := bcl d6 (by first | (simp; rfl) | rfl)
  have qA6 : w.heap.size < u6.heap.size := by omega
  have pA6 : w.heap.size ≤ u6.heap.size := by omega
  have qB6 : w.heap.size + 1 < u6.heap.size := by omega
  have pB6 : w.heap.size + 1 ≤ u6.heap.size := by omega
  have qC6 : w.heap.size + 1 + 1 < u6.heap.size := by omega
  have pC6 : w.heap.size + 1 + 1 ≤ u6.heap.size := by omega
  go_wp2_with fail
  refine calls_letter ?_
  intro W7 hW7
  have k7 : Below w.heap.size w W7 := by
    rw [hW7]
    (repeat (first | (with_reducible assumption) | (with_reducible exact bl_refl _) | (with_reducible refine bl_alloc ?_ _) | (with_reducible refine bl_set' ?_ ?_; · (dsimp only; first | assumption | exact Nat.le_refl _ | omega)) | (with_reducible refine bl_last (by assumption) ?_)))
  have A7 : Blk W7 (w.heap.size) 23 #[.int .i64 a0, .int .i64 a1, .int .i64 a2, .int .i64 a3, .int .i64 a4, .int .i64 a5] := by
    rw [hW7]
    (repeat (first | (with_reducible assumption) | (with_reducible apply Blk.new) | (with_reducible exact blkAt _ _ _ _ (by simp; done)) | (with_reducible apply blk_st2) | (with_reducible apply blk_st4) | (with_reducible apply blk_st6) | (with_reducible apply blk_far (hne := by first | (with_reducible assumption) | omega)) | (with_reducible apply blk_up (hb := by assumption)) | (with_reducible apply Blk.alloc)))
  have B7 : Blk W7 (w.heap.size + 1) 23 #[.int .i64 b0, .int .i64 b1, .int .i64 b2, .int .i64 b3, .int .i64 b4, .int .i64 b5] := by
    rw [hW7]
    (repeat (first | (with_reducible assumption) | (with_reducible apply Blk.new) | (with_reducible exact blkAt _ _ _ _ (by simp; done)) | (with_reducible apply blk_st2) | (with_reducible apply blk_st4) | (with_reducible apply blk_st6) | (with_reducible apply blk_far (hne := by first | (with_reducible assumption) | omega)) | (with_reducible apply blk_up (hb := by assumption)) | (with_reducible apply Blk.alloc)))
  have C7 : Blk W7 (w.heap.size + 1 + 1) 23 #[.int .i64 c0, .int .i64 c1, .int .i64 c2, .int .i64 c3, .int .i64 c4, .int .i64 c5] := by
    rw [hW7]
    (repeat (first | (with_reducible assumption) | (with_reducible apply Blk.new) | (with_reducible exact blkAt _ _ _ _ (by simp; done)) | (with_reducible apply blk_st2) | (with_reducible apply blk_st4) | (with_reducible apply blk_st6) | (with_reducible apply blk_far (hne := by first | (with_reducible assumption) | omega)) | (with_reducible apply blk_up (hb := by assumption)) | (with_reducible apply Blk.alloc)))
  clear hW7
  try clear qC6
  try clear pC6
  try clear qB6
  try clear pB6
  try clear qA6
  try clear pA6
  try clear hz6
  try clear hc6
  try clear hf6
  try clear d6
  try clear cC6_0
  try clear cC6_1
  try clear cC6_2
  try clear cC6_3
  try clear cC6_4
  try clear cC6_5
  try clear cA6_0
  try clear cA6_1
  try clear cA6_2
  try clear cA6_3
  try clear cA6_4
  try clear cA6_5
  try clear y6
  try clear k6
  try clear A6
  try clear B6
  try clear C6
  try clear gA6
  try clear lA6
  try clear gB6
  try clear lB6
  try clear gC6
  try clear lC6
  have y7 := k7.size
  have gA7 := A7.lt
  have lA7 := Nat.le_of_lt gA7
  have gB7 := B7.lt
  have lB7 := Nat.le_of_lt gB7
  have gC7 := C7.lt
  have lC7 := Nat.le_of_lt gC7
  have cA7_0 := A7.cell 0
  have cA7_1 := A7.cell 1
  have cA7_2 := A7.cell 2
  have cA7_3 := A7.cell 3
  have cA7_4 := A7.cell 4
  have cA7_5 := A7.cell 5
  simp only [List.getElem?_toArray, List.getElem?_cons_zero, List.getElem?_cons_succ] at cA7_0 cA7_1 cA7_2 cA7_3 cA7_4 cA7_5
  have cB7_0 := B7.cell 0
  have cB7_1 := B7.cell 1
  have cB7_2 := B7.cell 2
  have cB7_3 := B7.cell 3
  have cB7_4 := B7.cell 4
  have cB7_5 := B7.cell 5
  simp only [List.getElem?_toArray, List.getElem?_cons_zero, List.getElem?_cons_succ] at cB7_0 cB7_1 cB7_2 cB7_3 cB7_4 cB7_5
  ((with_reducible refine (H7.out _ (HP.out.up k7)).mono ?_); rintro e u7 ⟨rfl, d7⟩)
  obtain ⟨hz7, hc7, hf7⟩ := bcl d7 (by first | (simp; rfl) | rfl)
  have qA7 : w.heap.size < u7.heap.size := by omega
  have pA7 : w.heap.size ≤ u7.heap.size := by omega
  have qB7 : w.heap.size + 1 < u7.heap.size := by omega
  have pB7 : w.heap.size + 1 ≤ u7.heap.size := by omega
  have qC7 : w.heap.size + 1 + 1 < u7.heap.size := by omega
  have pC7 : w.heap.size + 1 + 1 ≤ u7.heap.size := by omega
  have hE := HE.out
  have ht1 := HT.out
  have ht2 := HT2.out
  clear HE HT HT2
  rcases HX.out with ⟨rfl, rfl, rfl⟩ | ⟨rfl, rfl, rfl⟩ | ⟨rfl, rfl, rfl⟩ <;> rcases HZ.out with rfl | rfl | rfl <;> rcases HU.out with rfl | rfl | rfl <;> (first | (exfalso; omega) | skip)
  all_goals
    clear HX HZ HU ht1 ht2
    go_wp2_with fail
    go_ret
    refine ⟨rfl, ?_⟩
    (repeat (first | (with_reducible exact bl_refl _) | (with_reducible refine bl_drew ?_) | (with_reducible refine bl_alloc ?_ _) | (with_reducible refine bl_set' ?_ ?_; · (first | omega | (simp; done) | (simp; omega))) | (with_reducible refine bl_last (by assumption) ?_) | (with_reducible refine bl_drewN ?_ _)))
end Go.Proofs.YtgbiiaaeabflnaaDoor
