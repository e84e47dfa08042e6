/- PitchGroup: the walk (genlaw03.py prints it). -/
import Derived.Test.YtgbiiaaeabflnaaDoorHead03
import Derived.Test.YtgbiiaaeabflnaaDoorGrpA
namespace Go.Proofs.YtgbiiaaeabflnaaDoor
open Go Go.RowKit

theorem grp (a0 a1 a2 a3 a4 a5 b0 b1 b2 b3 b4 b5 c0 c1 c2 c3 c4 c5 : Int) : ∃ p0 p1 p2 p3 p4 p5 e r0 r1 r2 r3 r4 r5 g : Int, cbV 1 a0 a1 a2 a3 a4 a5 b0 b1 b2 b3 b4 b5 = .tuple #[.agg #[.int .i64 p0, .int .i64 p1, .int .i64 p2, .int .i64 p3, .int .i64 p4, .int .i64 p5], .int .i64 e] ∧ cbV 1 b0 b1 b2 b3 b4 b5 a0 a1 a2 a3 a4 a5 = .tuple #[.agg #[.int .i64 p0, .int .i64 p1, .int .i64 p2, .int .i64 p3, .int .i64 p4, .int .i64 p5], .int .i64 e] ∧ cbV 1 b0 b1 b2 b3 b4 b5 c0 c1 c2 c3 c4 c5 = .tuple #[.agg #[.int .i64 r0, .int .i64 r1, .int .i64 r2, .int .i64 r3, .int .i64 r4, .int .i64 r5], .int .i64 g] ∧
    (e = 0 → g = 0 → ∃ l0 l1 l2 l3 l4 l5 h : Int, cbV 1 p0 p1 p2 p3 p4 p5 c0 c1 c2 c3 c4 c5 = .tuple #[.agg #[.int .i64 l0, .int .i64 l1, .int .i64 l2, .int .i64 l3, .int .i64 l4, .int .i64 l5], .int .i64 h] ∧ cbV 1 a0 a1 a2 a3 a4 a5 r0 r1 r2 r3 r4 r5 = .tuple #[.agg #[.int .i64 l0, .int .i64 l1, .int .i64 l2, .int .i64 l3, .int .i64 l4, .int .i64 l5], .int .i64 h] ∧ cbV 1 a0 a1 a2 a3 a4 a5 0 0 0 0 0 0 = .tuple #[.agg #[.int .i64 a0, .int .i64 a1, .int .i64 a2, .int .i64 a3, .int .i64 a4, .int .i64 a5], .int .i64 0] ∧ cbV (-1) p0 p1 p2 p3 p4 p5 b0 b1 b2 b3 b4 b5 = .tuple #[.agg #[.int .i64 a0, .int .i64 a1, .int .i64 a2, .int .i64 a3, .int .i64 a4, .int .i64 a5], .int .i64 0] ∧ cbV (-1) a0 a1 a2 a3 a4 a5 a0 a1 a2 a3 a4 a5 = .tuple #[.agg #[.int .i64 0, .int .i64 0, .int .i64 0, .int .i64 0, .int .i64 0, .int .i64 0], .int .i64 0]) := by
  refine ⟨_, _, _, _, _, _, _, _, _, _, _, _, _, _, rfl, cb_comm a0 a1 a2 a3 a4 a5 b0 b1 b2 b3 b4 b5, rfl, fun he hg => ?_⟩
  obtain ⟨v1, v2, v3⟩ := cb_of he
  have hp : cb 1 (cbE 1 a0 a1 a2 a3 a4 a5 b0 b1 b2 b3 b4 b5) a0 b0 = a0 + b0 ∧ cb 1 (cbE 1 a0 a1 a2 a3 a4 a5 b0 b1 b2 b3 b4 b5) a1 b1 = a1 + b1 ∧ cb 1 (cbE 1 a0 a1 a2 a3 a4 a5 b0 b1 b2 b3 b4 b5) a2 b2 = a2 + b2 ∧ cb 1 (cbE 1 a0 a1 a2 a3 a4 a5 b0 b1 b2 b3 b4 b5) a3 b3 = a3 + b3 ∧ cb 1 (cbE 1 a0 a1 a2 a3 a4 a5 b0 b1 b2 b3 b4 b5) a4 b4 = a4 + b4 ∧ cb 1 (cbE 1 a0 a1 a2 a3 a4 a5 b0 b1 b2 b3 b4 b5) a5 b5 = a5 + b5 := ⟨by rw [he]; simp [cb], by rw [he]; simp [cb], by rw [he]; simp [cb], by rw [he]; simp [cb], by rw [he]; simp [cb], by rw [he]; simp [cb]⟩
  have hr : cb 1 (cbE 1 b0 b1 b2 b3 b4 b5 c0 c1 c2 c3 c4 c5) b0 c0 = b0 + c0 ∧ cb 1 (cbE 1 b0 b1 b2 b3 b4 b5 c0 c1 c2 c3 c4 c5) b1 c1 = b1 + c1 ∧ cb 1 (cbE 1 b0 b1 b2 b3 b4 b5 c0 c1 c2 c3 c4 c5) b2 c2 = b2 + c2 ∧ cb 1 (cbE 1 b0 b1 b2 b3 b4 b5 c0 c1 c2 c3 c4 c5) b3 c3 = b3 + c3 ∧ cb 1 (cbE 1 b0 b1 b2 b3 b4 b5 c0 c1 c2 c3 c4 c5) b4 c4 = b4 + c4 ∧ cb 1 (cbE 1 b0 b1 b2 b3 b4 b5 c0 c1 c2 c3 c4 c5) b5 c5 = b5 + c5 := ⟨by rw [hg]; simp [cb], by rw [hg]; simp [cb], by rw [hg]; simp [cb], by rw [hg]; simp [cb], by rw [hg]; simp [cb], by rw [hg]; simp [cb]⟩
  obtain ⟨hp0, hp1, hp2, hp3, hp4, hp5⟩ := hp
  obtain ⟨hr0, hr1, hr2, hr3, hr4, hr5⟩ := hr
  rw [hp0, hr0, hp1, hr1, hp2, hr2, hp3, hr3, hp4, hr4, hp5, hr5]
  exact ⟨_, _, _, _, _, _, _, rfl, cb_assoc he hg, cb_unit v1, cb_back he, cb_one v1⟩
set_option maxRecDepth 100000 in
set_option maxHeartbeats 16000000 in
theorem walk_PitchGroup (a0 a1 a2 a3 a4 a5 b0 b1 b2 b3 b4 b5 c0 c1 c2 c3 c4 c5 : Int) (w : World)
    (w_a0 : (Lit.int .i64 a0).wf = true) (w_a1 : (Lit.int .i64 a1).wf = true) (w_a2 : (Lit.int .i64 a2).wf = true) (w_a3 : (Lit.int .i64 a3).wf = true) (w_a4 : (Lit.int .i64 a4).wf = true) (w_a5 : (Lit.int .i64 a5).wf = true) (w_b0 : (Lit.int .i64 b0).wf = true) (w_b1 : (Lit.int .i64 b1).wf = true) (w_b2 : (Lit.int .i64 b2).wf = true) (w_b3 : (Lit.int .i64 b3).wf = true) (w_b4 : (Lit.int .i64 b4).wf = true) (w_b5 : (Lit.int .i64 b5).wf = true) (w_c0 : (Lit.int .i64 c0).wf = true) (w_c1 : (Lit.int .i64 c1).wf = true) (w_c2 : (Lit.int .i64 c2).wf = true) (w_c3 : (Lit.int .i64 c3).wf = true) (w_c4 : (Lit.int .i64 c4).wf = true) (w_c5 : (Lit.int .i64 c5).wf = true) (hL : PR w ∧ PW w) :
    Calls Tryd.prog 7 #[.agg #[.int .i64 a0, .int .i64 a1, .int .i64 a2, .int .i64 a3, .int .i64 a4, .int .i64 a5], .agg #[.int .i64 b0, .int .i64 b1, .int .i64 b2, .int .i64 b3, .int .i64 b4, .int .i64 b5], .agg #[.int .i64 c0, .int .i64 c1, .int .i64 c2, .int .i64 c3, .int .i64 c4, .int .i64 c5]] w (Ret (.bool true) w) := by
  clear w_a0 w_a1 w_a2 w_a3 w_a4 w_a5 w_b0 w_b1 w_b2 w_b3 w_b4 w_b5 w_c0 w_c1 w_c2 w_c3 w_c4 w_c5
  have HP := Lib.hid hL.1
  have HQ := Lib.hid hL.2
  have HH := Lib.hid (fun W (h : PR W) (h' : PW W) => head03_c W h h')
  clear hL
  have h1 := fun W => PMul_c a0 a1 a2 a3 a4 a5 b0 b1 b2 b3 b4 b5 W
  have h2 := fun W => PMul_c b0 b1 b2 b3 b4 b5 a0 a1 a2 a3 a4 a5 W
  have h3 := fun W => PMul_c b0 b1 b2 b3 b4 b5 c0 c1 c2 c3 c4 c5 W
  have h6 := fun W => PMul_c a0 a1 a2 a3 a4 a5 0 0 0 0 0 0 W
  have h8 := fun W => PDiv_c a0 a1 a2 a3 a4 a5 a0 a1 a2 a3 a4 a5 W
  obtain ⟨p0, p1, p2, p3, p4, p5, e, r0, r1, r2, r3, r4, r5, g, e1, e2, e3, hall⟩ := grp a0 a1 a2 a3 a4 a5 b0 b1 b2 b3 b4 b5 c0 c1 c2 c3 c4 c5
  rw [e1] at h1
  rw [e2] at h2
  rw [e3] at h3
  have H1 := Lib.hid h1
  have H2 := Lib.hid h2
  have H3 := Lib.hid h3
  clear e1 e2 e3 h1 h2 h3
  by_cases hk : e = 0 ∧ g = 0
  · obtain ⟨rfl, rfl⟩ := hk
    obtain ⟨l0, l1, l2, l3, l4, l5, h, e1, e2, e3, e4, e5⟩ := hall rfl rfl
    have h4 := fun W => PMul_c p0 p1 p2 p3 p4 p5 c0 c1 c2 c3 c4 c5 W
    have h5 := fun W => PMul_c a0 a1 a2 a3 a4 a5 r0 r1 r2 r3 r4 r5 W
    have h7 := fun W => PDiv_c p0 p1 p2 p3 p4 p5 b0 b1 b2 b3 b4 b5 W
    rw [e1] at h4
    rw [e2] at h5
    rw [e3] at h6
    rw [e4] at h7
    rw [e5] at h8
    have H4 := Lib.hid h4
    have H5 := Lib.hid h5
    have H6 := Lib.hid h6
    have H7 := Lib.hid h7
    have H8 := Lib.hid h8
    clear e1 e2 e3 e4 e5 h4 h5 h6 h7 h8 hall
    go_enter Tryd.func7, Tryd.ntmps7
    go_wp2_with fail
    ((with_reducible refine (HH.out _ (HP.out.up (by (repeat (first | (with_reducible exact bl_refl _) | (with_reducible refine bl_drew ?_) | (with_reducible refine bl_alloc ?_ _) | (with_reducible refine bl_set' ?_ ?_; · (first | omega | (simp; done) | (simp; omega))) | (with_reducible refine bl_last (by assumption) ?_) | (with_reducible refine bl_drewN ?_ _))))) (tab_up HQ.out (by (repeat (first | (with_reducible exact bl_refl _) | (with_reducible refine bl_drew ?_) | (with_reducible refine bl_alloc ?_ _) | (with_reducible refine bl_set' ?_ ?_; · (first | omega | (simp; done) | (simp; omega))) | (with_reducible refine bl_last (by assumption) ?_) | (with_reducible refine bl_drewN ?_ _)))))).mono ?_); rintro e u0 ⟨rfl, d0⟩)
    obtain ⟨hz0, hc0, hf0⟩ := bcl d0 (by first | (simp; rfl) | rfl)
    have z0_0 : w.heap.size < u0.heap.size := by omega
    have z0_1 : w.heap.size + 1 < u0.heap.size := by omega
    have z0_2 : w.heap.size + 1 + 1 < u0.heap.size := by omega
    go_wp2_with fail
    refine calls_letter ?_
    intro W1 hW1
    have k1 : Below w.heap.size w W1 := by
      rw [hW1]
      (repeat (first | (with_reducible assumption) | (with_reducible exact bl_refl _) | (with_reducible refine bl_alloc ?_ _) | (with_reducible refine bl_set' ?_ ?_; · (dsimp only; first | assumption | exact Nat.le_refl _ | omega)) | (with_reducible refine bl_last (by assumption) ?_)))
    have A1 : Blk W1 (w.heap.size) 23 #[.int .i64 a0, .int .i64 a1, .int .i64 a2, .int .i64 a3, .int .i64 a4, .int .i64 a5] := by
      rw [hW1]
      (repeat (first | (with_reducible assumption) | (with_reducible apply Blk.new) | (with_reducible exact blkAt _ _ _ _ (by simp; done)) | (with_reducible apply blk_st2) | (with_reducible apply blk_st4) | (with_reducible apply blk_st6) | (with_reducible apply blk_far (hne := by first | (with_reducible assumption) | omega)) | (with_reducible apply blk_up (hb := by assumption)) | (with_reducible apply Blk.alloc)))
    have B1 : Blk W1 (w.heap.size + 1) 23 #[.int .i64 b0, .int .i64 b1, .int .i64 b2, .int .i64 b3, .int .i64 b4, .int .i64 b5] := by
      rw [hW1]
      (repeat (first | (with_reducible assumption) | (with_reducible apply Blk.new) | (with_reducible exact blkAt _ _ _ _ (by simp; done)) | (with_reducible apply blk_st2) | (with_reducible apply blk_st4) | (with_reducible apply blk_st6) | (with_reducible apply blk_far (hne := by first | (with_reducible assumption) | omega)) | (with_reducible apply blk_up (hb := by assumption)) | (with_reducible apply Blk.alloc)))
    have C1 : Blk W1 (w.heap.size + 1 + 1) 23 #[.int .i64 c0, .int .i64 c1, .int .i64 c2, .int .i64 c3, .int .i64 c4, .int .i64 c5] := by
      rw [hW1]
      (repeat (first | (with_reducible assumption) | (with_reducible apply Blk.new) | (with_reducible exact blkAt _ _ _ _ (by simp; done)) | (with_reducible apply blk_st2) | (with_reducible apply blk_st4) | (with_reducible apply blk_st6) | (with_reducible apply blk_far (hne := by first | (with_reducible assumption) | omega)) | (with_reducible apply blk_up (hb := by assumption)) | (with_reducible apply Blk.alloc)))
    clear hW1
    try clear hz0
    try clear hc0
    try clear hf0
    try clear d0
    try clear z0_0
    try clear z0_1
    try clear z0_2
    have y1 := k1.size
    have gA1 := A1.lt
    have lA1 := Nat.le_of_lt gA1
    have gB1 := B1.lt
    have lB1 := Nat.le_of_lt gB1
    have gC1 := C1.lt
    have lC1 := Nat.le_of_lt gC1
    have cB1_0 := B1.cell 0
    have cB1_1 := B1.cell 1
    have cB1_2 := B1.cell 2
    have cB1_3 := B1.cell 3
    have cB1_4 := B1.cell 4
    have cB1_5 := B1.cell 5
    simp only [List.getElem?_toArray, List.getElem?_cons_zero, List.getElem?_cons_succ] at cB1_0 cB1_1 cB1_2 cB1_3 cB1_4 cB1_5
    have cA1_0 := A1.cell 0
    have cA1_1 := A1.cell 1
    have cA1_2 := A1.cell 2
    have cA1_3 := A1.cell 3
    have cA1_4 := A1.cell 4
    have cA1_5 := A1.cell 5
    simp only [List.getElem?_toArray, List.getElem?_cons_zero, List.getElem?_cons_succ] at cA1_0 cA1_1 cA1_2 cA1_3 cA1_4 cA1_5
    ((with_reducible refine (H1.out _).mono ?_); rintro e u1 ⟨rfl, d1⟩)
    obtain ⟨hz1, hc1, hf1⟩ := bcl d1 (by first | (simp; rfl) | rfl)
    have qA1 : w.heap.size < u1.heap.size := by omega
    have pA1 : w.heap.size ≤ u1.heap.size := by omega
    have qB1 : w.heap.size + 1 < u1.heap.size := by omega
    have pB1 : w.heap.size + 1 ≤ u1.heap.size := by omega
    have qC1 : w.heap.size + 1 + 1 < u1.heap.size := by omega
    have pC1 : w.heap.size + 1 + 1 ≤ u1.heap.size := by omega
    have oP : w.heap.size ≤ u1.heap.size := by omega
    have nAP : w.heap.size ≠ u1.heap.size := by omega
    have mAP : u1.heap.size ≠ w.heap.size := by omega
    have nBP : w.heap.size + 1 ≠ u1.heap.size := by omega
    have mBP : u1.heap.size ≠ w.heap.size + 1 := by omega
    have nCP : w.heap.size + 1 + 1 ≠ u1.heap.size := by omega
    have mCP : u1.heap.size ≠ w.heap.size + 1 + 1 := by omega
    go_wp2_with fail
    refine calls_letter ?_
    intro W2 hW2
    have k2 : Below w.heap.size w W2 := by
      rw [hW2]
      (repeat (first | (with_reducible assumption) | (with_reducible exact bl_refl _) | (with_reducible refine bl_alloc ?_ _) | (with_reducible refine bl_set' ?_ ?_; · (dsimp only; first | assumption | exact Nat.le_refl _ | omega)) | (with_reducible refine bl_last (by assumption) ?_)))
    have A2 : Blk W2 (w.heap.size) 23 #[.int .i64 a0, .int .i64 a1, .int .i64 a2, .int .i64 a3, .int .i64 a4, .int .i64 a5] := by
      rw [hW2]
      (repeat (first | (with_reducible assumption) | (with_reducible apply Blk.new) | (with_reducible exact blkAt _ _ _ _ (by simp; done)) | (with_reducible apply blk_st2) | (with_reducible apply blk_st4) | (with_reducible apply blk_st6) | (with_reducible apply blk_far (hne := by first | (with_reducible assumption) | omega)) | (with_reducible apply blk_up (hb := by assumption)) | (with_reducible apply Blk.alloc)))
    have B2 : Blk W2 (w.heap.size + 1) 23 #[.int .i64 b0, .int .i64 b1, .int .i64 b2, .int .i64 b3, .int .i64 b4, .int .i64 b5] := by
      rw [hW2]
      (repeat (first | (with_reducible assumption) | (with_reducible apply Blk.new) | (with_reducible exact blkAt _ _ _ _ (by simp; done)) | (with_reducible apply blk_st2) | (with_reducible apply blk_st4) | (with_reducible apply blk_st6) | (with_reducible apply blk_far (hne := by first | (with_reducible assumption) | omega)) | (with_reducible apply blk_up (hb := by assumption)) | (with_reducible apply Blk.alloc)))
    have C2 : Blk W2 (w.heap.size + 1 + 1) 23 #[.int .i64 c0, .int .i64 c1, .int .i64 c2, .int .i64 c3, .int .i64 c4, .int .i64 c5] := by
      rw [hW2]
      (repeat (first | (with_reducible assumption) | (with_reducible apply Blk.new) | (with_reducible exact blkAt _ _ _ _ (by simp; done)) | (with_reducible apply blk_st2) | (with_reducible apply blk_st4) | (with_reducible apply blk_st6) | (with_reducible apply blk_far (hne := by first | (with_reducible assumption) | omega)) | (with_reducible apply blk_up (hb := by assumption)) | (with_reducible apply Blk.alloc)))
    have P2 : Blk W2 (u1.heap.size) 23 #[.int .i64 p0, .int .i64 p1, .int .i64 p2, .int .i64 p3, .int .i64 p4, .int .i64 p5] := by
      rw [hW2]
      (repeat (first | (with_reducible assumption) | (with_reducible apply Blk.new) | (with_reducible exact blkAt _ _ _ _ (by simp; done)) | (with_reducible apply blk_st2) | (with_reducible apply blk_st4) | (with_reducible apply blk_st6) | (with_reducible apply blk_far (hne := by first | (with_reducible assumption) | omega)) | (with_reducible apply blk_up (hb := by assumption)) | (with_reducible apply Blk.alloc)))
    clear hW2
    try clear qC1
    try clear pC1
    try clear qB1
    try clear pB1
    try clear qA1
    try clear pA1
    try clear hz1
    try clear hc1
    try clear hf1
    try clear d1
    try clear cA1_0
    try clear cA1_1
    try clear cA1_2
    try clear cA1_3
    try clear cA1_4
    try clear cA1_5
    try clear cB1_0
    try clear cB1_1
    try clear cB1_2
    try clear cB1_3
    try clear cB1_4
    try clear cB1_5
    try clear y1
    try clear k1
    try clear A1
    try clear B1
    try clear C1
    try clear gA1
    try clear lA1
    try clear gB1
    try clear lB1
    try clear gC1
    try clear lC1
    have y2 := k2.size
    have gA2 := A2.lt
    have lA2 := Nat.le_of_lt gA2
    have gB2 := B2.lt
    have lB2 := Nat.le_of_lt gB2
    have gC2 := C2.lt
    have lC2 := Nat.le_of_lt gC2
    have gP2 := P2.lt
    have lP2 := Nat.le_of_lt gP2
    have cB2_0 := B2.cell 0
    have cB2_1 := B2.cell 1
    have cB2_2 := B2.cell 2
    have cB2_3 := B2.cell 3
    have cB2_4 := B2.cell 4
    have cB2_5 := B2.cell 5
    simp only [List.getElem?_toArray, List.getElem?_cons_zero, List.getElem?_cons_succ] at cB2_0 cB2_1 cB2_2 cB2_3 cB2_4 cB2_5
    have cC2_0 := C2.cell 0
    have cC2_1 := C2.cell 1
    have cC2_2 := C2.cell 2
    have cC2_3 := C2.cell 3
    have cC2_4 := C2.cell 4
    have cC2_5 := C2.cell 5
    simp only [List.getElem?_toArray, List.getElem?_cons_zero, List.getElem?_cons_succ] at cC2_0 cC2_1 cC2_2 cC2_3 cC2_4 cC2_5
    ((with_reducible refine (H2.out _).mono ?_); rintro e u2 ⟨rfl, d2⟩)
    obtain ⟨hz2, hc2, hf2⟩ := bcl d2 (by first | (simp; rfl) | rfl)
    have qA2 : w.heap.size < u2.heap.size := by omega
    have pA2 : w.heap.size ≤ u2.heap.size := by omega
    have qB2 : w.heap.size + 1 < u2.heap.size := by omega
    have pB2 : w.heap.size + 1 ≤ u2.heap.size := by omega
    have qC2 : w.heap.size + 1 + 1 < u2.heap.size := by omega
    have pC2 : w.heap.size + 1 + 1 ≤ u2.heap.size := by omega
    have qP2 : u1.heap.size < u2.heap.size := by omega
    have pP2 : u1.heap.size ≤ u2.heap.size := by omega
    have oQ : w.heap.size ≤ u2.heap.size := by omega
    have nAQ : w.heap.size ≠ u2.heap.size := by omega
    have mAQ : u2.heap.size ≠ w.heap.size := by omega
    have nBQ : w.heap.size + 1 ≠ u2.heap.size := by omega
    have mBQ : u2.heap.size ≠ w.heap.size + 1 := by omega
    have nCQ : w.heap.size + 1 + 1 ≠ u2.heap.size := by omega
    have mCQ : u2.heap.size ≠ w.heap.size + 1 + 1 := by omega
    have nPQ : u1.heap.size ≠ u2.heap.size := by omega
    have mPQ : u2.heap.size ≠ u1.heap.size := by omega
    go_wp2_with fail
    refine calls_letter ?_
    intro W3 hW3
    have k3 : Below w.heap.size w W3 := by
      rw [hW3]
      (repeat (first | (with_reducible assumption) | (with_reducible exact bl_refl _) | (with_reducible refine bl_alloc ?_ _) | (with_reducible refine bl_set' ?_ ?_; · (dsimp only; first | assumption | exact Nat.le_refl _ | omega)) | (with_reducible refine bl_last (by assumption) ?_)))
    have A3 : Blk W3 (w.heap.size) 23 #[.int .i64 a0, .int .i64 a1, .int .i64 a2, .int .i64 a3, .int .i64 a4, .int .i64 a5] := by
      rw [hW3]
      (repeat (first | (with_reducible assumption) | (with_reducible apply Blk.new) | (with_reducible exact blkAt _ _ _ _ (by simp; done)) | (with_reducible apply blk_st2) | (with_reducible apply blk_st4) | (with_reducible apply blk_st6) | (with_reducible apply blk_far (hne := by first | (with_reducible assumption) | omega)) | (with_reducible apply blk_up (hb := by assumption)) | (with_reducible apply Blk.alloc)))
    have B3 : Blk W3 (w.heap.size + 1) 23 #[.int .i64 b0, .int .i64 b1, .int .i64 b2, .int .i64 b3, .int .i64 b4, .int .i64 b5] := by
      rw [hW3]
      (repeat (first | (with_reducible assumption) | (with_reducible apply Blk.new) | (with_reducible exact blkAt _ _ _ _ (by simp; done)) | (with_reducible apply blk_st2) | (with_reducible apply blk_st4) | (with_reducible apply blk_st6) | (with_reducible apply blk_far (hne := by first | (with_reducible assumption) | omega)) | (with_reducible apply blk_up (hb := by assumption)) | (with_reducible apply Blk.alloc)))
    have C3 : Blk W3 (w.heap.size + 1 + 1) 23 #[.int .i64 c0, .int .i64 c1, .int .i64 c2, .int .i64 c3, .int .i64 c4, .int .i64 c5] := by
      rw [hW3]
      (repeat (first | (with_reducible assumption) | (with_reducible apply Blk.new) | (with_reducible exact blkAt _ _ _ _ (by simp; done)) | (with_reducible apply blk_st2) | (with_reducible apply blk_st4) | (with_reducible apply blk_st6) | (with_reducible apply blk_far (hne := by first | (with_reducible assumption) | omega)) | (with_reducible apply blk_up (hb := by assumption)) | (with_reducible apply Blk.alloc)))
    have P3 : Blk W3 (u1.heap.size) 23 #[.int .i64 p0, .int .i64 p1, .int .i64 p2, .int .i64 p3, .int .i64 p4, .int .i64 p5] := by
      rw [hW3]
      (repeat (first | (with_reducible assumption) | (with_reducible apply Blk.new) | (with_reducible exact blkAt _ _ _ _ (by simp; done)) | (with_reducible apply blk_st2) | (with_reducible apply blk_st4) | (with_reducible apply blk_st6) | (with_reducible apply blk_far (hne := by first | (with_reducible assumption) | omega)) | (with_reducible apply blk_up (hb := by assumption)) | (with_reducible apply Blk.alloc)))
    have Q3 : Blk W3 (u2.heap.size) 23 #[.int .i64 p0, .int .i64 p1, .int .i64 p2, .int .i64 p3, .int .i64 p4, .int .i64 p5] := by
      rw [hW3]
      (repeat (first | (with_reducible assumption) | (with_reducible apply Blk.new) | (with_reducible exact blkAt _ _ _ _ (by simp; done)) | (with_reducible apply blk_st2) | (with_reducible apply blk_st4) | (with_reducible apply blk_st6) | (with_reducible apply blk_far (hne := by first | (with_reducible assumption) | omega)) | (with_reducible apply blk_up (hb := by assumption)) | (with_reducible apply Blk.alloc)))
    clear hW3
    try clear qP2
    try clear pP2
    try clear qC2
    try clear pC2
    try clear qB2
    try clear pB2
    try clear qA2
    try clear pA2
    try clear hz2
    try clear hc2
    try clear hf2
    try clear d2
    try clear cC2_0
    try clear cC2_1
    try clear cC2_2
    try clear cC2_3
    try clear cC2_4
    try clear cC2_5
    try clear cB2_0
    try clear cB2_1
    try clear cB2_2
    try clear cB2_3
    try clear cB2_4
    try clear cB2_5
    try clear y2
    try clear k2
    try clear A2
    try clear B2
    try clear C2
    try clear P2
    try clear gA2
    try clear lA2
    try clear gB2
    try clear lB2
    try clear gC2
    try clear lC2
    try clear gP2
    try clear lP2
    have y3 := k3.size
    have gA3 := A3.lt
    have lA3 := Nat.le_of_lt gA3
    have gB3 := B3.lt
    have lB3 := Nat.le_of_lt gB3
    have gC3 := C3.lt
    have lC3 := Nat.le_of_lt gC3
    have gP3 := P3.lt
    have lP3 := Nat.le_of_lt gP3
    have gQ3 := Q3.lt
    have lQ3 := Nat.le_of_lt gQ3
    have cP3_0 := P3.cell 0
    have cP3_1 := P3.cell 1
    have cP3_2 := P3.cell 2
    have cP3_3 := P3.cell 3
    have cP3_4 := P3.cell 4
    have cP3_5 := P3.cell 5
    simp only [List.getElem?_toArray, List.getElem?_cons_zero, List.getElem?_cons_succ] at cP3_0 cP3_1 cP3_2 cP3_3 cP3_4 cP3_5
    have cQ3_0 := Q3.cell 0
    have cQ3_1 := Q3.cell 1
    have cQ3_2 := Q3.cell 2
    have cQ3_3 := Q3.cell 3
    have cQ3_4 := Q3.cell 4
    have cQ3_5 := Q3.cell 5
    simp only [List.getElem?_toArray, List.getElem?_cons_zero, List.getElem?_cons_succ] at cQ3_0 cQ3_1 cQ3_2 cQ3_3 cQ3_4 cQ3_5
    have cA3_0 := A3.cell 0
    have cA3_1 := A3.cell 1
    have cA3_2 := A3.cell 2
    have cA3_3 := A3.cell 3
    have cA3_4 := A3.cell 4
    have cA3_5 := A3.cell 5
    simp only [List.getElem?_toArray, List.getElem?_cons_zero, List.getElem?_cons_succ] at cA3_0 cA3_1 cA3_2 cA3_3 cA3_4 cA3_5
    have cC3_0 := C3.cell 0
    have cC3_1 := C3.cell 1
    have cC3_2 := C3.cell 2
    have cC3_3 := C3.cell 3
    have cC3_4 := C3.cell 4
    have cC3_5 := C3.cell 5
    simp only [List.getElem?_toArray, List.getElem?_cons_zero, List.getElem?_cons_succ] at cC3_0 cC3_1 cC3_2 cC3_3 cC3_4 cC3_5
    have cB3_0 := B3.cell 0
    have cB3_1 := B3.cell 1
    have cB3_2 := B3.cell 2
    have cB3_3 := B3.cell 3
    have cB3_4 := B3.cell 4
    have cB3_5 := B3.cell 5
    simp only [List.getElem?_toArray, List.getElem?_cons_zero, List.getElem?_cons_succ] at cB3_0 cB3_1 cB3_2 cB3_3 cB3_4 cB3_5
    ((with_reducible refine (H3.out _).mono ?_); rintro e u3 ⟨rfl, d3⟩)
    obtain ⟨hz3, hc3, hf3⟩ := bcl d3 (by first | (simp; rfl) | rfl)
    have qA3 : w.heap.size < u3.heap.size := by omega
    have pA3 : w.heap.size ≤ u3.heap.size := by omega
    have qB3 : w.heap.size + 1 < u3.heap.size := by omega
    have pB3 : w.heap.size + 1 ≤ u3.heap.size := by omega
    have qC3 : w.heap.size + 1 + 1 < u3.heap.size := by omega
    have pC3 : w.heap.size + 1 + 1 ≤ u3.heap.size := by omega
    have qP3 : u1.heap.size < u3.heap.size := by omega
    have pP3 : u1.heap.size ≤ u3.heap.size := by omega
    have qQ3 : u2.heap.size < u3.heap.size := by omega
    have pQ3 : u2.heap.size ≤ u3.heap.size := by omega
    have oR : w.heap.size ≤ u3.heap.size := by omega
    have nAR : w.heap.size ≠ u3.heap.size := by omega
    have mAR : u3.heap.size ≠ w.heap.size := by omega
    have nBR : w.heap.size + 1 ≠ u3.heap.size := by omega
    have mBR : u3.heap.size ≠ w.heap.size + 1 := by omega
    have nCR : w.heap.size + 1 + 1 ≠ u3.heap.size := by omega
    have mCR : u3.heap.size ≠ w.heap.size + 1 + 1 := by omega
    have nPR : u1.heap.size ≠ u3.heap.size := by omega
    have mPR : u3.heap.size ≠ u1.heap.size := by omega
    have nQR : u2.heap.size ≠ u3.heap.size := by omega
    have mQR : u3.heap.size ≠ u2.heap.size := by omega
    go_wp2_with fail
    refine calls_letter ?_
    intro W4 hW4
    have k4 : Below w.heap.size w W4 := by
      rw [hW4]
      (repeat (first | (with_reducible assumption) | (with_reducible exact bl_refl _) | (with_reducible refine bl_alloc ?_ _) | (with_reducible refine bl_set' ?_ ?_; · (dsimp only; first | assumption | exact Nat.le_refl _ | omega)) | (with_reducible refine bl_last (by assumption) ?_)))
    have A4 : Blk W4 (w.heap.size) 23 #[.int .i64 a0, .int .i64 a1, .int .i64 a2, .int .i64 a3, .int .i64 a4, .int .i64 a5] := by
      rw [hW4]
      (repeat (first | (with_reducible assumption) | (with_reducible apply Blk.new) | (with_reducible exact blkAt _ _ _ _ (by simp; done)) | (with_reducible apply blk_st2) | (with_reducible apply blk_st4) | (with_reducible apply blk_st6) | (with_reducible apply blk_far (hne := by first | (with_reducible assumption) | omega)) | (with_reducible apply blk_up (hb := by assumption)) | (with_reducible apply Blk.alloc)))
    have B4 : Blk W4 (w.heap.size + 1) 23 #[.int .i64 b0, .int .i64 b1, .int .i64 b2, .int .i64 b3, .int .i64 b4, .int .i64 b5] := by
      rw [hW4]
      (repeat (first | (with_reducible assumption) | (with_reducible apply Blk.new) | (with_reducible exact blkAt _ _ _ _ (by simp; done)) | (with_reducible apply blk_st2) | (with_reducible apply blk_st4) | (with_reducible apply blk_st6) | (with_reducible apply blk_far (hne := by first | (with_reducible assumption) | omega)) | (with_reducible apply blk_up (hb := by assumption)) | (with_reducible apply Blk.alloc)))
    have P4 : Blk W4 (u1.heap.size) 23 #[.int .i64 p0, .int .i64 p1, .int .i64 p2, .int .i64 p3, .int .i64 p4, .int .i64 p5] := by
      rw [hW4]
      (repeat (first | (with_reducible assumption) | (with_reducible apply Blk.new) | (with_reducible exact blkAt _ _ _ _ (by simp; done)) | (with_reducible apply blk_st2) | (with_reducible apply blk_st4) | (with_reducible apply blk_st6) | (with_reducible apply blk_far (hne := by first | (with_reducible assumption) | omega)) | (with_reducible apply blk_up (hb := by assumption)) | (with_reducible apply Blk.alloc)))
    have R4 : Blk W4 (u3.heap.size) 23 #[.int .i64 r0, .int .i64 r1, .int .i64 r2, .int .i64 r3, .int .i64 r4, .int .i64 r5] := by
      rw [hW4]
      (repeat (first | (with_reducible assumption) | (with_reducible apply Blk.new) | (with_reducible exact blkAt _ _ _ _ (by simp; done)) | (with_reducible apply blk_st2) | (with_reducible apply blk_st4) | (with_reducible apply blk_st6) | (with_reducible apply blk_far (hne := by first | (with_reducible assumption) | omega)) | (with_reducible apply blk_up (hb := by assumption)) | (with_reducible apply Blk.alloc)))
    clear hW4
    try clear qQ3
    try clear pQ3
    try clear qP3
    try clear pP3
    try clear qC3
    try clear pC3
    try clear qB3
    try clear pB3
    try clear qA3
    try clear pA3
    try clear hz3
    try clear hc3
    try clear hf3
    try clear d3
    try clear cB3_0
    try clear cB3_1
    try clear cB3_2
    try clear cB3_3
    try clear cB3_4
    try clear cB3_5
    try clear cC3_0
    try clear cC3_1
    try clear cC3_2
    try clear cC3_3
    try clear cC3_4
    try clear cC3_5
    try clear cA3_0
    try clear cA3_1
    try clear cA3_2
    try clear cA3_3
    try clear cA3_4
    try clear cA3_5
    try clear cQ3_0
    try clear cQ3_1
    try clear cQ3_2
    try clear cQ3_3
    try clear cQ3_4
    try clear cQ3_5
    try clear cP3_0
    try clear cP3_1
    try clear cP3_2
    try clear cP3_3
    try clear cP3_4
    try clear cP3_5
    try clear y3
    try clear k3
    try clear A3
    try clear B3
    try clear C3
    try clear P3
    try clear Q3
    try clear gA3
    try clear lA3
    try clear gB3
    try clear lB3
    try clear gC3
    try clear lC3
    try clear gP3
    try clear lP3
    try clear gQ3
    try clear lQ3
    have y4 := k4.size
    have gA4 := A4.lt
    have lA4 := Nat.le_of_lt gA4
    have gB4 := B4.lt
    have lB4 := Nat.le_of_lt gB4
    have gP4 := P4.lt
    have lP4 := Nat.le_of_lt gP4
    have gR4 := R4.lt
    have lR4 := Nat.le_of_lt gR4
    have cA4_0 := A4.cell 0
    have cA4_1 := A4.cell 1
    have cA4_2 := A4.cell 2
    have cA4_3 := A4.cell 3
    have cA4_4 := A4.cell 4
    have cA4_5 := A4.cell 5
    simp only [List.getElem?_toArray, List.getElem?_cons_zero, List.getElem?_cons_succ] at cA4_0 cA4_1 cA4_2 cA4_3 cA4_4 cA4_5
    have cR4_0 := R4.cell 0
    have cR4_1 := R4.cell 1
    have cR4_2 := R4.cell 2
    have cR4_3 := R4.cell 3
    have cR4_4 := R4.cell 4
    have cR4_5 := R4.cell 5
    simp only [List.getElem?_toArray, List.getElem?_cons_zero, List.getElem?_cons_succ] at cR4_0 cR4_1 cR4_2 cR4_3 cR4_4 cR4_5
    ((with_reducible refine (H4.out _).mono ?_); rintro e u4 ⟨rfl, d4⟩)
    obtain ⟨hz4, hc4, hf4⟩ := bcl d4 (by first | (simp; rfl) | rfl)
    have qA4 : w.heap.size < u4.heap.size := by omega
    have pA4 : w.heap.size ≤ u4.heap.size := by omega
    have qB4 : w.heap.size + 1 < u4.heap.size := by omega
    have pB4 : w.heap.size + 1 ≤ u4.heap.size := by omega
    have qP4 : u1.heap.size < u4.heap.size := by omega
    have pP4 : u1.heap.size ≤ u4.heap.size := by omega
    have qR4 : u3.heap.size < u4.heap.size := by omega
    have pR4 : u3.heap.size ≤ u4.heap.size := by omega
    have oL : w.heap.size ≤ u4.heap.size := by omega
    have nAL : w.heap.size ≠ u4.heap.size := by omega
    have mAL : u4.heap.size ≠ w.heap.size := by omega
    have nBL : w.heap.size + 1 ≠ u4.heap.size := by omega
    have mBL : u4.heap.size ≠ w.heap.size + 1 := by omega
    have nPL : u1.heap.size ≠ u4.heap.size := by omega
    have mPL : u4.heap.size ≠ u1.heap.size := by omega
    have nRL : u3.heap.size ≠ u4.heap.size := by omega
    have mRL : u4.heap.size ≠ u3.heap.size := by omega
    go_wp2_with fail
    refine calls_letter ?_
    intro W5 hW5
    have k5 : Below w.heap.size w W5 := by
      rw [hW5]
      (repeat (first | (with_reducible assumption) | (with_reducible exact bl_refl _) | (with_reducible refine bl_alloc ?_ _) | (with_reducible refine bl_set' ?_ ?_; · (dsimp only; first | assumption | exact Nat.le_refl _ | omega)) | (with_reducible refine bl_last (by assumption) ?_)))
    have A5 : Blk W5 (w.heap.size) 23 #[.int .i64 a0, .int .i64 a1, .int .i64 a2, .int .i64 a3, .int .i64 a4, .int .i64 a5] := by
      rw [hW5]
      (repeat (first | (with_reducible assumption) | (with_reducible apply Blk.new) | (with_reducible exact blkAt _ _ _ _ (by simp; done)) | (with_reducible apply blk_st2) | (with_reducible apply blk_st4) | (with_reducible apply blk_st6) | (with_reducible apply blk_far (hne := by first | (with_reducible assumption) | omega)) | (with_reducible apply blk_up (hb := by assumption)) | (with_reducible apply Blk.alloc)))
    have B5 : Blk W5 (w.heap.size + 1) 23 #[.int .i64 b0, .int .i64 b1, .int .i64 b2, .int .i64 b3, .int .i64 b4, .int .i64 b5] := by
      rw [hW5]
      (repeat (first | (with_reducible assumption) | (with_reducible apply Blk.new) | (with_reducible exact blkAt _ _ _ _ (by simp; done)) | (with_reducible apply blk_st2) | (with_reducible apply blk_st4) | (with_reducible apply blk_st6) | (with_reducible apply blk_far (hne := by first | (with_reducible assumption) | omega)) | (with_reducible apply blk_up (hb := by assumption)) | (with_reducible apply Blk.alloc)))
    have P5 : Blk W5 (u1.heap.size) 23 #[.int .i64 p0, .int .i64 p1, .int .i64 p2, .int .i64 p3, .int .i64 p4, .int .i64 p5] := by
      rw [hW5]
      (repeat (first | (with_reducible assumption) | (with_reducible apply Blk.new) | (with_reducible exact blkAt _ _ _ _ (by simp; done)) | (with_reducible apply blk_st2) | (with_reducible apply blk_st4) | (with_reducible apply blk_st6) | (with_reducible apply blk_far (hne := by first | (with_reducible assumption) | omega)) | (with_reducible apply blk_up (hb := by assumption)) | (with_reducible apply Blk.alloc)))
    have L5 : Blk W5 (u4.heap.size) 23 #[.int .i64 l0, .int .i64 l1, .int .i64 l2, .int .i64 l3, .int .i64 l4, .int .i64 l5] := by
      rw [hW5]
      (repeat (first | (with_reducible assumption) | (with_reducible apply Blk.new) | (with_reducible exact blkAt _ _ _ _ (by simp; done)) | (with_reducible apply blk_st2) | (with_reducible apply blk_st4) | (with_reducible apply blk_st6) | (with_reducible apply blk_far (hne := by first | (with_reducible assumption) | omega)) | (with_reducible apply blk_up (hb := by assumption)) | (with_reducible apply Blk.alloc)))
    clear hW5
    try clear qR4
    try clear pR4
    try clear qP4
    try clear pP4
    try clear qB4
    try clear pB4
    try clear qA4
    try clear pA4
    try clear hz4
    try clear hc4
    try clear hf4
    try clear d4
    try clear cR4_0
    try clear cR4_1
    try clear cR4_2
    try clear cR4_3
    try clear cR4_4
    try clear cR4_5
    try clear cA4_0
    try clear cA4_1
    try clear cA4_2
    try clear cA4_3
    try clear cA4_4
    try clear cA4_5
    try clear y4
    try clear k4
    try clear A4
    try clear B4
    try clear P4
    try clear R4
    try clear gA4
    try clear lA4
    try clear gB4
    try clear lB4
    try clear gP4
    try clear lP4
    try clear gR4
    try clear lR4
    have y5 := k5.size
    have gA5 := A5.lt
    have lA5 := Nat.le_of_lt gA5
    have gB5 := B5.lt
    have lB5 := Nat.le_of_lt gB5
    have gP5 := P5.lt
    have lP5 := Nat.le_of_lt gP5
    have gL5 := L5.lt
    have lL5 := Nat.le_of_lt gL5
    have cA5_0 := A5.cell 0
    have cA5_1 := A5.cell 1
    have cA5_2 := A5.cell 2
    have cA5_3 := A5.cell 3
    have cA5_4 := A5.cell 4
    have cA5_5 := A5.cell 5
    simp only [List.getElem?_toArray, List.getElem?_cons_zero, List.getElem?_cons_succ] at cA5_0 cA5_1 cA5_2 cA5_3 cA5_4 cA5_5
    ((with_reducible refine (H5.out _).mono ?_); rintro e u5 ⟨rfl, d5⟩)
    obtain ⟨hz5, hc5, hf5⟩ := bcl d5 (by first | (simp; rfl) | rfl)
    have qA5 : w.heap.size < u5.heap.size := by omega
    have pA5 : w.heap.size ≤ u5.heap.size := by omega
    have qB5 : w.heap.size + 1 < u5.heap.size := by omega
    have pB5 : w.heap.size + 1 ≤ u5.heap.size := by omega
    have qP5 : u1.heap.size < u5.heap.size := by omega
    have pP5 : u1.heap.size ≤ u5.heap.size := by omega
    have qL5 : u4.heap.size < u5.heap.size := by omega
    have pL5 : u4.heap.size ≤ u5.heap.size := by omega
    have oM : w.heap.size ≤ u5.heap.size := by omega
    have nAM : w.heap.size ≠ u5.heap.size := by omega
    have mAM : u5.heap.size ≠ w.heap.size := by omega
    have nBM : w.heap.size + 1 ≠ u5.heap.size := by omega
    have mBM : u5.heap.size ≠ w.heap.size + 1 := by omega
    have nPM : u1.heap.size ≠ u5.heap.size := by omega
    have mPM : u5.heap.size ≠ u1.heap.size := by omega
    have nLM : u4.heap.size ≠ u5.heap.size := by omega
    have mLM : u5.heap.size ≠ u4.heap.size := by omega
    go_wp2_with fail
    refine calls_letter ?_
    intro W6 hW6
    have k6 : Below w.heap.size w W6 := by
      rw [hW6]
      (repeat (first | (with_reducible assumption) | (with_reducible exact bl_refl _) | (with_reducible refine bl_alloc ?_ _) | (with_reducible refine bl_set' ?_ ?_; · (dsimp only; first | assumption | exact Nat.le_refl _ | omega)) | (with_reducible refine bl_last (by assumption) ?_)))
    have A6 : Blk W6 (w.heap.size) 23 #[.int .i64 a0, .int .i64 a1, .int .i64 a2, .int .i64 a3, .int .i64 a4, .int .i64 a5] := by
      rw [hW6]
      (repeat (first | (with_reducible assumption) | (with_reducible apply Blk.new) | (with_reducible exact blkAt _ _ _ _ (by simp; done)) | (with_reducible apply blk_st2) | (with_reducible apply blk_st4) | (with_reducible apply blk_st6) | (with_reducible apply blk_far (hne := by first | (with_reducible assumption) | omega)) | (with_reducible apply blk_up (hb := by assumption)) | (with_reducible apply Blk.alloc)))
    have B6 : Blk W6 (w.heap.size + 1) 23 #[.int .i64 b0, .int .i64 b1, .int .i64 b2, .int .i64 b3, .int .i64 b4, .int .i64 b5] := by
      rw [hW6]
      (repeat (first | (with_reducible assumption) | (with_reducible apply Blk.new) | (with_reducible exact blkAt _ _ _ _ (by simp; done)) | (with_reducible apply blk_st2) | (with_reducible apply blk_st4) | (with_reducible apply blk_st6) | (with_reducible apply blk_far (hne := by first | (with_reducible assumption) | omega)) | (with_reducible apply blk_up (hb := by assumption)) | (with_reducible apply Blk.alloc)))
    have P6 : Blk W6 (u1.heap.size) 23 #[.int .i64 p0, .int .i64 p1, .int .i64 p2, .int .i64 p3, .int .i64 p4, .int .i64 p5] := by
      rw [hW6]
      (repeat (first | (with_reducible assumption) | (with_reducible apply Blk.new) | (with_reducible exact blkAt _ _ _ _ (by simp; done)) | (with_reducible apply blk_st2) | (with_reducible apply blk_st4) | (with_reducible apply blk_st6) | (with_reducible apply blk_far (hne := by first | (with_reducible assumption) | omega)) | (with_reducible apply blk_up (hb := by assumption)) | (with_reducible apply Blk.alloc)))
    have L6 : Blk W6 (u4.heap.size) 23 #[.int .i64 l0, .int .i64 l1, .int .i64 l2, .int .i64 l3, .int .i64 l4, .int .i64 l5] := by
      rw [hW6]
      (repeat (first | (with_reducible assumption) | (with_reducible apply Blk.new) | (with_reducible exact blkAt _ _ _ _ (by simp; done)) | (with_reducible apply blk_st2) | (with_reducible apply blk_st4) | (with_reducible apply blk_st6) | (with_reducible apply blk_far (hne := by first | (with_reducible assumption) | omega)) | (with_reducible apply blk_up (hb := by assumption)) | (with_reducible apply Blk.alloc)))
    have M6 : Blk W6 (u5.heap.size) 23 #[.int .i64 l0, .int .i64 l1, .int .i64 l2, .int .i64 l3, .int .i64 l4, .int .i64 l5] := by
      rw [hW6]
      (repeat (first | (with_reducible assumption) | (with_reducible apply Blk.new) | (with_reducible exact blkAt _ _ _ _ (by simp; done)) | (with_reducible apply blk_st2) | (with_reducible apply blk_st4) | (with_reducible apply blk_st6) | (with_reducible apply blk_far (hne := by first | (with_reducible assumption) | omega)) | (with_reducible apply blk_up (hb := by assumption)) | (with_reducible apply Blk.alloc)))
    clear hW6
    try clear qL5
    try clear pL5
    try clear qP5
    try clear pP5
    try clear qB5
    try clear pB5
    try clear qA5
    try clear pA5
    try clear hz5
    try clear hc5
    try clear hf5
    try clear d5
    try clear cA5_0
    try clear cA5_1
    try clear cA5_2
    try clear cA5_3
    try clear cA5_4
    try clear cA5_5
    try clear y5
    try clear k5
    try clear A5
    try clear B5
    try clear P5
    try clear L5
    try clear gA5
    try clear lA5
    try clear gB5
    try clear lB5
    try clear gP5
    try clear lP5
    try clear gL5
    try clear lL5
    have y6 := k6.size
    have gA6 := A6.lt
    have lA6 := Nat.le_of_lt gA6
    have gB6 := B6.lt
    have lB6 := Nat.le_of_lt gB6
    have gP6 := P6.lt
    have lP6 := Nat.le_of_lt gP6
    have gL6 := L6.lt
    have lL6 := Nat.le_of_lt gL6
    have gM6 := M6.lt
    have lM6 := Nat.le_of_lt gM6
    have cP6_0 := P6.cell 0
    have cP6_1 := P6.cell 1
    have cP6_2 := P6.cell 2
    have cP6_3 := P6.cell 3
    have cP6_4 := P6.cell 4
    have cP6_5 := P6.cell 5
    simp only [List.getElem?_toArray, List.getElem?_cons_zero, List.getElem?_cons_succ] at cP6_0 cP6_1 cP6_2 cP6_3 cP6_4 cP6_5
    have cB6_0 := B6.cell 0
    have cB6_1 := B6.cell 1
    have cB6_2 := B6.cell 2
    have cB6_3 := B6.cell 3
    have cB6_4 := B6.cell 4
    have cB6_5 := B6.cell 5
    simp only [List.getElem?_toArray, List.getElem?_cons_zero, List.getElem?_cons_succ] at cB6_0 cB6_1 cB6_2 cB6_3 cB6_4 cB6_5
    ((with_reducible refine (H6.out _).mono ?_); rintro e u6 ⟨rfl, d6⟩)
    obtain ⟨hz6, hc6, hf6⟩ := bcl d6 (by first | (simp; rfl) | rfl)
    have qA6 : w.heap.size < u6.heap.size := by omega
    have pA6 : w.heap.size ≤ u6.heap.size := by omega
    have qB6 : w.heap.size + 1 < u6.heap.size := by omega
    have pB6 : w.heap.size + 1 ≤ u6.heap.size := by omega
    have qP6 : u1.heap.size < u6.heap.size := by omega
    have pP6 : u1.heap.size ≤ u6.heap.size := by omega
    have qL6 : u4.heap.size < u6.heap.size := by omega
    have pL6 : u4.heap.size ≤ u6.heap.size := by omega
    have qM6 : u5.heap.size < u6.heap.size := by omega
    have pM6 : u5.heap.size ≤ u6.heap.size := by omega
    have oS : w.heap.size ≤ u6.heap.size := by omega
    have nAS : w.heap.size ≠ u6.heap.size := by omega
    have mAS : u6.heap.size ≠ w.heap.size := by omega
    have nBS : w.heap.size + 1 ≠ u6.heap.size := by omega
    have mBS : u6.heap.size ≠ w.heap.size + 1 := by omega
    have nPS : u1.heap.size ≠ u6.heap.size := by omega
    have mPS : u6.heap.size ≠ u1.heap.size := by omega
    have nLS : u4.heap.size ≠ u6.heap.size := by omega
    have mLS : u6.heap.size ≠ u4.heap.size := by omega
    have nMS : u5.heap.size ≠ u6.heap.size := by omega
    have mMS : u6.heap.size ≠ u5.heap.size := by omega
    go_wp2_with fail
    refine calls_letter ?_
    intro W7 hW7
    have k7 : Below w.heap.size w W7 := by
      rw [hW7]
      (repeat (first | (with_reducible assumption) | (with_reducible exact bl_refl _) | (with_reducible refine bl_alloc ?_ _) | (with_reducible refine bl_set' ?_ ?_; · (dsimp only; first | assumption | exact Nat.le_refl _ | omega)) | (with_reducible refine bl_last (by assumption) ?_)))
    have A7 : Blk W7 (w.heap.size) 23 #[.int .i64 a0, .int .i64 a1, .int .i64 a2, .int .i64 a3, .int .i64 a4, .int .i64 a5] := by
      rw [hW7]
      (repeat (first | (with_reducible assumption) | (with_reducible apply Blk.new) | (with_reducible exact blkAt _ _ _ _ (by simp; done)) | (with_reducible apply blk_st2) | (with_reducible apply blk_st4) | (with_reducible apply blk_st6) | (with_reducible apply blk_far (hne := by first | (with_reducible assumption) | omega)) | (with_reducible apply blk_up (hb := by assumption)) | (with_reducible apply Blk.alloc)))
    have L7 : Blk W7 (u4.heap.size) 23 #[.int .i64 l0, .int .i64 l1, .int .i64 l2, .int .i64 l3, .int .i64 l4, .int .i64 l5] := by
      rw [hW7]
      (repeat (first | (with_reducible assumption) | (with_reducible apply Blk.new) | (with_reducible exact blkAt _ _ _ _ (by simp; done)) | (with_reducible apply blk_st2) | (with_reducible apply blk_st4) | (with_reducible apply blk_st6) | (with_reducible apply blk_far (hne := by first | (with_reducible assumption) | omega)) | (with_reducible apply blk_up (hb := by assumption)) | (with_reducible apply Blk.alloc)))
    have M7 : Blk W7 (u5.heap.size) 23 #[.int .i64 l0, .int .i64 l1, .int .i64 l2, .int .i64 l3, .int .i64 l4, .int .i64 l5] := by
      rw [hW7]
      (repeat (first | (with_reducible assumption) | (with_reducible apply Blk.new) | (with_reducible exact blkAt _ _ _ _ (by simp; done)) | (with_reducible apply blk_st2) | (with_reducible apply blk_st4) | (with_reducible apply blk_st6) | (with_reducible apply blk_far (hne := by first | (with_reducible assumption) | omega)) | (with_reducible apply blk_up (hb := by assumption)) | (with_reducible apply Blk.alloc)))
    have S7 : Blk W7 (u6.heap.size) 23 #[.int .i64 a0, .int .i64 a1, .int .i64 a2, .int .i64 a3, .int .i64 a4, .int .i64 a5] := by
      rw [hW7]
      (repeat (first | (with_reducible assumption) | (with_reducible apply Blk.new) | (with_reducible exact blkAt _ _ _ _ (by simp; done)) | (with_reducible apply blk_st2) | (with_reducible apply blk_st4) | (with_reducible apply blk_st6) | (with_reducible apply blk_far (hne := by first | (with_reducible assumption) | omega)) | (with_reducible apply blk_up (hb := by assumption)) | (with_reducible apply Blk.alloc)))
    clear hW7
    try clear qM6
    try clear pM6
    try clear qL6
    try clear pL6
    try clear qP6
    try clear pP6
    try clear qB6
    try clear pB6
    try clear qA6
    try clear pA6
    try clear hz6
    try clear hc6
    try clear hf6
    try clear d6
    try clear cB6_0
    try clear cB6_1
    try clear cB6_2
    try clear cB6_3
    try clear cB6_4
    try clear cB6_5
    try clear cP6_0
    try clear cP6_1
    try clear cP6_2
    try clear cP6_3
    try clear cP6_4
    try clear cP6_5
    try clear y6
    try clear k6
    try clear A6
    try clear B6
    try clear P6
    try clear L6
    try clear M6
    try clear gA6
    try clear lA6
    try clear gB6
    try clear lB6
    try clear gP6
    try clear lP6
    try clear gL6
    try clear lL6
    try clear gM6
    try clear lM6
    have y7 := k7.size
    have gA7 := A7.lt
    have lA7 := Nat.le_of_lt gA7
    have gL7 := L7.lt
    have lL7 := Nat.le_of_lt gL7
    have gM7 := M7.lt
    have lM7 := Nat.le_of_lt gM7
    have gS7 := S7.lt
    have lS7 := Nat.le_of_lt gS7
    have cA7_0 := A7.cell 0
    have cA7_1 := A7.cell 1
    have cA7_2 := A7.cell 2
    have cA7_3 := A7.cell 3
    have cA7_4 := A7.cell 4
    have cA7_5 := A7.cell 5
    simp only [List.getElem?_toArray, List.getElem?_cons_zero, List.getElem?_cons_succ] at cA7_0 cA7_1 cA7_2 cA7_3 cA7_4 cA7_5
    ((with_reducible refine (H7.out _).mono ?_); rintro e u7 ⟨rfl, d7⟩)
    obtain ⟨hz7, hc7, hf7⟩ := bcl d7 (by first | (simp; rfl) | rfl)
    have qA7 : w.heap.size < u7.heap.size := by omega
    have pA7 : w.heap.size ≤ u7.heap.size := by omega
    have qL7 : u4.heap.size < u7.heap.size := by omega
    have pL7 : u4.heap.size ≤ u7.heap.size := by omega
    have qM7 : u5.heap.size < u7.heap.size := by omega
    have pM7 : u5.heap.size ≤ u7.heap.size := by omega
    have qS7 : u6.heap.size < u7.heap.size := by omega
    have pS7 : u6.heap.size ≤ u7.heap.size := by omega
    have oT : w.heap.size ≤ u7.heap.size := by omega
    have nAT : w.heap.size ≠ u7.heap.size := by omega
    have mAT : u7.heap.size ≠ w.heap.size := by omega
    have nLT : u4.heap.size ≠ u7.heap.size := by omega
    have mLT : u7.heap.size ≠ u4.heap.size := by omega
    have nMT : u5.heap.size ≠ u7.heap.size := by omega
    have mMT : u7.heap.size ≠ u5.heap.size := by omega
    have nST : u6.heap.size ≠ u7.heap.size := by omega
    have mST : u7.heap.size ≠ u6.heap.size := by omega
    go_wp2_with fail
    refine calls_letter ?_
    intro W8 hW8
    have k8 : Below w.heap.size w W8 := by
      rw [hW8]
      (repeat (first | (with_reducible assumption) | (with_reducible exact bl_refl _) | (with_reducible refine bl_alloc ?_ _) | (with_reducible refine bl_set' ?_ ?_; · (dsimp only; first | assumption | exact Nat.le_refl _ | omega)) | (with_reducible refine bl_last (by assumption) ?_)))
    have A8 : Blk W8 (w.heap.size) 23 #[.int .i64 a0, .int .i64 a1, .int .i64 a2, .int .i64 a3, .int .i64 a4, .int .i64 a5] := by
      rw [hW8]
      (repeat (first | (with_reducible assumption) | (with_reducible apply Blk.new) | (with_reducible exact blkAt _ _ _ _ (by simp; done)) | (with_reducible apply blk_st2) | (with_reducible apply blk_st4) | (with_reducible apply blk_st6) | (with_reducible apply blk_far (hne := by first | (with_reducible assumption) | omega)) | (with_reducible apply blk_up (hb := by assumption)) | (with_reducible apply Blk.alloc)))
    have L8 : Blk W8 (u4.heap.size) 23 #[.int .i64 l0, .int .i64 l1, .int .i64 l2, .int .i64 l3, .int .i64 l4, .int .i64 l5] := by
      rw [hW8]
      (repeat (first | (with_reducible assumption) | (with_reducible apply Blk.new) | (with_reducible exact blkAt _ _ _ _ (by simp; done)) | (with_reducible apply blk_st2) | (with_reducible apply blk_st4) | (with_reducible apply blk_st6) | (with_reducible apply blk_far (hne := by first | (with_reducible assumption) | omega)) | (with_reducible apply blk_up (hb := by assumption)) | (with_reducible apply Blk.alloc)))
    have M8 : Blk W8 (u5.heap.size) 23 #[.int .i64 l0, .int .i64 l1, .int .i64 l2, .int .i64 l3, .int .i64 l4, .int .i64 l5] := by
      rw [hW8]
      (repeat (first | (with_reducible assumption) | (with_reducible apply Blk.new) | (with_reducible exact blkAt _ _ _ _ (by simp; done)) | (with_reducible apply blk_st2) | (with_reducible apply blk_st4) | (with_reducible apply blk_st6) | (with_reducible apply blk_far (hne := by first | (with_reducible assumption) | omega)) | (with_reducible apply blk_up (hb := by assumption)) | (with_reducible apply Blk.alloc)))
    have S8 : Blk W8 (u6.heap.size) 23 #[.int .i64 a0, .int .i64 a1, .int .i64 a2, .int .i64 a3, .int .i64 a4, .int .i64 a5] := by
      rw [hW8]
      (repeat (first | (with_reducible assumption) | (with_reducible apply Blk.new) | (with_reducible exact blkAt _ _ _ _ (by simp; done)) | (with_reducible apply blk_st2) | (with_reducible apply blk_st4) | (with_reducible apply blk_st6) | (with_reducible apply blk_far (hne := by first | (with_reducible assumption) | omega)) | (with_reducible apply blk_up (hb := by assumption)) | (with_reducible apply Blk.alloc)))
    have T8 : Blk W8 (u7.heap.size) 23 #[.int .i64 a0, .int .i64 a1, .int .i64 a2, .int .i64 a3, .int .i64 a4, .int .i64 a5] := by
      rw [hW8]
      (repeat (first | (with_reducible assumption) | (with_reducible apply Blk.new) | (with_reducible exact blkAt _ _ _ _ (by simp; done)) | (with_reducible apply blk_st2) | (with_reducible apply blk_st4) | (with_reducible apply blk_st6) | (with_reducible apply blk_far (hne := by first | (with_reducible assumption) | omega)) | (with_reducible apply blk_up (hb := by assumption)) | (with_reducible apply Blk.alloc)))
    clear hW8
    try clear qS7
    try clear pS7
    try clear qM7
    try clear pM7
    try clear qL7
    try clear pL7
    try clear qA7
    try clear pA7
    try clear hz7
    try clear hc7
    try clear hf7
    try clear d7
    try clear cA7_0
    try clear cA7_1
    try clear cA7_2
    try clear cA7_3
    try clear cA7_4
    try clear cA7_5
    try clear y7
    try clear k7
    try clear A7
    try clear L7
    try clear M7
    try clear S7
    try clear gA7
    try clear lA7
    try clear gL7
    try clear lL7
    try clear gM7
    try clear lM7
    try clear gS7
    try clear lS7
    have y8 := k8.size
    have gA8 := A8.lt
    have lA8 := Nat.le_of_lt gA8
    have gL8 := L8.lt
    have lL8 := Nat.le_of_lt gL8
    have gM8 := M8.lt
    have lM8 := Nat.le_of_lt gM8
    have gS8 := S8.lt
    have lS8 := Nat.le_of_lt gS8
    have gT8 := T8.lt
    have lT8 := Nat.le_of_lt gT8
    have cL8_0 := L8.cell 0
    have cL8_1 := L8.cell 1
    have cL8_2 := L8.cell 2
    have cL8_3 := L8.cell 3
    have cL8_4 := L8.cell 4
    have cL8_5 := L8.cell 5
    simp only [List.getElem?_toArray, List.getElem?_cons_zero, List.getElem?_cons_succ] at cL8_0 cL8_1 cL8_2 cL8_3 cL8_4 cL8_5
    have cM8_0 := M8.cell 0
    have cM8_1 := M8.cell 1
    have cM8_2 := M8.cell 2
    have cM8_3 := M8.cell 3
    have cM8_4 := M8.cell 4
    have cM8_5 := M8.cell 5
    simp only [List.getElem?_toArray, List.getElem?_cons_zero, List.getElem?_cons_succ] at cM8_0 cM8_1 cM8_2 cM8_3 cM8_4 cM8_5
    have cS8_0 := S8.cell 0
    have cS8_1 := S8.cell 1
    have cS8_2 := S8.cell 2
    have cS8_3 := S8.cell 3
    have cS8_4 := S8.cell 4
    have cS8_5 := S8.cell 5
    simp only [List.getElem?_toArray, List.getElem?_cons_zero, List.getElem?_cons_succ] at cS8_0 cS8_1 cS8_2 cS8_3 cS8_4 cS8_5
    have cT8_0 := T8.cell 0
    have cT8_1 := T8.cell 1
    have cT8_2 := T8.cell 2
    have cT8_3 := T8.cell 3
    have cT8_4 := T8.cell 4
    have cT8_5 := T8.cell 5
    simp only [List.getElem?_toArray, List.getElem?_cons_zero, List.getElem?_cons_succ] at cT8_0 cT8_1 cT8_2 cT8_3 cT8_4 cT8_5
    have cA8_0 := A8.cell 0
    have cA8_1 := A8.cell 1
    have cA8_2 := A8.cell 2
    have cA8_3 := A8.cell 3
    have cA8_4 := A8.cell 4
    have cA8_5 := A8.cell 5
    simp only [List.getElem?_toArray, List.getElem?_cons_zero, List.getElem?_cons_succ] at cA8_0 cA8_1 cA8_2 cA8_3 cA8_4 cA8_5
    ((with_reducible refine (H8.out _).mono ?_); rintro e u8 ⟨rfl, d8⟩)
    obtain ⟨hz8, hc8, hf8⟩ := bcl d8 (by first | (simp; rfl) | rfl)
    have qA8 : w.heap.size < u8.heap.size := by omega
    have pA8 : w.heap.size ≤ u8.heap.size := by omega
    have qL8 : u4.heap.size < u8.heap.size := by omega
    have pL8 : u4.heap.size ≤ u8.heap.size := by omega
    have qM8 : u5.heap.size < u8.heap.size := by omega
    have pM8 : u5.heap.size ≤ u8.heap.size := by omega
    have qS8 : u6.heap.size < u8.heap.size := by omega
    have pS8 : u6.heap.size ≤ u8.heap.size := by omega
    have qT8 : u7.heap.size < u8.heap.size := by omega
    have pT8 : u7.heap.size ≤ u8.heap.size := by omega
    have oO : w.heap.size ≤ u8.heap.size := by omega
    have nAO : w.heap.size ≠ u8.heap.size := by omega
    have mAO : u8.heap.size ≠ w.heap.size := by omega
    have nLO : u4.heap.size ≠ u8.heap.size := by omega
    have mLO : u8.heap.size ≠ u4.heap.size := by omega
    have nMO : u5.heap.size ≠ u8.heap.size := by omega
    have mMO : u8.heap.size ≠ u5.heap.size := by omega
    have nSO : u6.heap.size ≠ u8.heap.size := by omega
    have mSO : u8.heap.size ≠ u6.heap.size := by omega
    have nTO : u7.heap.size ≠ u8.heap.size := by omega
    have mTO : u8.heap.size ≠ u7.heap.size := by omega
    go_wp2_with fail
    go_ret
    refine ⟨rfl, ?_⟩
    (repeat (first | (with_reducible exact bl_refl _) | (with_reducible refine bl_drew ?_) | (with_reducible refine bl_alloc ?_ _) | (with_reducible refine bl_set' ?_ ?_; · (first | omega | (simp; done) | (simp; omega))) | (with_reducible refine bl_last (by assumption) ?_) | (with_reducible refine bl_drewN ?_ _)))
  · clear hall h6 h8
    go_enter Tryd.func7, Tryd.ntmps7
    go_wp2_with fail
    ((with_reducible refine (HH.out _ (HP.out.up (by (repeat (first | (with_reducible exact bl_refl _) | (with_reducible refine bl_drew ?_) | (with_reducible refine bl_alloc ?_ _) | (with_reducible refine bl_set' ?_ ?_; · (first | omega | (simp; done) | (simp; omega))) | (with_reducible refine bl_last (by assumption) ?_) | (with_reducible refine bl_drewN ?_ _))))) (tab_up HQ.out (by (repeat (first | (with_reducible exact bl_refl _) | (with_reducible refine bl_drew ?_) | (with_reducible refine bl_alloc ?_ _) | (with_reducible refine bl_set' ?_ ?_; · (first | omega | (simp; done) | (simp; omega))) | (with_reducible refine bl_last (by assumption) ?_) | (with_reducible refine bl_drewN ?_ _)))))).mono ?_); rintro e u0 ⟨rfl, d0⟩)
    obtain ⟨hz0, hc0, hf0⟩ := bcl d0 (by first | (simp; rfl) | rfl)
    have z0_0 : w.heap.size < u0.heap.size := by omega
    have z0_1 : w.heap.size + 1 < u0.heap.size := by omega
    have z0_2 : w.heap.size + 1 + 1 < u0.heap.size := by omega
    go_wp2_with fail
    refine calls_letter ?_
    intro W1 hW1
    have k1 : Below w.heap.size w W1 := by
      rw [hW1]
      (repeat (first | (with_reducible assumption) | (with_reducible exact bl_refl _) | (with_reducible refine bl_alloc ?_ _) | (with_reducible refine bl_set' ?_ ?_; · (dsimp only; first | assumption | exact Nat.le_refl _ | omega)) | (with_reducible refine bl_last (by assumption) ?_)))
    have A1 : Blk W1 (w.heap.size) 23 #[.int .i64 a0, .int .i64 a1, .int .i64 a2, .int .i64 a3, .int .i64 a4, .int .i64 a5] := by
      rw [hW1]
      (repeat (first | (with_reducible assumption) | (with_reducible apply Blk.new) | (with_reducible exact blkAt _ _ _ _ (by simp; done)) | (with_reducible apply blk_st2) | (with_reducible apply blk_st4) | (with_reducible apply blk_st6) | (with_reducible apply blk_far (hne := by first | (with_reducible assumption) | omega)) | (with_reducible apply blk_up (hb := by assumption)) | (with_reducible apply Blk.alloc)))
    have B1 : Blk W1 (w.heap.size + 1) 23 #[.int .i64 b0, .int .i64 b1, .int .i64 b2, .int .i64 b3, .int .i64 b4, .int .i64 b5] := by
      rw [hW1]
      (repeat (first | (with_reducible assumption) | (with_reducible apply Blk.new) | (with_reducible exact blkAt _ _ _ _ (by simp; done)) | (with_reducible apply blk_st2) | (with_reducible apply blk_st4) | (with_reducible apply blk_st6) | (with_reducible apply blk_far (hne := by first | (with_reducible assumption) | omega)) | (with_reducible apply blk_up (hb := by assumption)) | (with_reducible apply Blk.alloc)))
    have C1 : Blk W1 (w.heap.size + 1 + 1) 23 #[.int .i64 c0, .int .i64 c1, .int .i64 c2, .int .i64 c3, .int .i64 c4, .int .i64 c5] := by
      rw [hW1]
      (repeat (first | (with_reducible assumption) | (with_reducible apply Blk.new) | (with_reducible exact blkAt _ _ _ _ (by simp; done)) | (with_reducible apply blk_st2) | (with_reducible apply blk_st4) | (with_reducible apply blk_st6) | (with_reducible apply blk_far (hne := by first | (with_reducible assumption) | omega)) | (with_reducible apply blk_up (hb := by assumption)) | (with_reducible apply Blk.alloc)))
    clear hW1
    try clear hz0
    try clear hc0
    try clear hf0
    try clear d0
    try clear z0_0
    try clear z0_1
    try clear z0_2
    have y1 := k1.size
    have gA1 := A1.lt
    have lA1 := Nat.le_of_lt gA1
    have gB1 := B1.lt
    have lB1 := Nat.le_of_lt gB1
    have gC1 := C1.lt
    have lC1 := Nat.le_of_lt gC1
    have cB1_0 := B1.cell 0
    have cB1_1 := B1.cell 1
    have cB1_2 := B1.cell 2
    have cB1_3 := B1.cell 3
    have cB1_4 := B1.cell 4
    have cB1_5 := B1.cell 5
    simp only [List.getElem?_toArray, List.getElem?_cons_zero, List.getElem?_cons_succ] at cB1_0 cB1_1 cB1_2 cB1_3 cB1_4 cB1_5
    have cA1_0 := A1.cell 0
    have cA1_1 := A1.cell 1
    have cA1_2 := A1.cell 2
    have cA1_3 := A1.cell 3
    have cA1_4 := A1.cell 4
    have cA1_5 := A1.cell 5
    simp only [List.getElem?_toArray, List.getElem?_cons_zero, List.getElem?_cons_succ] at cA1_0 cA1_1 cA1_2 cA1_3 cA1_4 cA1_5
    ((with_reducible refine (H1.out _).mono ?_); rintro e u1 ⟨rfl, d1⟩)
    obtain ⟨hz1, hc1, hf1⟩ := bcl d1 (by first | (simp; rfl) | rfl)
    have qA1 : w.heap.size < u1.heap.size := by omega
    have pA1 : w.heap.size ≤ u1.heap.size := by omega
    have qB1 : w.heap.size + 1 < u1.heap.size := by omega
    have pB1 : w.heap.size + 1 ≤ u1.heap.size := by omega
    have qC1 : w.heap.size + 1 + 1 < u1.heap.size := by omega
    have pC1 : w.heap.size + 1 + 1 ≤ u1.heap.size := by omega
    have oP : w.heap.size ≤ u1.heap.size := by omega
    have nAP : w.heap.size ≠ u1.heap.size := by omega
    have mAP : u1.heap.size ≠ w.heap.size := by omega
    have nBP : w.heap.size + 1 ≠ u1.heap.size := by omega
    have mBP : u1.heap.size ≠ w.heap.size + 1 := by omega
    have nCP : w.heap.size + 1 + 1 ≠ u1.heap.size := by omega
    have mCP : u1.heap.size ≠ w.heap.size + 1 + 1 := by omega
    go_wp2_with fail
    refine calls_letter ?_
    intro W2 hW2
    have k2 : Below w.heap.size w W2 := by
      rw [hW2]
      (repeat (first | (with_reducible assumption) | (with_reducible exact bl_refl _) | (with_reducible refine bl_alloc ?_ _) | (with_reducible refine bl_set' ?_ ?_; · (dsimp only; first | assumption | exact Nat.le_refl _ | omega)) | (with_reducible refine bl_last (by assumption) ?_)))
    have A2 : Blk W2 (w.heap.size) 23 #[.int .i64 a0, .int .i64 a1, .int .i64 a2, .int .i64 a3, .int .i64 a4, .int .i64 a5] := by
      rw [hW2]
      (repeat (first | (with_reducible assumption) | (with_reducible apply Blk.new) | (with_reducible exact blkAt _ _ _ _ (by simp; done)) | (with_reducible apply blk_st2) | (with_reducible apply blk_st4) | (with_reducible apply blk_st6) | (with_reducible apply blk_far (hne := by first | (with_reducible assumption) | omega)) | (with_reducible apply blk_up (hb := by assumption)) | (with_reducible apply Blk.alloc)))
    have B2 : Blk W2 (w.heap.size + 1) 23 #[.int .i64 b0, .int .i64 b1, .int .i64 b2, .int .i64 b3, .int .i64 b4, .int .i64 b5] := by
      rw [hW2]
      (repeat (first | (with_reducible assumption) | (with_reducible apply Blk.new) | (with_reducible exact blkAt _ _ _ _ (by simp; done)) | (with_reducible apply blk_st2) | (with_reducible apply blk_st4) | (with_reducible apply blk_st6) | (with_reducible apply blk_far (hne := by first | (with_reducible assumption) | omega)) | (with_reducible apply blk_up (hb := by assumption)) | (with_reducible apply Blk.alloc)))
    have C2 : Blk W2 (w.heap.size + 1 + 1) 23 #[.int .i64 c0, .int .i64 c1, .int .i64 c2, .int .i64 c3, .int .i64 c4, .int .i64 c5] := by
      rw [hW2]
      (repeat (first | (with_reducible assumption) | (with_reducible apply Blk.new) | (with_reducible exact blkAt _ _ _ _ (by simp; done)) | (with_reducible apply blk_st2) | (with_reducible apply blk_st4) | (with_reducible apply blk_st6) | (with_reducible apply blk_far (hne := by first | (with_reducible assumption) | omega)) | (with_reducible apply blk_up (hb := by assumption)) | (with_reducible apply Blk.alloc)))
    have P2 : Blk W2 (u1.heap.size) 23 #[.int .i64 p0, .int .i64 p1, .int .i64 p2, .int .i64 p3, .int .i64 p4, .int .i64 p5] := by
      rw [hW2]
      (repeat (first | (with_reducible assumption) | (with_reducible apply Blk.new) | (with_reducible exact blkAt _ _ _ _ (by simp; done)) | (with_reducible apply blk_st2) | (with_reducible apply blk_st4) | (with_reducible apply blk_st6) | (with_reducible apply blk_far (hne := by first | (with_reducible assumption) | omega)) | (with_reducible apply blk_up (hb := by assumption)) | (with_reducible apply Blk.alloc)))
    clear hW2
    try clear qC1
    try clear pC1
    try clear qB1
    try clear pB1
    try clear qA1
    try clear pA1
    try clear hz1
    try clear hc1
    try clear hf1
    try clear d1
    try clear cA1_0
    try clear cA1_1
    try clear cA1_2
    try clear cA1_3
    try clear cA1_4
    try clear cA1_5
    try clear cB1_0
    try clear cB1_1
    try clear cB1_2
    try clear cB1_3
    try clear cB1_4
    try clear cB1_5
    try clear y1
    try clear k1
    try clear A1
    try clear B1
    try clear C1
    try clear gA1
    try clear lA1
    try clear gB1
    try clear lB1
    try clear gC1
    try clear lC1
    have y2 := k2.size
    have gA2 := A2.lt
    have lA2 := Nat.le_of_lt gA2
    have gB2 := B2.lt
    have lB2 := Nat.le_of_lt gB2
    have gC2 := C2.lt
    have lC2 := Nat.le_of_lt gC2
    have gP2 := P2.lt
    have lP2 := Nat.le_of_lt gP2
    have cB2_0 := B2.cell 0
    have cB2_1 := B2.cell 1
    have cB2_2 := B2.cell 2
    have cB2_3 := B2.cell 3
    have cB2_4 := B2.cell 4
    have cB2_5 := B2.cell 5
    simp only [List.getElem?_toArray, List.getElem?_cons_zero, List.getElem?_cons_succ] at cB2_0 cB2_1 cB2_2 cB2_3 cB2_4 cB2_5
    have cC2_0 := C2.cell 0
    have cC2_1 := C2.cell 1
    have cC2_2 := C2.cell 2
    have cC2_3 := C2.cell 3
    have cC2_4 := C2.cell 4
    have cC2_5 := C2.cell 5
    simp only [List.getElem?_toArray, List.getElem?_cons_zero, List.getElem?_cons_succ] at cC2_0 cC2_1 cC2_2 cC2_3 cC2_4 cC2_5
    ((with_reducible refine (H2.out _).mono ?_); rintro e u2 ⟨rfl, d2⟩)
    obtain ⟨hz2, hc2, hf2⟩ := bcl d2 (by first | (simp; rfl) | rfl)
    have qA2 : w.heap.size < u2.heap.size := by omega
    have pA2 : w.heap.size ≤ u2.heap.size := by omega
    have qB2 : w.heap.size + 1 < u2.heap.size := by omega
    have pB2 : w.heap.size + 1 ≤ u2.heap.size := by omega
    have qC2 : w.heap.size + 1 + 1 < u2.heap.size := by omega
    have pC2 : w.heap.size + 1 + 1 ≤ u2.heap.size := by omega
    have qP2 : u1.heap.size < u2.heap.size := by omega
    have pP2 : u1.heap.size ≤ u2.heap.size := by omega
    have oQ : w.heap.size ≤ u2.heap.size := by omega
    have nAQ : w.heap.size ≠ u2.heap.size := by omega
    have mAQ : u2.heap.size ≠ w.heap.size := by omega
    have nBQ : w.heap.size + 1 ≠ u2.heap.size := by omega
    have mBQ : u2.heap.size ≠ w.heap.size + 1 := by omega
    have nCQ : w.heap.size + 1 + 1 ≠ u2.heap.size := by omega
    have mCQ : u2.heap.size ≠ w.heap.size + 1 + 1 := by omega
    have nPQ : u1.heap.size ≠ u2.heap.size := by omega
    have mPQ : u2.heap.size ≠ u1.heap.size := by omega
    go_wp2_with fail
    refine calls_letter ?_
    intro W3 hW3
    have k3 : Below w.heap.size w W3 := by
      rw [hW3]
      (repeat (first | (with_reducible assumption) | (with_reducible exact bl_refl _) | (with_reducible refine bl_alloc ?_ _) | (with_reducible refine bl_set' ?_ ?_; · (dsimp only; first | assumption | exact Nat.le_refl _ | omega)) | (with_reducible refine bl_last (by assumption) ?_)))
    have A3 : Blk W3 (w.heap.size) 23 #[.int .i64 a0, .int .i64 a1, .int .i64 a2, .int .i64 a3, .int .i64 a4, .int .i64 a5] := by
      rw [hW3]
      (repeat (first | (with_reducible assumption) | (with_reducible apply Blk.new) | (with_reducible exact blkAt _ _ _ _ (by simp; done)) | (with_reducible apply blk_st2) | (with_reducible apply blk_st4) | (with_reducible apply blk_st6) | (with_reducible apply blk_far (hne := by first | (with_reducible assumption) | omega)) | (with_reducible apply blk_up (hb := by assumption)) | (with_reducible apply Blk.alloc)))
    have B3 : Blk W3 (w.heap.size + 1) 23 #[.int .i64 b0, .int .i64 b1, .int .i64 b2, .int .i64 b3, .int .i64 b4, .int .i64 b5] := by
      rw [hW3]
      (repeat (first | (with_reducible assumption) | (with_reducible apply Blk.new) | (with_reducible exact blkAt _ _ _ _ (by simp; done)) | (with_reducible apply blk_st2) | (with_reducible apply blk_st4) | (with_reducible apply blk_st6) | (with_reducible apply blk_far (hne := by first | (with_reducible assumption) | omega)) | (with_reducible apply blk_up (hb := by assumption)) | (with_reducible apply Blk.alloc)))
    have C3 : Blk W3 (w.heap.size + 1 + 1) 23 #[.int .i64 c0, .int .i64 c1, .int .i64 c2, .int .i64 c3, .int .i64 c4, .int .i64 c5] := by
      rw [hW3]
      (repeat (first | (with_reducible assumption) | (with_reducible apply Blk.new) | (with_reducible exact blkAt _ _ _ _ (by simp; done)) | (with_reducible apply blk_st2) | (with_reducible apply blk_st4) | (with_reducible apply blk_st6) | (with_reducible apply blk_far (hne := by first | (with_reducible assumption) | omega)) | (with_reducible apply blk_up (hb := by assumption)) | (with_reducible apply Blk.alloc)))
    have P3 : Blk W3 (u1.heap.size) 23 #[.int .i64 p0, .int .i64 p1, .int .i64 p2, .int .i64 p3, .int .i64 p4, .int .i64 p5] := by
      rw [hW3]
      (repeat (first | (with_reducible assumption) | (with_reducible apply Blk.new) | (with_reducible exact blkAt _ _ _ _ (by simp; done)) | (with_reducible apply blk_st2) | (with_reducible apply blk_st4) | (with_reducible apply blk_st6) | (with_reducible apply blk_far (hne := by first | (with_reducible assumption) | omega)) | (with_reducible apply blk_up (hb := by assumption)) | (with_reducible apply Blk.alloc)))
    have Q3 : Blk W3 (u2.heap.size) 23 #[.int .i64 p0, .int .i64 p1, .int .i64 p2, .int .i64 p3, .int .i64 p4, .int .i64 p5] := by
      rw [hW3]
      (repeat (first | (with_reducible assumption) | (with_reducible apply Blk.new) | (with_reducible exact blkAt _ _ _ _ (by simp; done)) | (with_reducible apply blk_st2) | (with_reducible apply blk_st4) | (with_reducible apply blk_st6) | (with_reducible apply blk_far (hne := by first | (with_reducible assumption) | omega)) | (with_reducible apply blk_up (hb := by assumption)) | (with_reducible apply Blk.alloc)))
    clear hW3
    try clear qP2
    try clear pP2
    try clear qC2
    try clear pC2
    try clear qB2
    try clear pB2
    try clear qA2
    try clear pA2
    try clear hz2
    try clear hc2
    try clear hf2
    try clear d2
    try clear cC2_0
    try clear cC2_1
    try clear cC2_2
    try clear cC2_3
    try clear cC2_4
    try clear cC2_5
    try clear cB2_0
    try clear cB2_1
    try clear cB2_2
    try clear cB2_3
    try clear cB2_4
    try clear cB2_5
    try clear y2
    try clear k2
    try clear A2
    try clear B2
    try clear C2
    try clear P2
    try clear gA2
    try clear lA2
    try clear gB2
    try clear lB2
    try clear gC2
    try clear lC2
    try clear gP2
    try clear lP2
    have y3 := k3.size
    have gA3 := A3.lt
    have lA3 := Nat.le_of_lt gA3
    have gB3 := B3.lt
    have lB3 := Nat.le_of_lt gB3
    have gC3 := C3.lt
    have lC3 := Nat.le_of_lt gC3
    have gP3 := P3.lt
    have lP3 := Nat.le_of_lt gP3
    have gQ3 := Q3.lt
    have lQ3 := Nat.le_of_lt gQ3
    have cP3_0 := P3.cell 0
    have cP3_1 := P3.cell 1
    have cP3_2 := P3.cell 2
    have cP3_3 := P3.cell 3
    have cP3_4 := P3.cell 4
    have cP3_5 := P3.cell 5
    simp only [List.getElem?_toArray, List.getElem?_cons_zero, List.getElem?_cons_succ] at cP3_0 cP3_1 cP3_2 cP3_3 cP3_4 cP3_5
    have cQ3_0 := Q3.cell 0
    have cQ3_1 := Q3.cell 1
    have cQ3_2 := Q3.cell 2
    have cQ3_3 := Q3.cell 3
    have cQ3_4 := Q3.cell 4
    have cQ3_5 := Q3.cell 5
    simp only [List.getElem?_toArray, List.getElem?_cons_zero, List.getElem?_cons_succ] at cQ3_0 cQ3_1 cQ3_2 cQ3_3 cQ3_4 cQ3_5
    have cA3_0 := A3.cell 0
    have cA3_1 := A3.cell 1
    have cA3_2 := A3.cell 2
    have cA3_3 := A3.cell 3
    have cA3_4 := A3.cell 4
    have cA3_5 := A3.cell 5
    simp only [List.getElem?_toArray, List.getElem?_cons_zero, List.getElem?_cons_succ] at cA3_0 cA3_1 cA3_2 cA3_3 cA3_4 cA3_5
    have cC3_0 := C3.cell 0
    have cC3_1 := C3.cell 1
    have cC3_2 := C3.cell 2
    have cC3_3 := C3.cell 3
    have cC3_4 := C3.cell 4
    have cC3_5 := C3.cell 5
    simp only [List.getElem?_toArray, List.getElem?_cons_zero, List.getElem?_cons_succ] at cC3_0 cC3_1 cC3_2 cC3_3 cC3_4 cC3_5
    have cB3_0 := B3.cell 0
    have cB3_1 := B3.cell 1
    have cB3_2 := B3.cell 2
    have cB3_3 := B3.cell 3
    have cB3_4 := B3.cell 4
    have cB3_5 := B3.cell 5
    simp only [List.getElem?_toArray, List.getElem?_cons_zero, List.getElem?_cons_succ] at cB3_0 cB3_1 cB3_2 cB3_3 cB3_4 cB3_5
    ((with_reducible refine (H3.out _).mono ?_); rintro e u3 ⟨rfl, d3⟩)
    obtain ⟨hz3, hc3, hf3⟩ := bcl d3 (by first | (simp; rfl) | rfl)
    have qA3 : w.heap.size < u3.heap.size := by omega
    have pA3 : w.heap.size ≤ u3.heap.size := by omega
    have qB3 : w.heap.size + 1 < u3.heap.size := by omega
    have pB3 : w.heap.size + 1 ≤ u3.heap.size := by omega
    have qC3 : w.heap.size + 1 + 1 < u3.heap.size := by omega
    have pC3 : w.heap.size + 1 + 1 ≤ u3.heap.size := by omega
    have qP3 : u1.heap.size < u3.heap.size := by omega
    have pP3 : u1.heap.size ≤ u3.heap.size := by omega
    have qQ3 : u2.heap.size < u3.heap.size := by omega
    have pQ3 : u2.heap.size ≤ u3.heap.size := by omega
    have oR : w.heap.size ≤ u3.heap.size := by omega
    have nAR : w.heap.size ≠ u3.heap.size := by omega
    have mAR : u3.heap.size ≠ w.heap.size := by omega
    have nBR : w.heap.size + 1 ≠ u3.heap.size := by omega
    have mBR : u3.heap.size ≠ w.heap.size + 1 := by omega
    have nCR : w.heap.size + 1 + 1 ≠ u3.heap.size := by omega
    have mCR : u3.heap.size ≠ w.heap.size + 1 + 1 := by omega
    have nPR : u1.heap.size ≠ u3.heap.size := by omega
    have mPR : u3.heap.size ≠ u1.heap.size := by omega
    have nQR : u2.heap.size ≠ u3.heap.size := by omega
    have mQR : u3.heap.size ≠ u2.heap.size := by omega
    by_cases he : e = 0
    · subst he
      have hg : ¬ g = 0 := fun h => hk ⟨rfl, h⟩
      clear hk
      go_wp2_with fail
      go_ret
      refine ⟨rfl, ?_⟩
      (repeat (first | (with_reducible exact bl_refl _) | (with_reducible refine bl_drew ?_) | (with_reducible refine bl_alloc ?_ _) | (with_reducible refine bl_set' ?_ ?_; · (first | omega | (simp; done) | (simp; omega))) | (with_reducible refine bl_last (by assumption) ?_) | (with_reducible refine bl_drewN ?_ _)))
    · clear hk
      go_wp2_with fail
      go_ret
      refine ⟨rfl, ?_⟩
      (repeat (first | (with_reducible exact bl_refl _) | (with_reducible refine bl_drew ?_) | (with_reducible refine bl_alloc ?_ _) | (with_reducible refine bl_set' ?_ ?_; · (first | omega | (simp; done) | (simp; omega))) | (with_reducible refine bl_last (by assumption) ?_) | (with_reducible refine bl_drewN ?_ _)))
end Go.Proofs.YtgbiiaaeabflnaaDoor
