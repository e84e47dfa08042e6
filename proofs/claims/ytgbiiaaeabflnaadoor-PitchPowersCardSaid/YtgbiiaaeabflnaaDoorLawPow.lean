/- PitchPowers: the walk (genlaw03.py prints it). -/
import Derived.Test.YtgbiiaaeabflnaaDoorHead03
import Derived.Test.YtgbiiaaeabflnaaDoorPowX
import Derived.Test.YtgbiiaaeabflnaaDoorLawTrans
import Derived.Deep.Cut
namespace Go.Proofs.YtgbiiaaeabflnaaDoor
open Go Go.RowKit

theorem met_letter {J : Act → World → Prop} {a : Act} {w : World} (h : ∀ W, W = w → Met J a W) : Met J a w := h w rfl
set_option maxRecDepth 100000 in
set_option maxHeartbeats 16000000 in
theorem walk_PitchPowers (a0 a1 a2 a3 a4 a5 b0 b1 b2 b3 b4 b5 : Int) (n : Int) (d : Int) (w : World)
    (w_a0 : (Lit.int .i64 a0).wf = true) (w_a1 : (Lit.int .i64 a1).wf = true) (w_a2 : (Lit.int .i64 a2).wf = true) (w_a3 : (Lit.int .i64 a3).wf = true) (w_a4 : (Lit.int .i64 a4).wf = true) (w_a5 : (Lit.int .i64 a5).wf = true) (w_b0 : (Lit.int .i64 b0).wf = true) (w_b1 : (Lit.int .i64 b1).wf = true) (w_b2 : (Lit.int .i64 b2).wf = true) (w_b3 : (Lit.int .i64 b3).wf = true) (w_b4 : (Lit.int .i64 b4).wf = true) (w_b5 : (Lit.int .i64 b5).wf = true) (w_n : (Lit.int .i64 n).wf = true) (w_d : (Lit.int .i64 d).wf = true) (hL : PR w ∧ PW w) :
    Calls Tryd.prog 5 #[.agg #[.int .i64 a0, .int .i64 a1, .int .i64 a2, .int .i64 a3, .int .i64 a4, .int .i64 a5], .agg #[.int .i64 b0, .int .i64 b1, .int .i64 b2, .int .i64 b3, .int .i64 b4, .int .i64 b5], .int .i64 n, .int .i64 d] w (Ret (.bool true) w) := by
  clear w_a0 w_a1 w_a2 w_a3 w_a4 w_a5 w_b0 w_b1 w_b2 w_b3 w_b4 w_b5
  have HP := Lib.hid hL.1
  have HQ := Lib.hid hL.2
  have HH := Lib.hid (fun W (h : PR W) (h' : PW W) => head03_c W h h')
  clear hL
  have hn0 : (decide ((-9223372036854775808 : Int) ≤ n) && decide (n ≤ 9223372036854775807)) = true := w_n
  clear w_n w_d hn0
  have h1 := fun W => PPower_c a0 a1 a2 a3 a4 a5 n d W
  have h2 := fun W => PPower_c b0 b1 b2 b3 b4 b5 n d W
  obtain ⟨p0, p1, p2, p3, p4, p5, e, q0, q1, q2, q3, q4, q5, f, e1, e2, hall⟩ := powr a0 a1 a2 a3 a4 a5 b0 b1 b2 b3 b4 b5 n d
  rw [e1] at h1
  rw [e2] at h2
  have H1 := Lib.hid h1
  have H2 := Lib.hid h2
  clear e1 e2 h1 h2
  by_cases hk : (e = 0 ∧ f = 0) ∧ 1 ≤ n
  · obtain ⟨⟨rfl, rfl⟩, hn⟩ := hk
    obtain ⟨x, r0, r1, r2, r3, r4, r5, g, e1, e2, e3, hg, hd1⟩ := hall rfl rfl hn
    have h3 := fun W (h : PR W) => PCmp_c a0 a1 a2 a3 a4 a5 b0 b1 b2 b3 b4 b5 W h
    have h4 := fun W (h : PR W) => PCmp_c p0 p1 p2 p3 p4 p5 q0 q1 q2 q3 q4 q5 W h
    have h5 := fun W => PPower_c a0 a1 a2 a3 a4 a5 1 d W
    have h6 := fun W => PPower_c r0 r1 r2 r3 r4 r5 d 1 W
    have h7 := fun W => PPower_c r0 r1 r2 r3 r4 r5 n 1 W
    rw [e1] at h3
    rw [e2] at h4
    rw [e3] at h5
    have H3 := Lib.hid h3
    have H4 := Lib.hid h4
    have H5 := Lib.hid h5
    have HG := Lib.hid (fun h => (⟨fun W => by have := h6 W; rw [(hg h).1] at this; exact this, fun W => by have := h7 W; rw [(hg h).2] at this; exact this⟩ : (∀ W, Calls Tryd.prog 15 #[.agg #[.int .i64 r0, .int .i64 r1, .int .i64 r2, .int .i64 r3, .int .i64 r4, .int .i64 r5], .int .i64 d, .int .i64 1] W (Ret (.tuple #[.agg #[.int .i64 a0, .int .i64 a1, .int .i64 a2, .int .i64 a3, .int .i64 a4, .int .i64 a5], .int .i64 0]) W)) ∧ (∀ W, Calls Tryd.prog 15 #[.agg #[.int .i64 r0, .int .i64 r1, .int .i64 r2, .int .i64 r3, .int .i64 r4, .int .i64 r5], .int .i64 n, .int .i64 1] W (Ret (.tuple #[.agg #[.int .i64 p0, .int .i64 p1, .int .i64 p2, .int .i64 p3, .int .i64 p4, .int .i64 p5], .int .i64 0]) W))))
    have HD := Lib.hid hd1
    clear e1 e2 e3 h3 h4 h5 h6 h7 hg hd1 hall
    have hnn : ¬ n < 1 := by omega
    go_enter Tryd.func5, Tryd.ntmps5
    go_wp2_with fail
    ((with_reducible refine (HH.out _ (HP.out.up (by (repeat (first | (with_reducible exact bl_refl _) | (with_reducible refine bl_drew ?_) | (with_reducible refine bl_alloc ?_ _) | (with_reducible refine bl_set' ?_ ?_; · (first | omega | (simp; done) | (simp; omega))) | (with_reducible refine bl_last (by assumption) ?_) | (with_reducible refine bl_drewN ?_ _))))) (tab_up HQ.out (by (repeat (first | (with_reducible exact bl_refl _) | (with_reducible refine bl_drew ?_) | (with_reducible refine bl_alloc ?_ _) | (with_reducible refine bl_set' ?_ ?_; · (first | omega | (simp; done) | (simp; omega))) | (with_reducible refine bl_last (by assumption) ?_) | (with_reducible refine bl_drewN ?_ _)))))).mono ?_); rintro e u0 ⟨rfl, d0⟩)
    obtain ⟨hz0, hc0, hf0⟩ := bcl d0 (by first | (simp; rfl) | rfl)
    have z0_0 : w.heap.size < u0.heap.size := by omega
    have z0_1 : w.heap.size + 1 < u0.heap.size := by omega
    go_wp2_with fail
    refine calls_letter ?_
    intro W1 hW1
    have k1 : Below w.heap.size w W1 := by
      rw [hW1]
      (repeat (first | (with_reducible assumption) | (with_reducible exact bl_refl _) | (with_reducible refine bl_alloc ?_ _) | (with_reducible refine bl_set' ?_ ?_; · (dsimp only; first | assumption | exact Nat.le_refl _ | omega)) | (with_reducible refine bl_last (by assumption) ?_)))
    have A1 : Blk W1 (w.heap.size) 23 #[.int .i64 a0, .int .i64 a1, .int .i64 a2, .int .i64 a3, .int .i64 a4, .int .i64 a5] := by
      rw [hW1]
      (repeat (first | (with_reducible assumption) | (with_reducible apply Blk.new) | (with_reducible exact blkAt _ _ _ _ (by simp; done)) | (with_reducible apply blk_st2) | (with_reducible apply blk_st4) | (with_reducible apply blk_st6) | (with_reducible apply blk_far (hne := by first | (with_reducible assumption) | omega)) | (with_reducible apply blk_up (hb := by assumption)) | (with_reducible apply Blk.alloc)))
    have B1 : Blk W1 (w.heap.size + 1) 23 #[.int .i64 b0, .int .i64 b1, .int .i64 b2, .int .i64 b3, .int .i64 b4, .int .i64 b5] := by
      rw [hW1]
      (repeat (first | (with_reducible assumption) | (with_reducible apply Blk.new) | (with_reducible exact blkAt _ _ _ _ (by simp; done)) | (with_reducible apply blk_st2) | (with_reducible apply blk_st4) | (with_reducible apply blk_st6) | (with_reducible apply blk_far (hne := by first | (with_reducible assumption) | omega)) | (with_reducible apply blk_up (hb := by assumption)) | (with_reducible apply Blk.alloc)))
    clear hW1
    try clear hz0
    try clear hc0
    try clear hf0
    try clear d0
    try clear z0_0
    try clear z0_1
    have y1 := k1.size
    have gA1 := A1.lt
    have lA1 := Nat.le_of_lt gA1
    have gB1 := B1.lt
    have lB1 := Nat.le_of_lt gB1
    have cB1_0 := B1.cell 0
    have cB1_1 := B1.cell 1
    have cB1_2 := B1.cell 2
    have cB1_3 := B1.cell 3
    have cB1_4 := B1.cell 4
    have cB1_5 := B1.cell 5
    simp only [List.getElem?_toArray, List.getElem?_cons_zero, List.getElem?_cons_succ] at cB1_0 cB1_1 cB1_2 cB1_3 cB1_4 cB1_5
    ((with_reducible refine (H1.out _).mono ?_); rintro e u1 ⟨rfl, d1⟩)
    obtain ⟨hz1, hc1, hf1⟩ := bcl d1 (by first | (simp; rfl) | rfl)
    have qA1 : w.heap.size < u1.heap.size := by omega
    have pA1 : w.heap.size ≤ u1.heap.size := by omega
    have qB1 : w.heap.size + 1 < u1.heap.size := by omega
    have pB1 : w.heap.size + 1 ≤ u1.heap.size := by omega
    have oP : w.heap.size ≤ u1.heap.size := by omega
    have nAP : w.heap.size ≠ u1.heap.size := by omega
    have mAP : u1.heap.size ≠ w.heap.size := by omega
    have nBP : w.heap.size + 1 ≠ u1.heap.size := by omega
    have mBP : u1.heap.size ≠ w.heap.size + 1 := by omega
    go_wp2_with fail
    refine calls_letter ?_
    intro W2 hW2
    have k2 : Below w.heap.size w W2 := by
      rw [hW2]
      (repeat (first | (with_reducible assumption) | (with_reducible exact bl_refl _) | (with_reducible refine bl_alloc ?_ _) | (with_reducible refine bl_set' ?_ ?_; · (dsimp only; first | assumption | exact Nat.le_refl _ | omega)) | (with_reducible refine bl_last (by assumption) ?_)))
    have A2 : Blk W2 (w.heap.size) 23 #[.int .i64 a0, .int .i64 a1, .int .i64 a2, .int .i64 a3, .int .i64 a4, .int .i64 a5] := by
      rw [hW2]
      (repeat (first | (with_reducible assumption) | (with_reducible apply Blk.new) | (with_reducible exact blkAt _ _ _ _ (by simp; done)) | (with_reducible apply blk_st2) | (with_reducible apply blk_st4) | (with_reducible apply blk_st6) | (with_reducible apply blk_far (hne := by first | (with_reducible assumption) | omega)) | (with_reducible apply blk_up (hb := by assumption)) | (with_reducible apply Blk.alloc)))
    have B2 : Blk W2 (w.heap.size + 1) 23 #[.int .i64 b0, .int .i64 b1, .int .i64 b2, .int .i64 b3, .int .i64 b4, .int .i64 b5] := by
      rw [hW2]
      (repeat (first | (with_reducible assumption) | (with_reducible apply Blk.new) | (with_reducible exact blkAt _ _ _ _ (by simp; done)) | (with_reducible apply blk_st2) | (with_reducible apply blk_st4) | (with_reducible apply blk_st6) | (with_reducible apply blk_far (hne := by first | (with_reducible assumption) | omega)) | (with_reducible apply blk_up (hb := by assumption)) | (with_reducible apply Blk.alloc)))
    have P2 : Blk W2 (u1.heap.size) 23 #[.int .i64 p0, .int .i64 p1, .int .i64 p2, .int .i64 p3, .int .i64 p4, .int .i64 p5] := by
      rw [hW2]
      (repeat (first | (with_reducible assumption) | (with_reducible apply Blk.new) | (with_reducible exact blkAt _ _ _ _ (by simp; done)) | (with_reducible apply blk_st2) | (with_reducible apply blk_st4) | (with_reducible apply blk_st6) | (with_reducible apply blk_far (hne := by first | (with_reducible assumption) | omega)) | (with_reducible apply blk_up (hb := by assumption)) | (with_reducible apply Blk.alloc)))
    clear hW2
    try clear qB1
    try clear pB1
    try clear qA1
    try clear pA1
    try clear hz1
    try clear hc1
    try clear hf1
    try clear d1
    try clear cB1_0
    try clear cB1_1
    try clear cB1_2
    try clear cB1_3
    try clear cB1_4
    try clear cB1_5
    try clear y1
    try clear k1
    try clear A1
    try clear B1
    try clear gA1
    try clear lA1
    try clear gB1
    try clear lB1
    have y2 := k2.size
    have gA2 := A2.lt
    have lA2 := Nat.le_of_lt gA2
    have gB2 := B2.lt
    have lB2 := Nat.le_of_lt gB2
    have gP2 := P2.lt
    have lP2 := Nat.le_of_lt gP2
    have cA2_0 := A2.cell 0
    have cA2_1 := A2.cell 1
    have cA2_2 := A2.cell 2
    have cA2_3 := A2.cell 3
    have cA2_4 := A2.cell 4
    have cA2_5 := A2.cell 5
    simp only [List.getElem?_toArray, List.getElem?_cons_zero, List.getElem?_cons_succ] at cA2_0 cA2_1 cA2_2 cA2_3 cA2_4 cA2_5
    have cB2_0 := B2.cell 0
    have cB2_1 := B2.cell 1
    have cB2_2 := B2.cell 2
    have cB2_3 := B2.cell 3
    have cB2_4 := B2.cell 4
    have cB2_5 := B2.cell 5
    simp only [List.getElem?_toArray, List.getElem?_cons_zero, List.getElem?_cons_succ] at cB2_0 cB2_1 cB2_2 cB2_3 cB2_4 cB2_5
    ((with_reducible refine (H2.out _).mono ?_); rintro e u2 ⟨rfl, d2⟩)
    obtain ⟨hz2, hc2, hf2⟩ := bcl d2 (by first | (simp; rfl) | rfl)
    have qA2 : w.heap.size < u2.heap.size := by omega
    have pA2 : w.heap.size ≤ u2.heap.size := by omega
    have qB2 : w.heap.size + 1 < u2.heap.size := by omega
    have pB2 : w.heap.size + 1 ≤ u2.heap.size := by omega
    have qP2 : u1.heap.size < u2.heap.size := by omega
    have pP2 : u1.heap.size ≤ u2.heap.size := by omega
    have oQ : w.heap.size ≤ u2.heap.size := by omega
    have nAQ : w.heap.size ≠ u2.heap.size := by omega
    have mAQ : u2.heap.size ≠ w.heap.size := by omega
    have nBQ : w.heap.size + 1 ≠ u2.heap.size := by omega
    have mBQ : u2.heap.size ≠ w.heap.size + 1 := by omega
    have nPQ : u1.heap.size ≠ u2.heap.size := by omega
    have mPQ : u2.heap.size ≠ u1.heap.size := by omega
    go_wp2_with fail
    refine calls_letter ?_
    intro W3 hW3
    have k3 : Below w.heap.size w W3 := by
      rw [hW3]
      (repeat (first | (with_reducible assumption) | (with_reducible exact bl_refl _) | (with_reducible refine bl_alloc ?_ _) | (with_reducible refine bl_set' ?_ ?_; · (dsimp only; first | assumption | exact Nat.le_refl _ | omega)) | (with_reducible refine bl_last (by assumption) ?_)))
    have A3 : Blk W3 (w.heap.size) 23 #[.int .i64 a0, .int .i64 a1, .int .i64 a2, .int .i64 a3, .int .i64 a4, .int .i64 a5] := by
      rw [hW3]
      (repeat (first | (with_reducible assumption) | (with_reducible apply Blk.new) | (with_reducible exact blkAt _ _ _ _ (by simp; done)) | (with_reducible apply blk_st2) | (with_reducible apply blk_st4) | (with_reducible apply blk_st6) | (with_reducible apply blk_far (hne := by first | (with_reducible assumption) | omega)) | (with_reducible apply blk_up (hb := by assumption)) | (with_reducible apply Blk.alloc)))
    have P3 : Blk W3 (u1.heap.size) 23 #[.int .i64 p0, .int .i64 p1, .int .i64 p2, .int .i64 p3, .int .i64 p4, .int .i64 p5] := by
      rw [hW3]
      (repeat (first | (with_reducible assumption) | (with_reducible apply Blk.new) | (with_reducible exact blkAt _ _ _ _ (by simp; done)) | (with_reducible apply blk_st2) | (with_reducible apply blk_st4) | (with_reducible apply blk_st6) | (with_reducible apply blk_far (hne := by first | (with_reducible assumption) | omega)) | (with_reducible apply blk_up (hb := by assumption)) | (with_reducible apply Blk.alloc)))
    have Q3 : Blk W3 (u2.heap.size) 23 #[.int .i64 q0, .int .i64 q1, .int .i64 q2, .int .i64 q3, .int .i64 q4, .int .i64 q5] := by
      rw [hW3]
      (repeat (first | (with_reducible assumption) | (with_reducible apply Blk.new) | (with_reducible exact blkAt _ _ _ _ (by simp; done)) | (with_reducible apply blk_st2) | (with_reducible apply blk_st4) | (with_reducible apply blk_st6) | (with_reducible apply blk_far (hne := by first | (with_reducible assumption) | omega)) | (with_reducible apply blk_up (hb := by assumption)) | (with_reducible apply Blk.alloc)))
    clear hW3
    try clear qP2
    try clear pP2
    try clear qB2
    try clear pB2
    try clear qA2
    try clear pA2
    try clear hz2
    try clear hc2
    try clear hf2
    try clear d2
    try clear cB2_0
    try clear cB2_1
    try clear cB2_2
    try clear cB2_3
    try clear cB2_4
    try clear cB2_5
    try clear cA2_0
    try clear cA2_1
    try clear cA2_2
    try clear cA2_3
    try clear cA2_4
    try clear cA2_5
    try clear y2
    try clear k2
    try clear A2
    try clear B2
    try clear P2
    try clear gA2
    try clear lA2
    try clear gB2
    try clear lB2
    try clear gP2
    try clear lP2
    have y3 := k3.size
    have gA3 := A3.lt
    have lA3 := Nat.le_of_lt gA3
    have gP3 := P3.lt
    have lP3 := Nat.le_of_lt gP3
    have gQ3 := Q3.lt
    have lQ3 := Nat.le_of_lt gQ3
    have cP3_0 := P3.cell 0
    have cP3_1 := P3.cell 1
    have cP3_2 := P3.cell 2
    have cP3_3 := P3.cell 3
    have cP3_4 := P3.cell 4
    have cP3_5 := P3.cell 5
    simp only [List.getElem?_toArray, List.getElem?_cons_zero, List.getElem?_cons_succ] at cP3_0 cP3_1 cP3_2 cP3_3 cP3_4 cP3_5
    have cQ3_0 := Q3.cell 0
    have cQ3_1 := Q3.cell 1
    have cQ3_2 := Q3.cell 2
    have cQ3_3 := Q3.cell 3
    have cQ3_4 := Q3.cell 4
    have cQ3_5 := Q3.cell 5
    simp only [List.getElem?_toArray, List.getElem?_cons_zero, List.getElem?_cons_succ] at cQ3_0 cQ3_1 cQ3_2 cQ3_3 cQ3_4 cQ3_5
    ((with_reducible refine (H3.out _ (HP.out.up k3)).mono ?_); rintro e u3 ⟨rfl, d3⟩)
    obtain ⟨hz3, hc3, hf3⟩ := bcl d3 (by first | (simp; rfl) | rfl)
    have qA3 : w.heap.size < u3.heap.size := by omega
    have pA3 : w.heap.size ≤ u3.heap.size := by omega
    have qP3 : u1.heap.size < u3.heap.size := by omega
    have pP3 : u1.heap.size ≤ u3.heap.size := by omega
    have qQ3 : u2.heap.size < u3.heap.size := by omega
    have pQ3 : u2.heap.size ≤ u3.heap.size := by omega
    go_wp2_with fail
    refine calls_letter ?_
    intro W4 hW4
    have k4 : Below w.heap.size w W4 := by
      rw [hW4]
      (repeat (first | (with_reducible assumption) | (with_reducible exact bl_refl _) | (with_reducible refine bl_alloc ?_ _) | (with_reducible refine bl_set' ?_ ?_; · (dsimp only; first | assumption | exact Nat.le_refl _ | omega)) | (with_reducible refine bl_last (by assumption) ?_)))
    have A4 : Blk W4 (w.heap.size) 23 #[.int .i64 a0, .int .i64 a1, .int .i64 a2, .int .i64 a3, .int .i64 a4, .int .i64 a5] := by
      rw [hW4]
      (repeat (first | (with_reducible assumption) | (with_reducible apply Blk.new) | (with_reducible exact blkAt _ _ _ _ (by simp; done)) | (with_reducible apply blk_st2) | (with_reducible apply blk_st4) | (with_reducible apply blk_st6) | (with_reducible apply blk_far (hne := by first | (with_reducible assumption) | omega)) | (with_reducible apply blk_up (hb := by assumption)) | (with_reducible apply Blk.alloc)))
    have P4 : Blk W4 (u1.heap.size) 23 #[.int .i64 p0, .int .i64 p1, .int .i64 p2, .int .i64 p3, .int .i64 p4, .int .i64 p5] := by
      rw [hW4]
      (repeat (first | (with_reducible assumption) | (with_reducible apply Blk.new) | (with_reducible exact blkAt _ _ _ _ (by simp; done)) | (with_reducible apply blk_st2) | (with_reducible apply blk_st4) | (with_reducible apply blk_st6) | (with_reducible apply blk_far (hne := by first | (with_reducible assumption) | omega)) | (with_reducible apply blk_up (hb := by assumption)) | (with_reducible apply Blk.alloc)))
    clear hW4
    try clear qQ3
    try clear pQ3
    try clear qP3
    try clear pP3
    try clear qA3
    try clear pA3
    try clear hz3
    try clear hc3
    try clear hf3
    try clear d3
    try clear cQ3_0
    try clear cQ3_1
    try clear cQ3_2
    try clear cQ3_3
    try clear cQ3_4
    try clear cQ3_5
    try clear cP3_0
    try clear cP3_1
    try clear cP3_2
    try clear cP3_3
    try clear cP3_4
    try clear cP3_5
    try clear y3
    try clear k3
    try clear A3
    try clear P3
    try clear Q3
    try clear gA3
    try clear lA3
    try clear gP3
    try clear lP3
    try clear gQ3
    try clear lQ3
    have y4 := k4.size
    have gA4 := A4.lt
    have lA4 := Nat.le_of_lt gA4
    have gP4 := P4.lt
    have lP4 := Nat.le_of_lt gP4
    have cA4_0 := A4.cell 0
    have cA4_1 := A4.cell 1
    have cA4_2 := A4.cell 2
    have cA4_3 := A4.cell 3
    have cA4_4 := A4.cell 4
    have cA4_5 := A4.cell 5
    simp only [List.getElem?_toArray, List.getElem?_cons_zero, List.getElem?_cons_succ] at cA4_0 cA4_1 cA4_2 cA4_3 cA4_4 cA4_5
    ((with_reducible refine (H4.out _ (HP.out.up k4)).mono ?_); rintro e u4 ⟨rfl, d4⟩)
    obtain ⟨hz4, hc4, hf4⟩ := bcl d4 (by first | (simp; rfl) | rfl)
    have qA4 : w.heap.size < u4.heap.size := by omega
    have pA4 : w.heap.size ≤ u4.heap.size := by omega
    have qP4 : u1.heap.size < u4.heap.size := by omega
    have pP4 : u1.heap.size ≤ u4.heap.size := by omega
    go_wp2_with fail
    refine calls_letter ?_
    intro W5 hW5
    have k5 : Below w.heap.size w W5 := by
      rw [hW5]
      (repeat (first | (with_reducible assumption) | (with_reducible exact bl_refl _) | (with_reducible refine bl_alloc ?_ _) | (with_reducible refine bl_set' ?_ ?_; · (dsimp only; first | assumption | exact Nat.le_refl _ | omega)) | (with_reducible refine bl_last (by assumption) ?_)))
    have A5 : Blk W5 (w.heap.size) 23 #[.int .i64 a0, .int .i64 a1, .int .i64 a2, .int .i64 a3, .int .i64 a4, .int .i64 a5] := by
      rw [hW5]
      (repeat (first | (with_reducible assumption) | (with_reducible apply Blk.new) | (with_reducible exact blkAt _ _ _ _ (by simp; done)) | (with_reducible apply blk_st2) | (with_reducible apply blk_st4) | (with_reducible apply blk_st6) | (with_reducible apply blk_far (hne := by first | (with_reducible assumption) | omega)) | (with_reducible apply blk_up (hb := by assumption)) | (with_reducible apply Blk.alloc)))
    have P5 : Blk W5 (u1.heap.size) 23 #[.int .i64 p0, .int .i64 p1, .int .i64 p2, .int .i64 p3, .int .i64 p4, .int .i64 p5] := by
      rw [hW5]
      (repeat (first | (with_reducible assumption) | (with_reducible apply Blk.new) | (with_reducible exact blkAt _ _ _ _ (by simp; done)) | (with_reducible apply blk_st2) | (with_reducible apply blk_st4) | (with_reducible apply blk_st6) | (with_reducible apply blk_far (hne := by first | (with_reducible assumption) | omega)) | (with_reducible apply blk_up (hb := by assumption)) | (with_reducible apply Blk.alloc)))
    clear hW5
    try clear qP4
    try clear pP4
    try clear qA4
    try clear pA4
    try clear hz4
    try clear hc4
    try clear hf4
    try clear d4
    try clear cA4_0
    try clear cA4_1
    try clear cA4_2
    try clear cA4_3
    try clear cA4_4
    try clear cA4_5
    try clear y4
    try clear k4
    try clear A4
    try clear P4
    try clear gA4
    try clear lA4
    try clear gP4
    try clear lP4
    have y5 := k5.size
    have gA5 := A5.lt
    have lA5 := Nat.le_of_lt gA5
    have gP5 := P5.lt
    have lP5 := Nat.le_of_lt gP5
    ((with_reducible refine (H5.out _).mono ?_); rintro e u5 ⟨rfl, d5⟩)
    obtain ⟨hz5, hc5, hf5⟩ := bcl d5 (by first | (simp; rfl) | rfl)
    have qA5 : w.heap.size < u5.heap.size := by omega
    have pA5 : w.heap.size ≤ u5.heap.size := by omega
    have qP5 : u1.heap.size < u5.heap.size := by omega
    have pP5 : u1.heap.size ≤ u5.heap.size := by omega
    have oR : w.heap.size ≤ u5.heap.size := by omega
    have nAR : w.heap.size ≠ u5.heap.size := by omega
    have mAR : u5.heap.size ≠ w.heap.size := by omega
    have nPR : u1.heap.size ≠ u5.heap.size := by omega
    have mPR : u5.heap.size ≠ u1.heap.size := by omega
    go_upto_if 84 with fail
    refine wp_letter ?_
    intro W6 hW6
    have k6 : Below w.heap.size w W6 := by
      rw [hW6]
      (repeat (first | (with_reducible assumption) | (with_reducible exact bl_refl _) | (with_reducible refine bl_alloc ?_ _) | (with_reducible refine bl_set' ?_ ?_; · (dsimp only; first | assumption | exact Nat.le_refl _ | omega)) | (with_reducible refine bl_last (by assumption) ?_)))
    have A6 : Blk W6 (w.heap.size) 23 #[.int .i64 a0, .int .i64 a1, .int .i64 a2, .int .i64 a3, .int .i64 a4, .int .i64 a5] := by
      rw [hW6]
      (repeat (first | (with_reducible assumption) | (with_reducible apply Blk.new) | (with_reducible exact blkAt _ _ _ _ (by simp; done)) | (with_reducible apply blk_st2) | (with_reducible apply blk_st4) | (with_reducible apply blk_st6) | (with_reducible apply blk_far (hne := by first | (with_reducible assumption) | omega)) | (with_reducible apply blk_up (hb := by assumption)) | (with_reducible apply Blk.alloc)))
    have P6 : Blk W6 (u1.heap.size) 23 #[.int .i64 p0, .int .i64 p1, .int .i64 p2, .int .i64 p3, .int .i64 p4, .int .i64 p5] := by
      rw [hW6]
      (repeat (first | (with_reducible assumption) | (with_reducible apply Blk.new) | (with_reducible exact blkAt _ _ _ _ (by simp; done)) | (with_reducible apply blk_st2) | (with_reducible apply blk_st4) | (with_reducible apply blk_st6) | (with_reducible apply blk_far (hne := by first | (with_reducible assumption) | omega)) | (with_reducible apply blk_up (hb := by assumption)) | (with_reducible apply Blk.alloc)))
    have R6 : Blk W6 (u5.heap.size) 23 #[.int .i64 r0, .int .i64 r1, .int .i64 r2, .int .i64 r3, .int .i64 r4, .int .i64 r5] := by
      rw [hW6]
      (repeat (first | (with_reducible assumption) | (with_reducible apply Blk.new) | (with_reducible exact blkAt _ _ _ _ (by simp; done)) | (with_reducible apply blk_st2) | (with_reducible apply blk_st4) | (with_reducible apply blk_st6) | (with_reducible apply blk_far (hne := by first | (with_reducible assumption) | omega)) | (with_reducible apply blk_up (hb := by assumption)) | (with_reducible apply Blk.alloc)))
    clear hW6
    try clear qP5
    try clear pP5
    try clear qA5
    try clear pA5
    try clear hz5
    try clear hc5
    try clear hf5
    try clear d5
    try clear y5
    try clear k5
    try clear A5
    try clear P5
    try clear gA5
    try clear lA5
    try clear gP5
    try clear lP5
    have y6 := k6.size
    have gA6 := A6.lt
    have lA6 := Nat.le_of_lt gA6
    have gP6 := P6.lt
    have lP6 := Nat.le_of_lt gP6
    have gR6 := R6.lt
    have lR6 := Nat.le_of_lt gR6
    have cR6_0 := R6.cell 0
    have cR6_1 := R6.cell 1
    have cR6_2 := R6.cell 2
    have cR6_3 := R6.cell 3
    have cR6_4 := R6.cell 4
    have cR6_5 := R6.cell 5
    simp only [List.getElem?_toArray, List.getElem?_cons_zero, List.getElem?_cons_succ] at cR6_0 cR6_1 cR6_2 cR6_3 cR6_4 cR6_5
    go_cut [9] from 25 (fun u W => u = .bool true ∧ Below w.heap.size w W ∧ Blk W (w.heap.size) 23 #[.int .i64 a0, .int .i64 a1, .int .i64 a2, .int .i64 a3, .int .i64 a4, .int .i64 a5] ∧ Blk W (u1.heap.size) 23 #[.int .i64 p0, .int .i64 p1, .int .i64 p2, .int .i64 p3, .int .i64 p4, .int .i64 p5])
    case first =>
      as_aux_lemma =>
      by_cases hg : g = 0
      · subst hg
        obtain ⟨h6, h7⟩ := HG.out rfl
        have H6 := Lib.hid h6
        have H7 := Lib.hid h7
        clear h6 h7
        go_wp2_with fail
        ((with_reducible refine (H6.out _).mono ?_); rintro e u6b ⟨rfl, d6b⟩)
        obtain ⟨hz6b, hc6b, hf6b⟩ := bcl d6b (by first | (simp; rfl) | rfl)
        have qA6b : w.heap.size < u6b.heap.size := by omega
        have pA6b : w.heap.size ≤ u6b.heap.size := by omega
        have qP6b : u1.heap.size < u6b.heap.size := by omega
        have pP6b : u1.heap.size ≤ u6b.heap.size := by omega
        have qR6b : u5.heap.size < u6b.heap.size := by omega
        have pR6b : u5.heap.size ≤ u6b.heap.size := by omega
        have oS : w.heap.size ≤ u6b.heap.size := by omega
        have nAS : w.heap.size ≠ u6b.heap.size := by omega
        have mAS : u6b.heap.size ≠ w.heap.size := by omega
        have nPS : u1.heap.size ≠ u6b.heap.size := by omega
        have mPS : u6b.heap.size ≠ u1.heap.size := by omega
        have nRS : u5.heap.size ≠ u6b.heap.size := by omega
        have mRS : u6b.heap.size ≠ u5.heap.size := by omega
        go_wp2_with fail
        refine calls_letter ?_
        intro W7 hW7
        have k7 : Below w.heap.size w W7 := by
          rw [hW7]
          (repeat (first | (with_reducible assumption) | (with_reducible exact bl_refl _) | (with_reducible refine bl_alloc ?_ _) | (with_reducible refine bl_set' ?_ ?_; · (dsimp only; first | assumption | exact Nat.le_refl _ | omega)) | (with_reducible refine bl_last (by assumption) ?_)))
        have A7 : Blk W7 (w.heap.size) 23 #[.int .i64 a0, .int .i64 a1, .int .i64 a2, .int .i64 a3, .int .i64 a4, .int .i64 a5] := by
          rw [hW7]
          (repeat (first | (with_reducible assumption) | (with_reducible apply Blk.new) | (with_reducible exact blkAt _ _ _ _ (by simp; done)) | (with_reducible apply blk_st2) | (with_reducible apply blk_st4) | (with_reducible apply blk_st6) | (with_reducible apply blk_far (hne := by first | (with_reducible assumption) | omega)) | (with_reducible apply blk_up (hb := by assumption)) | (with_reducible apply Blk.alloc)))
        have P7 : Blk W7 (u1.heap.size) 23 #[.int .i64 p0, .int .i64 p1, .int .i64 p2, .int .i64 p3, .int .i64 p4, .int .i64 p5] := by
          rw [hW7]
          (repeat (first | (with_reducible assumption) | (with_reducible apply Blk.new) | (with_reducible exact blkAt _ _ _ _ (by simp; done)) | (with_reducible apply blk_st2) | (with_reducible apply blk_st4) | (with_reducible apply blk_st6) | (with_reducible apply blk_far (hne := by first | (with_reducible assumption) | omega)) | (with_reducible apply blk_up (hb := by assumption)) | (with_reducible apply Blk.alloc)))
        have R7 : Blk W7 (u5.heap.size) 23 #[.int .i64 r0, .int .i64 r1, .int .i64 r2, .int .i64 r3, .int .i64 r4, .int .i64 r5] := by
          rw [hW7]
          (repeat (first | (with_reducible assumption) | (with_reducible apply Blk.new) | (with_reducible exact blkAt _ _ _ _ (by simp; done)) | (with_reducible apply blk_st2) | (with_reducible apply blk_st4) | (with_reducible apply blk_st6) | (with_reducible apply blk_far (hne := by first | (with_reducible assumption) | omega)) | (with_reducible apply blk_up (hb := by assumption)) | (with_reducible apply Blk.alloc)))
        have S7 : Blk W7 (u6b.heap.size) 23 #[.int .i64 a0, .int .i64 a1, .int .i64 a2, .int .i64 a3, .int .i64 a4, .int .i64 a5] := by
          rw [hW7]
          (repeat (first | (with_reducible assumption) | (with_reducible apply Blk.new) | (with_reducible exact blkAt _ _ _ _ (by simp; done)) | (with_reducible apply blk_st2) | (with_reducible apply blk_st4) | (with_reducible apply blk_st6) | (with_reducible apply blk_far (hne := by first | (with_reducible assumption) | omega)) | (with_reducible apply blk_up (hb := by assumption)) | (with_reducible apply Blk.alloc)))
        clear hW7
        try clear qR6b
        try clear pR6b
        try clear qP6b
        try clear pP6b
        try clear qA6b
        try clear pA6b
        try clear hz6b
        try clear hc6b
        try clear hf6b
        try clear d6b
        have y7 := k7.size
        have gA7 := A7.lt
        have lA7 := Nat.le_of_lt gA7
        have gP7 := P7.lt
        have lP7 := Nat.le_of_lt gP7
        have gR7 := R7.lt
        have lR7 := Nat.le_of_lt gR7
        have gS7 := S7.lt
        have lS7 := Nat.le_of_lt gS7
        have cS7_0 := S7.cell 0
        have cS7_1 := S7.cell 1
        have cS7_2 := S7.cell 2
        have cS7_3 := S7.cell 3
        have cS7_4 := S7.cell 4
        have cS7_5 := S7.cell 5
        simp only [List.getElem?_toArray, List.getElem?_cons_zero, List.getElem?_cons_succ] at cS7_0 cS7_1 cS7_2 cS7_3 cS7_4 cS7_5
        have cA7_0 := A7.cell 0
        have cA7_1 := A7.cell 1
        have cA7_2 := A7.cell 2
        have cA7_3 := A7.cell 3
        have cA7_4 := A7.cell 4
        have cA7_5 := A7.cell 5
        simp only [List.getElem?_toArray, List.getElem?_cons_zero, List.getElem?_cons_succ] at cA7_0 cA7_1 cA7_2 cA7_3 cA7_4 cA7_5
        have cP7_0 := P7.cell 0
        have cP7_1 := P7.cell 1
        have cP7_2 := P7.cell 2
        have cP7_3 := P7.cell 3
        have cP7_4 := P7.cell 4
        have cP7_5 := P7.cell 5
        simp only [List.getElem?_toArray, List.getElem?_cons_zero, List.getElem?_cons_succ] at cP7_0 cP7_1 cP7_2 cP7_3 cP7_4 cP7_5
        ((with_reducible refine (H7.out _).mono ?_); rintro e u7 ⟨rfl, d7⟩)
        obtain ⟨hz7, hc7, hf7⟩ := bcl d7 (by first | (simp; rfl) | rfl)
        have qA7 : w.heap.size < u7.heap.size := by omega
        have pA7 : w.heap.size ≤ u7.heap.size := by omega
        have qP7 : u1.heap.size < u7.heap.size := by omega
        have pP7 : u1.heap.size ≤ u7.heap.size := by omega
        have qR7 : u5.heap.size < u7.heap.size := by omega
        have pR7 : u5.heap.size ≤ u7.heap.size := by omega
        have qS7 : u6b.heap.size < u7.heap.size := by omega
        have pS7 : u6b.heap.size ≤ u7.heap.size := by omega
        have oT : w.heap.size ≤ u7.heap.size := by omega
        have nAT : w.heap.size ≠ u7.heap.size := by omega
        have mAT : u7.heap.size ≠ w.heap.size := by omega
        have nPT : u1.heap.size ≠ u7.heap.size := by omega
        have mPT : u7.heap.size ≠ u1.heap.size := by omega
        have nRT : u5.heap.size ≠ u7.heap.size := by omega
        have mRT : u7.heap.size ≠ u5.heap.size := by omega
        have nST : u6b.heap.size ≠ u7.heap.size := by omega
        have mST : u7.heap.size ≠ u6b.heap.size := by omega
        go_wp2_with fail
        refine met_letter ?_
        intro W8 hW8
        have k8 : Below w.heap.size w W8 := by
          rw [hW8]
          (repeat (first | (with_reducible assumption) | (with_reducible exact bl_refl _) | (with_reducible refine bl_alloc ?_ _) | (with_reducible refine bl_set' ?_ ?_; · (dsimp only; first | assumption | exact Nat.le_refl _ | omega)) | (with_reducible refine bl_last (by assumption) ?_)))
        have A8 : Blk W8 (w.heap.size) 23 #[.int .i64 a0, .int .i64 a1, .int .i64 a2, .int .i64 a3, .int .i64 a4, .int .i64 a5] := by
          rw [hW8]
          (repeat (first | (with_reducible assumption) | (with_reducible apply Blk.new) | (with_reducible exact blkAt _ _ _ _ (by simp; done)) | (with_reducible apply blk_st2) | (with_reducible apply blk_st4) | (with_reducible apply blk_st6) | (with_reducible apply blk_far (hne := by first | (with_reducible assumption) | omega)) | (with_reducible apply blk_up (hb := by assumption)) | (with_reducible apply Blk.alloc)))
        have P8 : Blk W8 (u1.heap.size) 23 #[.int .i64 p0, .int .i64 p1, .int .i64 p2, .int .i64 p3, .int .i64 p4, .int .i64 p5] := by
          rw [hW8]
          (repeat (first | (with_reducible assumption) | (with_reducible apply Blk.new) | (with_reducible exact blkAt _ _ _ _ (by simp; done)) | (with_reducible apply blk_st2) | (with_reducible apply blk_st4) | (with_reducible apply blk_st6) | (with_reducible apply blk_far (hne := by first | (with_reducible assumption) | omega)) | (with_reducible apply blk_up (hb := by assumption)) | (with_reducible apply Blk.alloc)))
        clear hW8
        go_meet
        case rel => exact ⟨rfl, k8, A8, P8⟩
      · go_wp2_with fail
        all_goals
          go_meet
          case rel => exact ⟨rfl, k6, A6, P6⟩
    case rest =>
    obtain ⟨rfl, k8, A8, P8⟩ := hcut
    try clear cR6_0
    try clear cR6_1
    try clear cR6_2
    try clear cR6_3
    try clear cR6_4
    try clear cR6_5
    try clear y6
    try clear k6
    try clear A6
    try clear P6
    try clear R6
    try clear gA6
    try clear lA6
    try clear gP6
    try clear lP6
    try clear gR6
    try clear lR6
    by_cases h12 : 12 < n
    · go_wp2_with fail
      go_ret
      refine ⟨rfl, ?_⟩
      (repeat (first | (with_reducible exact bl_refl _) | (with_reducible refine bl_drew ?_) | (with_reducible refine bl_alloc ?_ _) | (with_reducible refine bl_set' ?_ ?_; · (first | omega | (simp; done) | (simp; omega))) | (with_reducible refine bl_last (by assumption) ?_) | (with_reducible refine bl_drewN ?_ _)))
    · by_cases hd : d = 1
      · have hdd : (d != 1) = false := by simp [hd]
        obtain ⟨hM, hS⟩ := HD.out hd
        have HM := Lib.hid hS
        have HV := Lib.hid hM
        clear hM hS HD HG H1 H2 H3 H4 H5
        obtain ⟨m, rfl⟩ : ∃ m : Nat, n = (m : Int) := ⟨n.toNat, by omega⟩
        go_wp2_with fail
        refine wp_letter ?_
        intro W9 hW9
        have k9 : Below w.heap.size w W9 := by
          rw [hW9]
          (repeat (first | (with_reducible assumption) | (with_reducible exact bl_refl _) | (with_reducible refine bl_alloc ?_ _) | (with_reducible refine bl_set' ?_ ?_; · (dsimp only; first | assumption | exact Nat.le_refl _ | omega)) | (with_reducible refine bl_last (by assumption) ?_)))
        have A9 : Blk W9 (w.heap.size) 23 #[.int .i64 a0, .int .i64 a1, .int .i64 a2, .int .i64 a3, .int .i64 a4, .int .i64 a5] := by
          rw [hW9]
          (repeat (first | (with_reducible assumption) | (with_reducible apply Blk.new) | (with_reducible exact blkAt _ _ _ _ (by simp; done)) | (with_reducible apply blk_st2) | (with_reducible apply blk_st4) | (with_reducible apply blk_st6) | (with_reducible apply blk_far (hne := by first | (with_reducible assumption) | omega)) | (with_reducible apply blk_up (hb := by assumption)) | (with_reducible apply Blk.alloc)))
        have P9 : Blk W9 (u1.heap.size) 23 #[.int .i64 p0, .int .i64 p1, .int .i64 p2, .int .i64 p3, .int .i64 p4, .int .i64 p5] := by
          rw [hW9]
          (repeat (first | (with_reducible assumption) | (with_reducible apply Blk.new) | (with_reducible exact blkAt _ _ _ _ (by simp; done)) | (with_reducible apply blk_st2) | (with_reducible apply blk_st4) | (with_reducible apply blk_st6) | (with_reducible apply blk_far (hne := by first | (with_reducible assumption) | omega)) | (with_reducible apply blk_up (hb := by assumption)) | (with_reducible apply Blk.alloc)))
        have D9 : Blk W9 (wc.heap.size) 23 #[.int .i64 0, .int .i64 0, .int .i64 0, .int .i64 0, .int .i64 0, .int .i64 0] := by
          rw [hW9]
          (repeat (first | (with_reducible assumption) | (with_reducible apply Blk.new) | (with_reducible exact blkAt _ _ _ _ (by simp; done)) | (with_reducible apply blk_st2) | (with_reducible apply blk_st4) | (with_reducible apply blk_st6) | (with_reducible apply blk_far (hne := by first | (with_reducible assumption) | omega)) | (with_reducible apply blk_up (hb := by assumption)) | (with_reducible apply Blk.alloc)))
        have a8 := A8.lt
        have p8 := P8.lt
        clear hW9 k8 A8 P8
        go_loopw [124] (fun i wr => ∃ k : Nat, k ≤ m ∧ i = .int .i64 (k : Int) ∧ Hid (Below w.heap.size w wr) ∧ Hid (Blk wr (w.heap.size) 23 #[.int .i64 a0, .int .i64 a1, .int .i64 a2, .int .i64 a3, .int .i64 a4, .int .i64 a5]) ∧ Hid (Blk wr (u1.heap.size) 23 #[.int .i64 p0, .int .i64 p1, .int .i64 p2, .int .i64 p3, .int .i64 p4, .int .i64 p5]) ∧ Hid (Blk wr (wc.heap.size) 23 #[.int .i64 (a0 * (k : Int)), .int .i64 (a1 * (k : Int)), .int .i64 (a2 * (k : Int)), .int .i64 (a3 * (k : Int)), .int .i64 (a4 * (k : Int)), .int .i64 (a5 * (k : Int))])) (fun i _ => m - (intOf i).toNat)
        case atStart => exact ⟨0, by omega, rfl, Lib.hid k9, Lib.hid A9, Lib.hid P9, Lib.hid (by simpa using D9)⟩
        case round =>
          clear k9 A9 P9 D9
          obtain ⟨k, hk, rfl, HB, HA, HPp, HDd⟩ := hrel
          by_cases hlt : k < m
          · have h9 := fun W => PMul_c (a0 * (k : Int)) (a1 * (k : Int)) (a2 * (k : Int)) (a3 * (k : Int)) (a4 * (k : Int)) (a5 * (k : Int)) a0 a1 a2 a3 a4 a5 W
            have hkm : ((k : Int) < (m : Int)) := by omega
            rw [HM.out k hkm] at h9
            have H9 := Lib.hid h9
            clear h9
            have e8 : IntKind.i64.wrap ((k : Int) + 1) = ((k + 1 : Nat) : Int) := by rw [IntKind.wrap_i64]; omega
            have kb := HB.out
            have Ab := HA.out
            have Pb := HPp.out
            have Db := HDd.out
            clear HB HA HPp HDd
            have cA0 := Ab.cell 0
            have cA1 := Ab.cell 1
            have cA2 := Ab.cell 2
            have cA3 := Ab.cell 3
            have cA4 := Ab.cell 4
            have cA5 := Ab.cell 5
            have cD0 := Db.cell 0
            have cD1 := Db.cell 1
            have cD2 := Db.cell 2
            have cD3 := Db.cell 3
            have cD4 := Db.cell 4
            have cD5 := Db.cell 5
            simp only [List.getElem?_toArray, List.getElem?_cons_zero, List.getElem?_cons_succ] at cA0 cA1 cA2 cA3 cA4 cA5 cD0 cD1 cD2 cD3 cD4 cD5
            have la := Ab.lt
            have lp := Pb.lt
            have ld := Db.lt
            have nP : u1.heap.size ≠ wc.heap.size := by omega
            have nA : w.heap.size ≠ wc.heap.size := by omega
            go_wp2_with fail
            ((with_reducible refine (H9.out _).mono ?_); rintro en u9 ⟨rfl, d9⟩)
            obtain ⟨hz9, hc9, hf9⟩ := bcl d9 (by first | (simp; rfl) | rfl)
            have m1 : w.heap.size < u9.heap.size := by omega
            have m2 : u1.heap.size < u9.heap.size := by omega
            have m3 : wc.heap.size < u9.heap.size := by omega
            have m4 : w.heap.size ≤ wc.heap.size := by omega
            have m5 : w.heap.size ≤ u9.heap.size := by omega
            have n1 : w.heap.size ≠ u9.heap.size := by omega
            have n2 : u1.heap.size ≠ u9.heap.size := by omega
            have n3 : wc.heap.size ≠ u9.heap.size := by omega
            have f0 := Db.frozen 0
            have f1 := Db.frozen 1
            have f2 := Db.frozen 2
            have f3 := Db.frozen 3
            have f4 := Db.frozen 4
            have f5 := Db.frozen 5
            go_wp2_with fail
            go_roundw
            case rel =>
              refine ⟨k + 1, by omega, by go_num, Lib.hid ?_, Lib.hid ?_, Lib.hid ?_, Lib.hid ?_⟩
              · (repeat (first | (with_reducible assumption) | (with_reducible exact bl_refl _) | (with_reducible refine bl_alloc ?_ _) | (with_reducible refine bl_set' ?_ ?_; · (dsimp only; first | assumption | exact Nat.le_refl _ | omega)) | (with_reducible refine bl_last (by assumption) ?_)))
              · (repeat (first | (with_reducible assumption) | (with_reducible apply Blk.new) | (with_reducible exact blkAt _ _ _ _ (by simp; done)) | (with_reducible apply blk_st2) | (with_reducible apply blk_st4) | (with_reducible apply blk_st6) | (with_reducible apply blk_far (hne := by first | (with_reducible assumption) | omega)) | (with_reducible apply blk_up (hb := by assumption)) | (with_reducible apply Blk.alloc)))
              · (repeat (first | (with_reducible assumption) | (with_reducible apply Blk.new) | (with_reducible exact blkAt _ _ _ _ (by simp; done)) | (with_reducible apply blk_st2) | (with_reducible apply blk_st4) | (with_reducible apply blk_st6) | (with_reducible apply blk_far (hne := by first | (with_reducible assumption) | omega)) | (with_reducible apply blk_up (hb := by assumption)) | (with_reducible apply Blk.alloc)))
              · have ek : ((k + 1 : Nat) : Int) = (k : Int) + 1 := by omega
                rw [ek]
                (repeat (first | (with_reducible assumption) | (with_reducible apply blk_st6) | (with_reducible apply blk_up (hb := by assumption)) | (with_reducible apply Blk.alloc)))
            case measure => simp [intOf]; omega
          · obtain rfl : k = m := by omega
            have hkm : ¬ ((k : Int) < (k : Int)) := by omega
            obtain ⟨q0, q1, q2, q3, q4, q5⟩ := HV.out
            have kb := HB.out
            have Pb := HPp.out
            have Db := HDd.out
            rw [q0, q1, q2, q3, q4, q5] at Db
            clear HB HA HPp HDd q0 q1 q2 q3 q4 q5
            have cP0 := Pb.cell 0
            have cP1 := Pb.cell 1
            have cP2 := Pb.cell 2
            have cP3 := Pb.cell 3
            have cP4 := Pb.cell 4
            have cP5 := Pb.cell 5
            have cD0 := Db.cell 0
            have cD1 := Db.cell 1
            have cD2 := Db.cell 2
            have cD3 := Db.cell 3
            have cD4 := Db.cell 4
            have cD5 := Db.cell 5
            simp only [List.getElem?_toArray, List.getElem?_cons_zero, List.getElem?_cons_succ] at cP0 cP1 cP2 cP3 cP4 cP5 cD0 cD1 cD2 cD3 cD4 cD5
            go_wp2_with fail
            go_ret
            refine ⟨rfl, ?_⟩
            (repeat (first | (with_reducible exact bl_refl _) | (with_reducible refine bl_drew ?_) | (with_reducible refine bl_alloc ?_ _) | (with_reducible refine bl_set' ?_ ?_; · (first | omega | (simp; done) | (simp; omega))) | (with_reducible refine bl_last (by assumption) ?_) | (with_reducible refine bl_drewN ?_ _)))
      · have hdd : (d != 1) = true := by simp [hd]
        go_wp2_with fail
        go_ret
        refine ⟨rfl, ?_⟩
        (repeat (first | (with_reducible exact bl_refl _) | (with_reducible refine bl_drew ?_) | (with_reducible refine bl_alloc ?_ _) | (with_reducible refine bl_set' ?_ ?_; · (first | omega | (simp; done) | (simp; omega))) | (with_reducible refine bl_last (by assumption) ?_) | (with_reducible refine bl_drewN ?_ _)))
  · clear hall
    go_enter Tryd.func5, Tryd.ntmps5
    go_wp2_with fail
    ((with_reducible refine (HH.out _ (HP.out.up (by (repeat (first | (with_reducible exact bl_refl _) | (with_reducible refine bl_drew ?_) | (with_reducible refine bl_alloc ?_ _) | (with_reducible refine bl_set' ?_ ?_; · (first | omega | (simp; done) | (simp; omega))) | (with_reducible refine bl_last (by assumption) ?_) | (with_reducible refine bl_drewN ?_ _))))) (tab_up HQ.out (by (repeat (first | (with_reducible exact bl_refl _) | (with_reducible refine bl_drew ?_) | (with_reducible refine bl_alloc ?_ _) | (with_reducible refine bl_set' ?_ ?_; · (first | omega | (simp; done) | (simp; omega))) | (with_reducible refine bl_last (by assumption) ?_) | (with_reducible refine bl_drewN ?_ _)))))).mono ?_); rintro e u0 ⟨rfl, d0⟩)
    obtain ⟨hz0, hc0, hf0⟩ := bcl d0 (by first | (simp; rfl) | rfl)
    have z0_0 : w.heap.size < u0.heap.size := by omega
    have z0_1 : w.heap.size + 1 < u0.heap.size := by omega
    go_wp2_with fail
    refine calls_letter ?_
    intro W1 hW1
    have k1 : Below w.heap.size w W1 := by
      rw [hW1]
      (repeat (first | (with_reducible assumption) | (with_reducible exact bl_refl _) | (with_reducible refine bl_alloc ?_ _) | (with_reducible refine bl_set' ?_ ?_; · (dsimp only; first | assumption | exact Nat.le_refl _ | omega)) | (with_reducible refine bl_last (by assumption) ?_)))
    have A1 : Blk W1 (w.heap.size) 23 #[.int .i64 a0, .int .i64 a1, .int .i64 a2, .int .i64 a3, .int .i64 a4, .int .i64 a5] := by
      rw [hW1]
      (repeat (first | (with_reducible assumption) | (with_reducible apply Blk.new) | (with_reducible exact blkAt _ _ _ _ (by simp; done)) | (with_reducible apply blk_st2) | (with_reducible apply blk_st4) | (with_reducible apply blk_st6) | (with_reducible apply blk_far (hne := by first | (with_reducible assumption) | omega)) | (with_reducible apply blk_up (hb := by assumption)) | (with_reducible apply Blk.alloc)))
    have B1 : Blk W1 (w.heap.size + 1) 23 #[.int .i64 b0, .int .i64 b1, .int .i64 b2, .int .i64 b3, .int .i64 b4, .int .i64 b5] := by
      rw [hW1]
      (repeat (first | (with_reducible assumption) | (with_reducible apply Blk.new) | (with_reducible exact blkAt _ _ _ _ (by simp; done)) | (with_reducible apply blk_st2) | (with_reducible apply blk_st4) | (with_reducible apply blk_st6) | (with_reducible apply blk_far (hne := by first | (with_reducible assumption) | omega)) | (with_reducible apply blk_up (hb := by assumption)) | (with_reducible apply Blk.alloc)))
    clear hW1
    try clear hz0
    try clear hc0
    try clear hf0
    try clear d0
    try clear z0_0
    try clear z0_1
    have y1 := k1.size
    have gA1 := A1.lt
    have lA1 := Nat.le_of_lt gA1
    have gB1 := B1.lt
    have lB1 := Nat.le_of_lt gB1
    have cB1_0 := B1.cell 0
    have cB1_1 := B1.cell 1
    have cB1_2 := B1.cell 2
    have cB1_3 := B1.cell 3
    have cB1_4 := B1.cell 4
    have cB1_5 := B1.cell 5
    simp only [List.getElem?_toArray, List.getElem?_cons_zero, List.getElem?_cons_succ] at cB1_0 cB1_1 cB1_2 cB1_3 cB1_4 cB1_5
    ((with_reducible refine (H1.out _).mono ?_); rintro e u1 ⟨rfl, d1⟩)
    obtain ⟨hz1, hc1, hf1⟩ := bcl d1 (by first | (simp; rfl) | rfl)
    have qA1 : w.heap.size < u1.heap.size := by omega
    have pA1 : w.heap.size ≤ u1.heap.size := by omega
    have qB1 : w.heap.size + 1 < u1.heap.size := by omega
    have pB1 : w.heap.size + 1 ≤ u1.heap.size := by omega
    have oP : w.heap.size ≤ u1.heap.size := by omega
    have nAP : w.heap.size ≠ u1.heap.size := by omega
    have mAP : u1.heap.size ≠ w.heap.size := by omega
    have nBP : w.heap.size + 1 ≠ u1.heap.size := by omega
    have mBP : u1.heap.size ≠ w.heap.size + 1 := by omega
    go_wp2_with fail
    refine calls_letter ?_
    intro W2 hW2
    have k2 : Below w.heap.size w W2 := by
      rw [hW2]
      (repeat (first | (with_reducible assumption) | (with_reducible exact bl_refl _) | (with_reducible refine bl_alloc ?_ _) | (with_reducible refine bl_set' ?_ ?_; · (dsimp only; first | assumption | exact Nat.le_refl _ | omega)) | (with_reducible refine bl_last (by assumption) ?_)))
    have A2 : Blk W2 (w.heap.size) 23 #[.int .i64 a0, .int .i64 a1, .int .i64 a2, .int .i64 a3, .int .i64 a4, .int .i64 a5] := by
      rw [hW2]
      (repeat (first | (with_reducible assumption) | (with_reducible apply Blk.new) | (with_reducible exact blkAt _ _ _ _ (by simp; done)) | (with_reducible apply blk_st2) | (with_reducible apply blk_st4) | (with_reducible apply blk_st6) | (with_reducible apply blk_far (hne := by first | (with_reducible assumption) | omega)) | (with_reducible apply blk_up (hb := by assumption)) | (with_reducible apply Blk.alloc)))
    have B2 : Blk W2 (w.heap.size + 1) 23 #[.int .i64 b0, .int .i64 b1, .int .i64 b2, .int .i64 b3, .int .i64 b4, .int .i64 b5] := by
      rw [hW2]
      (repeat (first | (with_reducible assumption) | (with_reducible apply Blk.new) | (with_reducible exact blkAt _ _ _ _ (by simp; done)) | (with_reducible apply blk_st2) | (with_reducible apply blk_st4) | (with_reducible apply blk_st6) | (with_reducible apply blk_far (hne := by first | (with_reducible assumption) | omega)) | (with_reducible apply blk_up (hb := by assumption)) | (with_reducible apply Blk.alloc)))
    have P2 : Blk W2 (u1.heap.size) 23 #[.int .i64 p0, .int .i64 p1, .int .i64 p2, .int .i64 p3, .int .i64 p4, .int .i64 p5] := by
      rw [hW2]
      (repeat (first | (with_reducible assumption) | (with_reducible apply Blk.new) | (with_reducible exact blkAt _ _ _ _ (by simp; done)) | (with_reducible apply blk_st2) | (with_reducible apply blk_st4) | (with_reducible apply blk_st6) | (with_reducible apply blk_far (hne := by first | (with_reducible assumption) | omega)) | (with_reducible apply blk_up (hb := by assumption)) | (with_reducible apply Blk.alloc)))
    clear hW2
    try clear qB1
    try clear pB1
    try clear qA1
    try clear pA1
    try clear hz1
    try clear hc1
    try clear hf1
    try clear d1
    try clear cB1_0
    try clear cB1_1
    try clear cB1_2
    try clear cB1_3
    try clear cB1_4
    try clear cB1_5
    try clear y1
    try clear k1
    try clear A1
    try clear B1
    try clear gA1
    try clear lA1
    try clear gB1
    try clear lB1
    have y2 := k2.size
    have gA2 := A2.lt
    have lA2 := Nat.le_of_lt gA2
    have gB2 := B2.lt
    have lB2 := Nat.le_of_lt gB2
    have gP2 := P2.lt
    have lP2 := Nat.le_of_lt gP2
    have cA2_0 := A2.cell 0
    have cA2_1 := A2.cell 1
    have cA2_2 := A2.cell 2
    have cA2_3 := A2.cell 3
    have cA2_4 := A2.cell 4
    have cA2_5 := A2.cell 5
    simp only [List.getElem?_toArray, List.getElem?_cons_zero, List.getElem?_cons_succ] at cA2_0 cA2_1 cA2_2 cA2_3 cA2_4 cA2_5
    have cB2_0 := B2.cell 0
    have cB2_1 := B2.cell 1
    have cB2_2 := B2.cell 2
    have cB2_3 := B2.cell 3
    have cB2_4 := B2.cell 4
    have cB2_5 := B2.cell 5
    simp only [List.getElem?_toArray, List.getElem?_cons_zero, List.getElem?_cons_succ] at cB2_0 cB2_1 cB2_2 cB2_3 cB2_4 cB2_5
    ((with_reducible refine (H2.out _).mono ?_); rintro e u2 ⟨rfl, d2⟩)
    obtain ⟨hz2, hc2, hf2⟩ := bcl d2 (by first | (simp; rfl) | rfl)
    have qA2 : w.heap.size < u2.heap.size := by omega
    have pA2 : w.heap.size ≤ u2.heap.size := by omega
    have qB2 : w.heap.size + 1 < u2.heap.size := by omega
    have pB2 : w.heap.size + 1 ≤ u2.heap.size := by omega
    have qP2 : u1.heap.size < u2.heap.size := by omega
    have pP2 : u1.heap.size ≤ u2.heap.size := by omega
    have oQ : w.heap.size ≤ u2.heap.size := by omega
    have nAQ : w.heap.size ≠ u2.heap.size := by omega
    have mAQ : u2.heap.size ≠ w.heap.size := by omega
    have nBQ : w.heap.size + 1 ≠ u2.heap.size := by omega
    have mBQ : u2.heap.size ≠ w.heap.size + 1 := by omega
    have nPQ : u1.heap.size ≠ u2.heap.size := by omega
    have mPQ : u2.heap.size ≠ u1.heap.size := by omega
    by_cases he : e = 0
    · subst he
      by_cases hf : f = 0
      · subst hf
        have hn : n < 1 := by
          have : ¬ 1 ≤ n := fun h => hk ⟨⟨rfl, rfl⟩, h⟩
          omega
        clear hk
        go_wp2_with fail
        go_ret
        refine ⟨rfl, ?_⟩
        (repeat (first | (with_reducible exact bl_refl _) | (with_reducible refine bl_drew ?_) | (with_reducible refine bl_alloc ?_ _) | (with_reducible refine bl_set' ?_ ?_; · (first | omega | (simp; done) | (simp; omega))) | (with_reducible refine bl_last (by assumption) ?_) | (with_reducible refine bl_drewN ?_ _)))
      · clear hk
        go_wp2_with fail
        go_ret
        refine ⟨rfl, ?_⟩
        (repeat (first | (with_reducible exact bl_refl _) | (with_reducible refine bl_drew ?_) | (with_reducible refine bl_alloc ?_ _) | (with_reducible refine bl_set' ?_ ?_; · (first | omega | (simp; done) | (simp; omega))) | (with_reducible refine bl_last (by assumption) ?_) | (with_reducible refine bl_drewN ?_ _)))
    · clear hk
      go_wp2_with fail
      go_ret
      refine ⟨rfl, ?_⟩
      (repeat (first | (with_reducible exact bl_refl _) | (with_reducible refine bl_drew ?_) | (with_reducible refine bl_alloc ?_ _) | (with_reducible refine bl_set' ?_ ?_; · (first | omega | (simp; done) | (simp; omega))) | (with_reducible refine bl_last (by assumption) ?_) | (with_reducible refine bl_drewN ?_ _)))
end Go.Proofs.YtgbiiaaeabflnaaDoor
