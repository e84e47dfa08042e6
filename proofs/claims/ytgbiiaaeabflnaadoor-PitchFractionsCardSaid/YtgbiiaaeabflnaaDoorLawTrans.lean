/- PitchTranslated: the walk (genlaw03.py prints it). -/
import Derived.Test.YtgbiiaaeabflnaaDoorHead03
import Derived.Test.YtgbiiaaeabflnaaDoorGrpA
namespace Go.Proofs.YtgbiiaaeabflnaaDoor
open Go Go.RowKit

theorem pc_ok {a0 a1 a2 a3 a4 a5 b0 b1 b2 b3 b4 b5 : Int} (h1 : pV a0 a1 a2 a3 a4 a5 576 = true) (h2 : pV b0 b1 b2 b3 b4 b5 576 = true) : pcV a0 a1 a2 a3 a4 a5 b0 b1 b2 b3 b4 b5 = .tuple #[.int .i64 (cmP a0 a1 a2 a3 a4 a5 b0 b1 b2 b3 b4 b5), .int .i64 0] := by
  unfold pcV pcN pcE
  have : cbG a0 a1 a2 a3 a4 a5 b0 b1 b2 b3 b4 b5 = true := by unfold cbG; rw [h1, h2]; rfl
  rw [if_pos this, if_pos this]
theorem cmP_ways (a0 a1 a2 a3 a4 a5 b0 b1 b2 b3 b4 b5 : Int) : cmP a0 a1 a2 a3 a4 a5 b0 b1 b2 b3 b4 b5 = -1 ∨ cmP a0 a1 a2 a3 a4 a5 b0 b1 b2 b3 b4 b5 = 0 ∨ cmP a0 a1 a2 a3 a4 a5 b0 b1 b2 b3 b4 b5 = 1 := by
  rcases ordZ_ways ((upN (a0 - b0) (a1 - b1) (a2 - b2) (a3 - b3) (a4 - b4) (a5 - b5) : Nat) : Int) ((dnN (a0 - b0) (a1 - b1) (a2 - b2) (a3 - b3) (a4 - b4) (a5 - b5) : Nat) : Int) with h | h | h
  · exact Or.inl h.2
  · exact Or.inr (Or.inr h.2)
  · exact Or.inr (Or.inl h.2)
theorem pV_neg {a0 a1 a2 a3 a4 a5 B : Int} (h : pV a0 a1 a2 a3 a4 a5 B = true) : pV (-a0) (-a1) (-a2) (-a3) (-a4) (-a5) B = true := by
  obtain ⟨h1, h2, h3, h4, h5, h6⟩ := pV_of h
  have k1 := wi_of h1
  have k2 := wi_of h2
  have k3 := wi_of h3
  have k4 := wi_of h4
  have k5 := wi_of h5
  have k6 := wi_of h6
  unfold pV
  rw [wi_mk (by omega) (by omega), wi_mk (by omega) (by omega), wi_mk (by omega) (by omega), wi_mk (by omega) (by omega), wi_mk (by omega) (by omega), wi_mk (by omega) (by omega)]
  rfl
theorem cb_inv {a0 a1 a2 a3 a4 a5 : Int} (h : pV a0 a1 a2 a3 a4 a5 576 = true) : cbV (-1) 0 0 0 0 0 0 a0 a1 a2 a3 a4 a5 = .tuple #[.agg #[.int .i64 (-a0), .int .i64 (-a1), .int .i64 (-a2), .int .i64 (-a3), .int .i64 (-a4), .int .i64 (-a5)], .int .i64 0] := by
  have hE : cbE (-1) 0 0 0 0 0 0 a0 a1 a2 a3 a4 a5 = 0 := cb_mk p0_576 h (by
    have := pV_neg h
    unfold cbS
    simpa using this)
  unfold cbV
  rw [hE]
  simp [cb]
theorem trn (a0 a1 a2 a3 a4 a5 b0 b1 b2 b3 b4 b5 c0 c1 c2 c3 c4 c5 : Int) : ∃ p0 p1 p2 p3 p4 p5 e q0 q1 q2 q3 q4 q5 g : Int, cbV 1 a0 a1 a2 a3 a4 a5 c0 c1 c2 c3 c4 c5 = .tuple #[.agg #[.int .i64 p0, .int .i64 p1, .int .i64 p2, .int .i64 p3, .int .i64 p4, .int .i64 p5], .int .i64 e] ∧ cbV 1 b0 b1 b2 b3 b4 b5 c0 c1 c2 c3 c4 c5 = .tuple #[.agg #[.int .i64 q0, .int .i64 q1, .int .i64 q2, .int .i64 q3, .int .i64 q4, .int .i64 q5], .int .i64 g] ∧
    (e = 0 → g = 0 → ∃ x m0 m1 m2 m3 m4 m5 n0 n1 n2 n3 n4 n5 y : Int, pcV a0 a1 a2 a3 a4 a5 b0 b1 b2 b3 b4 b5 = .tuple #[.int .i64 x, .int .i64 0] ∧ pcV p0 p1 p2 p3 p4 p5 q0 q1 q2 q3 q4 q5 = .tuple #[.int .i64 x, .int .i64 0] ∧ cbV (-1) 0 0 0 0 0 0 a0 a1 a2 a3 a4 a5 = .tuple #[.agg #[.int .i64 m0, .int .i64 m1, .int .i64 m2, .int .i64 m3, .int .i64 m4, .int .i64 m5], .int .i64 0] ∧ cbV (-1) 0 0 0 0 0 0 b0 b1 b2 b3 b4 b5 = .tuple #[.agg #[.int .i64 n0, .int .i64 n1, .int .i64 n2, .int .i64 n3, .int .i64 n4, .int .i64 n5], .int .i64 0] ∧ pcV m0 m1 m2 m3 m4 m5 n0 n1 n2 n3 n4 n5 = .tuple #[.int .i64 y, .int .i64 0] ∧ IntKind.i64.wrap (-x) = y) := by
  refine ⟨_, _, _, _, _, _, _, _, _, _, _, _, _, _, rfl, rfl, fun he hg => ?_⟩
  obtain ⟨v1, v2, v3⟩ := cb_of he
  obtain ⟨v4, _, v5⟩ := cb_of hg
  have hp : cb 1 (cbE 1 a0 a1 a2 a3 a4 a5 c0 c1 c2 c3 c4 c5) a0 c0 = a0 + c0 ∧ cb 1 (cbE 1 a0 a1 a2 a3 a4 a5 c0 c1 c2 c3 c4 c5) a1 c1 = a1 + c1 ∧ cb 1 (cbE 1 a0 a1 a2 a3 a4 a5 c0 c1 c2 c3 c4 c5) a2 c2 = a2 + c2 ∧ cb 1 (cbE 1 a0 a1 a2 a3 a4 a5 c0 c1 c2 c3 c4 c5) a3 c3 = a3 + c3 ∧ cb 1 (cbE 1 a0 a1 a2 a3 a4 a5 c0 c1 c2 c3 c4 c5) a4 c4 = a4 + c4 ∧ cb 1 (cbE 1 a0 a1 a2 a3 a4 a5 c0 c1 c2 c3 c4 c5) a5 c5 = a5 + c5 := ⟨by rw [he]; simp [cb], by rw [he]; simp [cb], by rw [he]; simp [cb], by rw [he]; simp [cb], by rw [he]; simp [cb], by rw [he]; simp [cb]⟩
  have hq : cb 1 (cbE 1 b0 b1 b2 b3 b4 b5 c0 c1 c2 c3 c4 c5) b0 c0 = b0 + c0 ∧ cb 1 (cbE 1 b0 b1 b2 b3 b4 b5 c0 c1 c2 c3 c4 c5) b1 c1 = b1 + c1 ∧ cb 1 (cbE 1 b0 b1 b2 b3 b4 b5 c0 c1 c2 c3 c4 c5) b2 c2 = b2 + c2 ∧ cb 1 (cbE 1 b0 b1 b2 b3 b4 b5 c0 c1 c2 c3 c4 c5) b3 c3 = b3 + c3 ∧ cb 1 (cbE 1 b0 b1 b2 b3 b4 b5 c0 c1 c2 c3 c4 c5) b4 c4 = b4 + c4 ∧ cb 1 (cbE 1 b0 b1 b2 b3 b4 b5 c0 c1 c2 c3 c4 c5) b5 c5 = b5 + c5 := ⟨by rw [hg]; simp [cb], by rw [hg]; simp [cb], by rw [hg]; simp [cb], by rw [hg]; simp [cb], by rw [hg]; simp [cb], by rw [hg]; simp [cb]⟩
  obtain ⟨hp0, hp1, hp2, hp3, hp4, hp5⟩ := hp
  obtain ⟨hq0, hq1, hq2, hq3, hq4, hq5⟩ := hq
  rw [hp0, hq0, hp1, hq1, hp2, hq2, hp3, hq3, hp4, hq4, hp5, hq5]
  have w1 : pV (a0 + c0) (a1 + c1) (a2 + c2) (a3 + c3) (a4 + c4) (a5 + c5) 576 = true := by unfold cbS at v3; simpa using v3
  have w2 : pV (b0 + c0) (b1 + c1) (b2 + c2) (b3 + c3) (b4 + c4) (b5 + c5) 576 = true := by unfold cbS at v5; simpa using v5
  have n1 : pV (-a0) (-a1) (-a2) (-a3) (-a4) (-a5) 576 = true := pV_neg v1
  have n2 : pV (-b0) (-b1) (-b2) (-b3) (-b4) (-b5) 576 = true := pV_neg v4
  have ci1 := cb_inv v1
  have ci2 := cb_inv v4
  have q1 : cmP (a0 + c0) (a1 + c1) (a2 + c2) (a3 + c3) (a4 + c4) (a5 + c5) (b0 + c0) (b1 + c1) (b2 + c2) (b3 + c3) (b4 + c4) (b5 + c5) = cmP a0 a1 a2 a3 a4 a5 b0 b1 b2 b3 b4 b5 := by
    unfold cmP
    have h : a0 + c0 - (b0 + c0) = a0 - b0 ∧ a1 + c1 - (b1 + c1) = a1 - b1 ∧ a2 + c2 - (b2 + c2) = a2 - b2 ∧ a3 + c3 - (b3 + c3) = a3 - b3 ∧ a4 + c4 - (b4 + c4) = a4 - b4 ∧ a5 + c5 - (b5 + c5) = a5 - b5 := by omega
    obtain ⟨e0, e1, e2, e3, e4, e5⟩ := h
    rw [e0, e1, e2, e3, e4, e5]
  have q2 : cmP (-a0) (-a1) (-a2) (-a3) (-a4) (-a5) (-b0) (-b1) (-b2) (-b3) (-b4) (-b5) = -cmP a0 a1 a2 a3 a4 a5 b0 b1 b2 b3 b4 b5 := by
    rw [← cmP_anti]
    unfold cmP
    have h : -a0 - -b0 = b0 - a0 ∧ -a1 - -b1 = b1 - a1 ∧ -a2 - -b2 = b2 - a2 ∧ -a3 - -b3 = b3 - a3 ∧ -a4 - -b4 = b4 - a4 ∧ -a5 - -b5 = b5 - a5 := by omega
    obtain ⟨e0, e1, e2, e3, e4, e5⟩ := h
    rw [e0, e1, e2, e3, e4, e5]
  refine ⟨cmP a0 a1 a2 a3 a4 a5 b0 b1 b2 b3 b4 b5, -a0, -a1, -a2, -a3, -a4, -a5, -b0, -b1, -b2, -b3, -b4, -b5, -cmP a0 a1 a2 a3 a4 a5 b0 b1 b2 b3 b4 b5, pc_ok v1 v4, ?_, ci1, ci2, ?_, ?_⟩
  · rw [pc_ok w1 w2, q1]
  · rw [pc_ok n1 n2, q2]
  · rcases cmP_ways a0 a1 a2 a3 a4 a5 b0 b1 b2 b3 b4 b5 with h | h | h <;> rw [h] <;> rfl
set_option maxRecDepth 100000 in
set_option maxHeartbeats 16000000 in
theorem walk_PitchTranslated (a0 a1 a2 a3 a4 a5 b0 b1 b2 b3 b4 b5 c0 c1 c2 c3 c4 c5 : Int) (w : World)
    (w_a0 : (Lit.int .i64 a0).wf = true) (w_a1 : (Lit.int .i64 a1).wf = true) (w_a2 : (Lit.int .i64 a2).wf = true) (w_a3 : (Lit.int .i64 a3).wf = true) (w_a4 : (Lit.int .i64 a4).wf = true) (w_a5 : (Lit.int .i64 a5).wf = true) (w_b0 : (Lit.int .i64 b0).wf = true) (w_b1 : (Lit.int .i64 b1).wf = true) (w_b2 : (Lit.int .i64 b2).wf = true) (w_b3 : (Lit.int .i64 b3).wf = true) (w_b4 : (Lit.int .i64 b4).wf = true) (w_b5 : (Lit.int .i64 b5).wf = true) (w_c0 : (Lit.int .i64 c0).wf = true) (w_c1 : (Lit.int .i64 c1).wf = true) (w_c2 : (Lit.int .i64 c2).wf = true) (w_c3 : (Lit.int .i64 c3).wf = true) (w_c4 : (Lit.int .i64 c4).wf = true) (w_c5 : (Lit.int .i64 c5).wf = true) (hL : PR w ∧ PW w) :
    Calls Tryd.prog 8 #[.agg #[.int .i64 a0, .int .i64 a1, .int .i64 a2, .int .i64 a3, .int .i64 a4, .int .i64 a5], .agg #[.int .i64 b0, .int .i64 b1, .int .i64 b2, .int .i64 b3, .int .i64 b4, .int .i64 b5], .agg #[.int .i64 c0, .int .i64 c1, .int .i64 c2, .int .i64 c3, .int .i64 c4, .int .i64 c5]] w (Ret (.bool true) w) := by
  clear w_a0 w_a1 w_a2 w_a3 w_a4 w_a5 w_b0 w_b1 w_b2 w_b3 w_b4 w_b5 w_c0 w_c1 w_c2 w_c3 w_c4 w_c5
  have HP := Lib.hid hL.1
  have HQ := Lib.hid hL.2
  have HH := Lib.hid (fun W (h : PR W) (h' : PW W) => head03_c W h h')
  clear hL
  have h1 := fun W => PMul_c a0 a1 a2 a3 a4 a5 c0 c1 c2 c3 c4 c5 W
  have h2 := fun W => PMul_c b0 b1 b2 b3 b4 b5 c0 c1 c2 c3 c4 c5 W
  obtain ⟨p0, p1, p2, p3, p4, p5, e, q0, q1, q2, q3, q4, q5, g, e1, e2, hall⟩ := trn a0 a1 a2 a3 a4 a5 b0 b1 b2 b3 b4 b5 c0 c1 c2 c3 c4 c5
  rw [e1] at h1
  rw [e2] at h2
  have H1 := Lib.hid h1
  have H2 := Lib.hid h2
  clear e1 e2 h1 h2
  by_cases hk : e = 0 ∧ g = 0
  · obtain ⟨rfl, rfl⟩ := hk
    obtain ⟨x, m0, m1, m2, m3, m4, m5, n0, n1, n2, n3, n4, n5, y, e1, e2, e3, e4, e5, hxy⟩ := hall rfl rfl
    have h3 := fun W (h : PR W) => PCmp_c a0 a1 a2 a3 a4 a5 b0 b1 b2 b3 b4 b5 W h
    have h4 := fun W (h : PR W) => PCmp_c p0 p1 p2 p3 p4 p5 q0 q1 q2 q3 q4 q5 W h
    have h5 := fun W => PDiv_c 0 0 0 0 0 0 a0 a1 a2 a3 a4 a5 W
    have h6 := fun W => PDiv_c 0 0 0 0 0 0 b0 b1 b2 b3 b4 b5 W
    have h7 := fun W (h : PR W) => PCmp_c m0 m1 m2 m3 m4 m5 n0 n1 n2 n3 n4 n5 W h
    rw [e1] at h3
    rw [e2] at h4
    rw [e3] at h5
    rw [e4] at h6
    rw [e5] at h7
    have H3 := Lib.hid h3
    have H4 := Lib.hid h4
    have H5 := Lib.hid h5
    have H6 := Lib.hid h6
    have H7 := Lib.hid h7
    clear e1 e2 e3 e4 e5 h3 h4 h5 h6 h7 hall
    go_enter Tryd.func8, Tryd.ntmps8
    go_wp2_with fail
    ((with_reducible refine (HH.out _ (HP.out.up (by (repeat (first | (with_reducible exact bl_refl _) | (with_reducible refine bl_drew ?_) | (with_reducible refine bl_alloc ?_ _) | (with_reducible refine bl_set' ?_ ?_; · (first | omega | (simp; done) | (simp; omega))) | (with_reducible refine bl_last (by assumption) ?_) | (with_reducible refine bl_drewN ?_ _))))) (tab_up HQ.out (by (repeat (first | (with_reducible exact bl_refl _) | (with_reducible refine bl_drew ?_) | (with_reducible refine bl_alloc ?_ _) | (with_reducible refine bl_set' ?_ ?_; · (first | omega | (simp; done) | (simp; omega))) | (with_reducible refine bl_last (by assumption) ?_) | (with_reducible refine bl_drewN ?_ _)))))).mono ?_); rintro e u0 ⟨rfl, d0⟩)
    obtain ⟨hz0, hc0, hf0⟩ := bcl d0 (by first | (simp; rfl) | rfl)
    have z0_0 : w.heap.size < u0.heap.size := by omega
    have z0_1 : w.heap.size + 1 < u0.heap.size := by omega
    have z0_2 : w.heap.size + 1 + 1 < u0.heap.size := by omega
    go_wp2_with fail
    refine calls_letter ?_
    intro W1 hW1
    have k1 : Below w.heap.size w W1 := by
      rw [hW1]
      (repeat (first | (with_reducible assumption) | (with_reducible exact bl_refl _) | (with_reducible refine bl_alloc ?_ _) | (with_reducible refine bl_set' ?_ ?_; · (dsimp only; first | assumption | exact Nat.le_refl _ | omega)) | (with_reducible refine bl_last (by assumption) ?_)))
    have A1 : Blk W1 (w.heap.size) 23 #[.int .i64 a0, .int .i64 a1, .int .i64 a2, .int .i64 a3, .int .i64 a4, .int .i64 a5] := by
      rw [hW1]
      (repeat (first | (with_reducible assumption) | (with_reducible apply Blk.new) | (with_reducible exact blkAt _ _ _ _ (by simp; done)) | (with_reducible apply blk_st2) | (with_reducible apply blk_st4) | (with_reducible apply blk_st6) | (with_reducible apply blk_far (hne := by first | (with_reducible assumption) | omega)) | (with_reducible apply blk_up (hb := by assumption)) | (with_reducible apply Blk.alloc)))
    have B1 : Blk W1 (w.heap.size + 1) 23 #[.int .i64 b0, .int .i64 b1, .int .i64 b2, .int .i64 b3, .int .i64 b4, .int .i64 b5] := by
      rw [hW1]
      (repeat (first | (with_reducible assumption) | (with_reducible apply Blk.new) | (with_reducible exact blkAt _ _ _ _ (by simp; done)) | (with_reducible apply blk_st2) | (with_reducible apply blk_st4) | (with_reducible apply blk_st6) | (with_reducible apply blk_far (hne := by first | (with_reducible assumption) | omega)) | (with_reducible apply blk_up (hb := by assumption)) | (with_reducible apply Blk.alloc)))
    have C1 : Blk W1 (w.heap.size + 1 + 1) 23 #[.int .i64 c0, .int .i64 c1, .int .i64 c2, .int .i64 c3, .int .i64 c4, .int .i64 c5] := by
      rw [hW1]
      (repeat (first | (with_reducible assumption) | (with_reducible apply Blk.new) | (with_reducible exact blkAt _ _ _ _ (by simp; done)) | (with_reducible apply blk_st2) | (with_reducible apply blk_st4) | (with_reducible apply blk_st6) | (with_reducible apply blk_far (hne := by first | (with_reducible assumption) | omega)) | (with_reducible apply blk_up (hb := by assumption)) | (with_reducible apply Blk.alloc)))
    clear hW1
    try clear hz0
    try clear hc0
    try clear hf0
    try clear d0
    try clear z0_0
    try clear z0_1
    try clear z0_2
    have y1 := k1.size
    have gA1 := A1.lt
    have lA1 := Nat.le_of_lt gA1
    have gB1 := B1.lt
    have lB1 := Nat.le_of_lt gB1
    have gC1 := C1.lt
    have lC1 := Nat.le_of_lt gC1
    have cB1_0 := B1.cell 0
    have cB1_1 := B1.cell 1
    have cB1_2 := B1.cell 2
    have cB1_3 := B1.cell 3
    have cB1_4 := B1.cell 4
    have cB1_5 := B1.cell 5
    simp only [List.getElem?_toArray, List.getElem?_cons_zero, List.getElem?_cons_succ] at cB1_0 cB1_1 cB1_2 cB1_3 cB1_4 cB1_5
    have cC1_0 := C1.cell 0
    have cC1_1 := C1.cell 1
    have cC1_2 := C1.cell 2
    have cC1_3 := C1.cell 3
    have cC1_4 := C1.cell 4
    have cC1_5 := C1.cell 5
    simp only [List.getElem?_toArray, List.getElem?_cons_zero, List.getElem?_cons_succ] at cC1_0 cC1_1 cC1_2 cC1_3 cC1_4 cC1_5
    ((with_reducible refine (H1.out _).mono ?_); rintro e u1 ⟨rfl, d1⟩)
    obtain ⟨hz1, hc1, hf1⟩ := bcl d1 (by first | (simp; rfl) | rfl)
    have qA1 : w.heap.size < u1.heap.size := by omega
    have pA1 : w.heap.size ≤ u1.heap.size := by omega
    have qB1 : w.heap.size + 1 < u1.heap.size := by omega
    have pB1 : w.heap.size + 1 ≤ u1.heap.size := by omega
    have qC1 : w.heap.size + 1 + 1 < u1.heap.size := by omega
    have pC1 : w.heap.size + 1 + 1 ≤ u1.heap.size := by omega
    have oP : w.heap.size ≤ u1.heap.size := by omega
    have nAP : w.heap.size ≠ u1.heap.size := by omega
    have mAP : u1.heap.size ≠ w.heap.size := by omega
    have nBP : w.heap.size + 1 ≠ u1.heap.size := by omega
    have mBP : u1.heap.size ≠ w.heap.size + 1 := by omega
    have nCP : w.heap.size + 1 + 1 ≠ u1.heap.size := by omega
    have mCP : u1.heap.size ≠ w.heap.size + 1 + 1 := by omega
    go_wp2_with fail
    refine calls_letter ?_
    intro W2 hW2
    have k2 : Below w.heap.size w W2 := by
      rw [hW2]
      (repeat (first | (with_reducible assumption) | (with_reducible exact bl_refl _) | (with_reducible refine bl_alloc ?_ _) | (with_reducible refine bl_set' ?_ ?_; · (dsimp only; first | assumption | exact Nat.le_refl _ | omega)) | (with_reducible refine bl_last (by assumption) ?_)))
    have A2 : Blk W2 (w.heap.size) 23 #[.int .i64 a0, .int .i64 a1, .int .i64 a2, .int .i64 a3, .int .i64 a4, .int .i64 a5] := by
      rw [hW2]
      (repeat (first | (with_reducible assumption) | (with_reducible apply Blk.new) | (with_reducible exact blkAt _ _ _ _ (by simp; done)) | (with_reducible apply blk_st2) | (with_reducible apply blk_st4) | (with_reducible apply blk_st6) | (with_reducible apply blk_far (hne := by first | (with_reducible assumption) | omega)) | (with_reducible apply blk_up (hb := by assumption)) | (with_reducible apply Blk.alloc)))
    have B2 : Blk W2 (w.heap.size + 1) 23 #[.int .i64 b0, .int .i64 b1, .int .i64 b2, .int .i64 b3, .int .i64 b4, .int .i64 b5] := by
      rw [hW2]
      (repeat (first | (with_reducible assumption) | (with_reducible apply Blk.new) | (with_reducible exact blkAt _ _ _ _ (by simp; done)) | (with_reducible apply blk_st2) | (with_reducible apply blk_st4) | (with_reducible apply blk_st6) | (with_reducible apply blk_far (hne := by first | (with_reducible assumption) | omega)) | (with_reducible apply blk_up (hb := by assumption)) | (with_reducible apply Blk.alloc)))
    have C2 : Blk W2 (w.heap.size + 1 + 1) 23 #[.int .i64 c0, .int .i64 c1, .int .i64 c2, .int .i64 c3, .int .i64 c4, .int .i64 c5] := by
      rw [hW2]
      (repeat (first | (with_reducible assumption) | (with_reducible apply Blk.new) | (with_reducible exact blkAt _ _ _ _ (by simp; done)) | (with_reducible apply blk_st2) | (with_reducible apply blk_st4) | (with_reducible apply blk_st6) | (with_reducible apply blk_far (hne := by first | (with_reducible assumption) | omega)) | (with_reducible apply blk_up (hb := by assumption)) | (with_reducible apply Blk.alloc)))
    have P2 : Blk W2 (u1.heap.size) 23 #[.int .i64 p0, .int .i64 p1, .int .i64 p2, .int .i64 p3, .int .i64 p4, .int .i64 p5] := by
      rw [hW2]
      (repeat (first | (with_reducible assumption) | (with_reducible apply Blk.new) | (with_reducible exact blkAt _ _ _ _ (by simp; done)) | (with_reducible apply blk_st2) | (with_reducible apply blk_st4) | (with_reducible apply blk_st6) | (with_reducible apply blk_far (hne := by first | (with_reducible assumption) | omega)) | (with_reducible apply blk_up (hb := by assumption)) | (with_reducible apply Blk.alloc)))
    clear hW2
    try clear qC1
    try clear pC1
    try clear qB1
    try clear pB1
    try clear qA1
    try clear pA1
    try clear hz1
    try clear hc1
    try clear hf1
    try clear d1
    try clear cC1_0
    try clear cC1_1
    try clear cC1_2
    try clear cC1_3
    try clear cC1_4
    try clear cC1_5
    try clear cB1_0
    try clear cB1_1
    try clear cB1_2
    try clear cB1_3
    try clear cB1_4
    try clear cB1_5
    try clear y1
    try clear k1
    try clear A1
    try clear B1
    try clear C1
    try clear gA1
    try clear lA1
    try clear gB1
    try clear lB1
    try clear gC1
    try clear lC1
    have y2 := k2.size
    have gA2 := A2.lt
    have lA2 := Nat.le_of_lt gA2
    have gB2 := B2.lt
    have lB2 := Nat.le_of_lt gB2
    have gC2 := C2.lt
    have lC2 := Nat.le_of_lt gC2
    have gP2 := P2.lt
    have lP2 := Nat.le_of_lt gP2
    have cA2_0 := A2.cell 0
    have cA2_1 := A2.cell 1
    have cA2_2 := A2.cell 2
    have cA2_3 := A2.cell 3
    have cA2_4 := A2.cell 4
    have cA2_5 := A2.cell 5
    simp only [List.getElem?_toArray, List.getElem?_cons_zero, List.getElem?_cons_succ] at cA2_0 cA2_1 cA2_2 cA2_3 cA2_4 cA2_5
    have cB2_0 := B2.cell 0
    have cB2_1 := B2.cell 1
    have cB2_2 := B2.cell 2
    have cB2_3 := B2.cell 3
    have cB2_4 := B2.cell 4
    have cB2_5 := B2.cell 5
    simp only [List.getElem?_toArray, List.getElem?_cons_zero, List.getElem?_cons_succ] at cB2_0 cB2_1 cB2_2 cB2_3 cB2_4 cB2_5
    ((with_reducible refine (H2.out _).mono ?_); rintro e u2 ⟨rfl, d2⟩)
    obtain ⟨hz2, hc2, hf2⟩ := bcl d2 (by first | (simp; rfl) | rfl)
    have qA2 : w.heap.size < u2.heap.size := by omega
    have pA2 : w.heap.size ≤ u2.heap.size := by omega
    have qB2 : w.heap.size + 1 < u2.heap.size := by omega
    have pB2 : w.heap.size + 1 ≤ u2.heap.size := by omega
    have qC2 : w.heap.size + 1 + 1 < u2.heap.size := by omega
    have pC2 : w.heap.size + 1 + 1 ≤ u2.heap.size := by omega
    have qP2 : u1.heap.size < u2.heap.size := by omega
    have pP2 : u1.heap.size ≤ u2.heap.size := by omega
    have oQ : w.heap.size ≤ u2.heap.size := by omega
    have nAQ : w.heap.size ≠ u2.heap.size := by omega
    have mAQ : u2.heap.size ≠ w.heap.size := by omega
    have nBQ : w.heap.size + 1 ≠ u2.heap.size := by omega
    have mBQ : u2.heap.size ≠ w.heap.size + 1 := by omega
    have nCQ : w.heap.size + 1 + 1 ≠ u2.heap.size := by omega
    have mCQ : u2.heap.size ≠ w.heap.size + 1 + 1 := by omega
    have nPQ : u1.heap.size ≠ u2.heap.size := by omega
    have mPQ : u2.heap.size ≠ u1.heap.size := by omega
    go_wp2_with fail
    refine calls_letter ?_
    intro W3 hW3
    have k3 : Below w.heap.size w W3 := by
      rw [hW3]
      (repeat (first | (with_reducible assumption) | (with_reducible exact bl_refl _) | (with_reducible refine bl_alloc ?_ _) | (with_reducible refine bl_set' ?_ ?_; · (dsimp only; first | assumption | exact Nat.le_refl _ | omega)) | (with_reducible refine bl_last (by assumption) ?_)))
    have A3 : Blk W3 (w.heap.size) 23 #[.int .i64 a0, .int .i64 a1, .int .i64 a2, .int .i64 a3, .int .i64 a4, .int .i64 a5] := by
      rw [hW3]
      (repeat (first | (with_reducible assumption) | (with_reducible apply Blk.new) | (with_reducible exact blkAt _ _ _ _ (by simp; done)) | (with_reducible apply blk_st2) | (with_reducible apply blk_st4) | (with_reducible apply blk_st6) | (with_reducible apply blk_far (hne := by first | (with_reducible assumption) | omega)) | (with_reducible apply blk_up (hb := by assumption)) | (with_reducible apply Blk.alloc)))
    have B3 : Blk W3 (w.heap.size + 1) 23 #[.int .i64 b0, .int .i64 b1, .int .i64 b2, .int .i64 b3, .int .i64 b4, .int .i64 b5] := by
      rw [hW3]
      (repeat (first | (with_reducible assumption) | (with_reducible apply Blk.new) | (with_reducible exact blkAt _ _ _ _ (by simp; done)) | (with_reducible apply blk_st2) | (with_reducible apply blk_st4) | (with_reducible apply blk_st6) | (with_reducible apply blk_far (hne := by first | (with_reducible assumption) | omega)) | (with_reducible apply blk_up (hb := by assumption)) | (with_reducible apply Blk.alloc)))
    have P3 : Blk W3 (u1.heap.size) 23 #[.int .i64 p0, .int .i64 p1, .int .i64 p2, .int .i64 p3, .int .i64 p4, .int .i64 p5] := by
      rw [hW3]
      (repeat (first | (with_reducible assumption) | (with_reducible apply Blk.new) | (with_reducible exact blkAt _ _ _ _ (by simp; done)) | (with_reducible apply blk_st2) | (with_reducible apply blk_st4) | (with_reducible apply blk_st6) | (with_reducible apply blk_far (hne := by first | (with_reducible assumption) | omega)) | (with_reducible apply blk_up (hb := by assumption)) | (with_reducible apply Blk.alloc)))
    have Q3 : Blk W3 (u2.heap.size) 23 #[.int .i64 q0, .int .i64 q1, .int .i64 q2, .int .i64 q3, .int .i64 q4, .int .i64 q5] := by
      rw [hW3]
      (repeat (first | (with_reducible assumption) | (with_reducible apply Blk.new) | (with_reducible exact blkAt _ _ _ _ (by simp; done)) | (with_reducible apply blk_st2) | (with_reducible apply blk_st4) | (with_reducible apply blk_st6) | (with_reducible apply blk_far (hne := by first | (with_reducible assumption) | omega)) | (with_reducible apply blk_up (hb := by assumption)) | (with_reducible apply Blk.alloc)))
    clear hW3
    try clear qP2
    try clear pP2
    try clear qC2
    try clear pC2
    try clear qB2
    try clear pB2
    try clear qA2
    try clear pA2
    try clear hz2
    try clear hc2
    try clear hf2
    try clear d2
    try clear cB2_0
    try clear cB2_1
    try clear cB2_2
    try clear cB2_3
    try clear cB2_4
    try clear cB2_5
    try clear cA2_0
    try clear cA2_1
    try clear cA2_2
    try clear cA2_3
    try clear cA2_4
    try clear cA2_5
    try clear y2
    try clear k2
    try clear A2
    try clear B2
    try clear C2
    try clear P2
    try clear gA2
    try clear lA2
    try clear gB2
    try clear lB2
    try clear gC2
    try clear lC2
    try clear gP2
    try clear lP2
    have y3 := k3.size
    have gA3 := A3.lt
    have lA3 := Nat.le_of_lt gA3
    have gB3 := B3.lt
    have lB3 := Nat.le_of_lt gB3
    have gP3 := P3.lt
    have lP3 := Nat.le_of_lt gP3
    have gQ3 := Q3.lt
    have lQ3 := Nat.le_of_lt gQ3
    have cP3_0 := P3.cell 0
    have cP3_1 := P3.cell 1
    have cP3_2 := P3.cell 2
    have cP3_3 := P3.cell 3
    have cP3_4 := P3.cell 4
    have cP3_5 := P3.cell 5
    simp only [List.getElem?_toArray, List.getElem?_cons_zero, List.getElem?_cons_succ] at cP3_0 cP3_1 cP3_2 cP3_3 cP3_4 cP3_5
    have cQ3_0 := Q3.cell 0
    have cQ3_1 := Q3.cell 1
    have cQ3_2 := Q3.cell 2
    have cQ3_3 := Q3.cell 3
    have cQ3_4 := Q3.cell 4
    have cQ3_5 := Q3.cell 5
    simp only [List.getElem?_toArray, List.getElem?_cons_zero, List.getElem?_cons_succ] at cQ3_0 cQ3_1 cQ3_2 cQ3_3 cQ3_4 cQ3_5
    ((with_reducible refine (H3.out _ (HP.out.up k3)).mono ?_); rintro e u3 ⟨rfl, d3⟩)
    obtain ⟨hz3, hc3, hf3⟩ := bcl d3 (by first | (simp; rfl) | rfl)
    have qA3 : w.heap.size < u3.heap.size := by omega
    have pA3 : w.heap.size ≤ u3.heap.size := by omega
    have qB3 : w.heap.size + 1 < u3.heap.size := by omega
    have pB3 : w.heap.size + 1 ≤ u3.heap.size := by omega
    have qP3 : u1.heap.size < u3.heap.size := by omega
    have pP3 : u1.heap.size ≤ u3.heap.size := by omega
    have qQ3 : u2.heap.size < u3.heap.size := by omega
    have pQ3 : u2.heap.size ≤ u3.heap.size := by omega
    go_wp2_with fail
    refine calls_letter ?_
    intro W4 hW4
    have k4 : Below w.heap.size w W4 := by
      rw [hW4]
      (repeat (first | (with_reducible assumption) | (with_reducible exact bl_refl _) | (with_reducible refine bl_alloc ?_ _) | (with_reducible refine bl_set' ?_ ?_; · (dsimp only; first | assumption | exact Nat.le_refl _ | omega)) | (with_reducible refine bl_last (by assumption) ?_)))
    have A4 : Blk W4 (w.heap.size) 23 #[.int .i64 a0, .int .i64 a1, .int .i64 a2, .int .i64 a3, .int .i64 a4, .int .i64 a5] := by
      rw [hW4]
      (repeat (first | (with_reducible assumption) | (with_reducible apply Blk.new) | (with_reducible exact blkAt _ _ _ _ (by simp; done)) | (with_reducible apply blk_st2) | (with_reducible apply blk_st4) | (with_reducible apply blk_st6) | (with_reducible apply blk_far (hne := by first | (with_reducible assumption) | omega)) | (with_reducible apply blk_up (hb := by assumption)) | (with_reducible apply Blk.alloc)))
    have B4 : Blk W4 (w.heap.size + 1) 23 #[.int .i64 b0, .int .i64 b1, .int .i64 b2, .int .i64 b3, .int .i64 b4, .int .i64 b5] := by
      rw [hW4]
      (repeat (first | (with_reducible assumption) | (with_reducible apply Blk.new) | (with_reducible exact blkAt _ _ _ _ (by simp; done)) | (with_reducible apply blk_st2) | (with_reducible apply blk_st4) | (with_reducible apply blk_st6) | (with_reducible apply blk_far (hne := by first | (with_reducible assumption) | omega)) | (with_reducible apply blk_up (hb := by assumption)) | (with_reducible apply Blk.alloc)))
    clear hW4
    try clear qQ3
    try clear pQ3
    try clear qP3
    try clear pP3
    try clear qB3
    try clear pB3
    try clear qA3
    try clear pA3
    try clear hz3
    try clear hc3
    try clear hf3
    try clear d3
    try clear cQ3_0
    try clear cQ3_1
    try clear cQ3_2
    try clear cQ3_3
    try clear cQ3_4
    try clear cQ3_5
    try clear cP3_0
    try clear cP3_1
    try clear cP3_2
    try clear cP3_3
    try clear cP3_4
    try clear cP3_5
    try clear y3
    try clear k3
    try clear A3
    try clear B3
    try clear P3
    try clear Q3
    try clear gA3
    try clear lA3
    try clear gB3
    try clear lB3
    try clear gP3
    try clear lP3
    try clear gQ3
    try clear lQ3
    have y4 := k4.size
    have gA4 := A4.lt
    have lA4 := Nat.le_of_lt gA4
    have gB4 := B4.lt
    have lB4 := Nat.le_of_lt gB4
    have cA4_0 := A4.cell 0
    have cA4_1 := A4.cell 1
    have cA4_2 := A4.cell 2
    have cA4_3 := A4.cell 3
    have cA4_4 := A4.cell 4
    have cA4_5 := A4.cell 5
    simp only [List.getElem?_toArray, List.getElem?_cons_zero, List.getElem?_cons_succ] at cA4_0 cA4_1 cA4_2 cA4_3 cA4_4 cA4_5
    ((with_reducible refine (H4.out _ (HP.out.up k4)).mono ?_); rintro e u4 ⟨rfl, d4⟩)
    obtain ⟨hz4, hc4, hf4⟩ := bcl d4 (by first | (simp; rfl) | rfl)
    have qA4 : w.heap.size < u4.heap.size := by omega
    have pA4 : w.heap.size ≤ u4.heap.size := by omega
    have qB4 : w.heap.size + 1 < u4.heap.size := by omega
    have pB4 : w.heap.size + 1 ≤ u4.heap.size := by omega
    go_wp2_with fail
    refine calls_letter ?_
    intro W5 hW5
    have k5 : Below w.heap.size w W5 := by
      rw [hW5]
      (repeat (first | (with_reducible assumption) | (with_reducible exact bl_refl _) | (with_reducible refine bl_alloc ?_ _) | (with_reducible refine bl_set' ?_ ?_; · (dsimp only; first | assumption | exact Nat.le_refl _ | omega)) | (with_reducible refine bl_last (by assumption) ?_)))
    have B5 : Blk W5 (w.heap.size + 1) 23 #[.int .i64 b0, .int .i64 b1, .int .i64 b2, .int .i64 b3, .int .i64 b4, .int .i64 b5] := by
      rw [hW5]
      (repeat (first | (with_reducible assumption) | (with_reducible apply Blk.new) | (with_reducible exact blkAt _ _ _ _ (by simp; done)) | (with_reducible apply blk_st2) | (with_reducible apply blk_st4) | (with_reducible apply blk_st6) | (with_reducible apply blk_far (hne := by first | (with_reducible assumption) | omega)) | (with_reducible apply blk_up (hb := by assumption)) | (with_reducible apply Blk.alloc)))
    clear hW5
    try clear qB4
    try clear pB4
    try clear qA4
    try clear pA4
    try clear hz4
    try clear hc4
    try clear hf4
    try clear d4
    try clear cA4_0
    try clear cA4_1
    try clear cA4_2
    try clear cA4_3
    try clear cA4_4
    try clear cA4_5
    try clear y4
    try clear k4
    try clear A4
    try clear B4
    try clear gA4
    try clear lA4
    try clear gB4
    try clear lB4
    have y5 := k5.size
    have gB5 := B5.lt
    have lB5 := Nat.le_of_lt gB5
    have cB5_0 := B5.cell 0
    have cB5_1 := B5.cell 1
    have cB5_2 := B5.cell 2
    have cB5_3 := B5.cell 3
    have cB5_4 := B5.cell 4
    have cB5_5 := B5.cell 5
    simp only [List.getElem?_toArray, List.getElem?_cons_zero, List.getElem?_cons_succ] at cB5_0 cB5_1 cB5_2 cB5_3 cB5_4 cB5_5
    ((with_reducible refine (H5.out _).mono ?_); rintro e u5 ⟨rfl, d5⟩)
    obtain ⟨hz5, hc5, hf5⟩ := bcl d5 (by first | (simp; rfl) | rfl)
    have qB5 : w.heap.size + 1 < u5.heap.size := by omega
    have pB5 : w.heap.size + 1 ≤ u5.heap.size := by omega
    have oU : w.heap.size ≤ u5.heap.size := by omega
    have nBU : w.heap.size + 1 ≠ u5.heap.size := by omega
    have mBU : u5.heap.size ≠ w.heap.size + 1 := by omega
    go_wp2_with fail
    refine calls_letter ?_
    intro W6 hW6
    have k6 : Below w.heap.size w W6 := by
      rw [hW6]
      (repeat (first | (with_reducible assumption) | (with_reducible exact bl_refl _) | (with_reducible refine bl_alloc ?_ _) | (with_reducible refine bl_set' ?_ ?_; · (dsimp only; first | assumption | exact Nat.le_refl _ | omega)) | (with_reducible refine bl_last (by assumption) ?_)))
    have U6 : Blk W6 (u5.heap.size) 23 #[.int .i64 m0, .int .i64 m1, .int .i64 m2, .int .i64 m3, .int .i64 m4, .int .i64 m5] := by
      rw [hW6]
      (repeat (first | (with_reducible assumption) | (with_reducible apply Blk.new) | (with_reducible exact blkAt _ _ _ _ (by simp; done)) | (with_reducible apply blk_st2) | (with_reducible apply blk_st4) | (with_reducible apply blk_st6) | (with_reducible apply blk_far (hne := by first | (with_reducible assumption) | omega)) | (with_reducible apply blk_up (hb := by assumption)) | (with_reducible apply Blk.alloc)))
    clear hW6
    try clear qB5
    try clear pB5
    try clear hz5
    try clear hc5
    try clear hf5
    try clear d5
    try clear cB5_0
    try clear cB5_1
    try clear cB5_2
    try clear cB5_3
    try clear cB5_4
    try clear cB5_5
    try clear y5
    try clear k5
    try clear B5
    try clear gB5
    try clear lB5
    have y6 := k6.size
    have gU6 := U6.lt
    have lU6 := Nat.le_of_lt gU6
    have cU6_0 := U6.cell 0
    have cU6_1 := U6.cell 1
    have cU6_2 := U6.cell 2
    have cU6_3 := U6.cell 3
    have cU6_4 := U6.cell 4
    have cU6_5 := U6.cell 5
    simp only [List.getElem?_toArray, List.getElem?_cons_zero, List.getElem?_cons_succ] at cU6_0 cU6_1 cU6_2 cU6_3 cU6_4 cU6_5
    ((with_reducible refine (H6.out _).mono ?_); rintro e u6 ⟨rfl, d6⟩)
    obtain ⟨hz6, hc6, hf6⟩ := bcl d6 (by first | (simp; rfl) | rfl)
    have qU6 : u5.heap.size < u6.heap.size := by omega
    have pU6 : u5.heap.size ≤ u6.heap.size := by omega
    have oV : w.heap.size ≤ u6.heap.size := by omega
    have nUV : u5.heap.size ≠ u6.heap.size := by omega
    have mUV : u6.heap.size ≠ u5.heap.size := by omega
    go_wp2_with fail
    refine calls_letter ?_
    intro W7 hW7
    have k7 : Below w.heap.size w W7 := by
      rw [hW7]
      (repeat (first | (with_reducible assumption) | (with_reducible exact bl_refl _) | (with_reducible refine bl_alloc ?_ _) | (with_reducible refine bl_set' ?_ ?_; · (dsimp only; first | assumption | exact Nat.le_refl _ | omega)) | (with_reducible refine bl_last (by assumption) ?_)))
    have U7 : Blk W7 (u5.heap.size) 23 #[.int .i64 m0, .int .i64 m1, .int .i64 m2, .int .i64 m3, .int .i64 m4, .int .i64 m5] := by
      rw [hW7]
      (repeat (first | (with_reducible assumption) | (with_reducible apply Blk.new) | (with_reducible exact blkAt _ _ _ _ (by simp; done)) | (with_reducible apply blk_st2) | (with_reducible apply blk_st4) | (with_reducible apply blk_st6) | (with_reducible apply blk_far (hne := by first | (with_reducible assumption) | omega)) | (with_reducible apply blk_up (hb := by assumption)) | (with_reducible apply Blk.alloc)))
    have V7 : Blk W7 (u6.heap.size) 23 #[.int .i64 n0, .int .i64 n1, .int .i64 n2, .int .i64 n3, .int .i64 n4, .int .i64 n5] := by
      rw [hW7]
      (repeat (first | (with_reducible assumption) | (with_reducible apply Blk.new) | (with_reducible exact blkAt _ _ _ _ (by simp; done)) | (with_reducible apply blk_st2) | (with_reducible apply blk_st4) | (with_reducible apply blk_st6) | (with_reducible apply blk_far (hne := by first | (with_reducible assumption) | omega)) | (with_reducible apply blk_up (hb := by assumption)) | (with_reducible apply Blk.alloc)))
    clear hW7
    try clear qU6
    try clear pU6
    try clear hz6
    try clear hc6
    try clear hf6
    try clear d6
    try clear cU6_0
    try clear cU6_1
    try clear cU6_2
    try clear cU6_3
    try clear cU6_4
    try clear cU6_5
    try clear y6
    try clear k6
    try clear U6
    try clear gU6
    try clear lU6
    have y7 := k7.size
    have gU7 := U7.lt
    have lU7 := Nat.le_of_lt gU7
    have gV7 := V7.lt
    have lV7 := Nat.le_of_lt gV7
    ((with_reducible refine (H7.out _ (HP.out.up k7)).mono ?_); rintro e u7 ⟨rfl, d7⟩)
    obtain ⟨hz7, hc7, hf7⟩ := bcl d7 (by first | (simp; rfl) | rfl)
    have qU7 : u5.heap.size < u7.heap.size := by omega
    have pU7 : u5.heap.size ≤ u7.heap.size := by omega
    have qV7 : u6.heap.size < u7.heap.size := by omega
    have pV7 : u6.heap.size ≤ u7.heap.size := by omega
    go_wp2_with fail
    go_ret
    refine ⟨rfl, ?_⟩
    (repeat (first | (with_reducible exact bl_refl _) | (with_reducible refine bl_drew ?_) | (with_reducible refine bl_alloc ?_ _) | (with_reducible refine bl_set' ?_ ?_; · (first | omega | (simp; done) | (simp; omega))) | (with_reducible refine bl_last (by assumption) ?_) | (with_reducible refine bl_drewN ?_ _)))
  · clear hall
    go_enter Tryd.func8, Tryd.ntmps8
    go_wp2_with fail
    ((with_reducible refine (HH.out _ (HP.out.up (by (repeat (first | (with_reducible exact bl_refl _) | (with_reducible refine bl_drew ?_) | (with_reducible refine bl_alloc ?_ _) | (with_reducible refine bl_set' ?_ ?_; · (first | omega | (simp; done) | (simp; omega))) | (with_reducible refine bl_last (by assumption) ?_) | (with_reducible refine bl_drewN ?_ _))))) (tab_up HQ.out (by (repeat (first | (with_reducible exact bl_refl _) | (with_reducible refine bl_drew ?_) | (with_reducible refine bl_alloc ?_ _) | (with_reducible refine bl_set' ?_ ?_; · (first | omega | (simp; done) | (simp; omega))) | (with_reducible refine bl_last (by assumption) ?_) | (with_reducible refine bl_drewN ?_ _)))))).mono ?_); rintro e u0 ⟨rfl, d0⟩)
    obtain ⟨hz0, hc0, hf0⟩ := bcl d0 (by first | (simp; rfl) | rfl)
    have z0_0 : w.heap.size < u0.heap.size := by omega
    have z0_1 : w.heap.size + 1 < u0.heap.size := by omega
    have z0_2 : w.heap.size + 1 + 1 < u0.heap.size := by omega
    go_wp2_with fail
    refine calls_letter ?_
    intro W1 hW1
    have k1 : Below w.heap.size w W1 := by
      rw [hW1]
      (repeat (first | (with_reducible assumption) | (with_reducible exact bl_refl _) | (with_reducible refine bl_alloc ?_ _) | (with_reducible refine bl_set' ?_ ?_; · (dsimp only; first | assumption | exact Nat.le_refl _ | omega)) | (with_reducible refine bl_last (by assumption) ?_)))
    have A1 : Blk W1 (w.heap.size) 23 #[.int .i64 a0, .int .i64 a1, .int .i64 a2, .int .i64 a3, .int .i64 a4, .int .i64 a5] := by
      rw [hW1]
      (repeat (first | (with_reducible assumption) | (with_reducible apply Blk.new) | (with_reducible exact blkAt _ _ _ _ (by simp; done)) | (with_reducible apply blk_st2) | (with_reducible apply blk_st4) | (with_reducible apply blk_st6) | (with_reducible apply blk_far (hne := by first | (with_reducible assumption) | omega)) | (with_reducible apply blk_up (hb := by assumption)) | (with_reducible apply Blk.alloc)))
    have B1 : Blk W1 (w.heap.size + 1) 23 #[.int .i64 b0, .int .i64 b1, .int .i64 b2, .int .i64 b3, .int .i64 b4, .int .i64 b5] := by
      rw [hW1]
      (repeat (first | (with_reducible assumption) | (with_reducible apply Blk.new) | (with_reducible exact blkAt _ _ _ _ (by simp; done)) | (with_reducible apply blk_st2) | (with_reducible apply blk_st4) | (with_reducible apply blk_st6) | (with_reducible apply blk_far (hne := by first | (with_reducible assumption) | omega)) | (with_reducible apply blk_up (hb := by assumption)) | (with_reducible apply Blk.alloc)))
    have C1 : Blk W1 (w.heap.size + 1 + 1) 23 #[.int .i64 c0, .int .i64 c1, .int .i64 c2, .int .i64 c3, .int .i64 c4, .int .i64 c5] := by
      rw [hW1]
      (repeat (first | (with_reducible assumption) | (with_reducible apply Blk.new) | (with_reducible exact blkAt _ _ _ _ (by simp; done)) | (with_reducible apply blk_st2) | (with_reducible apply blk_st4) | (with_reducible apply blk_st6) | (with_reducible apply blk_far (hne := by first | (with_reducible assumption) | omega)) | (with_reducible apply blk_up (hb := by assumption)) | (with_reducible apply Blk.alloc)))
    clear hW1
    try clear hz0
    try clear hc0
    try clear hf0
    try clear d0
    try clear z0_0
    try clear z0_1
    try clear z0_2
    have y1 := k1.size
    have gA1 := A1.lt
    have lA1 := Nat.le_of_lt gA1
    have gB1 := B1.lt
    have lB1 := Nat.le_of_lt gB1
    have gC1 := C1.lt
    have lC1 := Nat.le_of_lt gC1
    have cB1_0 := B1.cell 0
    have cB1_1 := B1.cell 1
    have cB1_2 := B1.cell 2
    have cB1_3 := B1.cell 3
    have cB1_4 := B1.cell 4
    have cB1_5 := B1.cell 5
    simp only [List.getElem?_toArray, List.getElem?_cons_zero, List.getElem?_cons_succ] at cB1_0 cB1_1 cB1_2 cB1_3 cB1_4 cB1_5
    have cC1_0 := C1.cell 0
    have cC1_1 := C1.cell 1
    have cC1_2 := C1.cell 2
    have cC1_3 := C1.cell 3
    have cC1_4 := C1.cell 4
    have cC1_5 := C1.cell 5
    simp only [List.getElem?_toArray, List.getElem?_cons_zero, List.getElem?_cons_succ] at cC1_0 cC1_1 cC1_2 cC1_3 cC1_4 cC1_5
    ((with_reducible refine (H1.out _).mono ?_); rintro e u1 ⟨rfl, d1⟩)
    obtain ⟨hz1, hc1, hf1⟩ := bcl d1 (by first | (simp; rfl) | rfl)
    have qA1 : w.heap.size < u1.heap.size := by omega
    have pA1 : w.heap.size ≤ u1.heap.size := by omega
    have qB1 : w.heap.size + 1 < u1.heap.size := by omega
    have pB1 : w.heap.size + 1 ≤ u1.heap.size := by omega
    have qC1 : w.heap.size + 1 + 1 < u1.heap.size := by omega
    have pC1 : w.heap.size + 1 + 1 ≤ u1.heap.size := by omega
    have oP : w.heap.size ≤ u1.heap.size := by omega
    have nAP : w.heap.size ≠ u1.heap.size := by omega
    have mAP : u1.heap.size ≠ w.heap.size := by omega
    have nBP : w.heap.size + 1 ≠ u1.heap.size := by omega
    have mBP : u1.heap.size ≠ w.heap.size + 1 := by omega
    have nCP : w.heap.size + 1 + 1 ≠ u1.heap.size := by omega
    have mCP : u1.heap.size ≠ w.heap.size + 1 + 1 := by omega
    go_wp2_with fail
    refine calls_letter ?_
    intro W2 hW2
    have k2 : Below w.heap.size w W2 := by
      rw [hW2]
      (repeat (first | (with_reducible assumption) | (with_reducible exact bl_refl _) | (with_reducible refine bl_alloc ?_ _) | (with_reducible refine bl_set' ?_ ?_; · (dsimp only; first | assumption | exact Nat.le_refl _ | omega)) | (with_reducible refine bl_last (by assumption) ?_)))
    have A2 : Blk W2 (w.heap.size) 23 #[.int .i64 a0, .int .i64 a1, .int .i64 a2, .int .i64 a3, .int .i64 a4, .int .i64 a5] := by
      rw [hW2]
      (repeat (first | (with_reducible assumption) | (with_reducible apply Blk.new) | (with_reducible exact blkAt _ _ _ _ (by simp; done)) | (with_reducible apply blk_st2) | (with_reducible apply blk_st4) | (with_reducible apply blk_st6) | (with_reducible apply blk_far (hne := by first | (with_reducible assumption) | omega)) | (with_reducible apply blk_up (hb := by assumption)) | (with_reducible apply Blk.alloc)))
    have B2 : Blk W2 (w.heap.size + 1) 23 #[.int .i64 b0, .int .i64 b1, .int .i64 b2, .int .i64 b3, .int .i64 b4, .int .i64 b5] := by
      rw [hW2]
      (repeat (first | (with_reducible assumption) | (with_reducible apply Blk.new) | (with_reducible exact blkAt _ _ _ _ (by simp; done)) | (with_reducible apply blk_st2) | (with_reducible apply blk_st4) | (with_reducible apply blk_st6) | (with_reducible apply blk_far (hne := by first | (with_reducible assumption) | omega)) | (with_reducible apply blk_up (hb := by assumption)) | (with_reducible apply Blk.alloc)))
    have C2 : Blk W2 (w.heap.size + 1 + 1) 23 #[.int .i64 c0, .int .i64 c1, .int .i64 c2, .int .i64 c3, .int .i64 c4, .int .i64 c5] := by
      rw [hW2]
      (repeat (first | (with_reducible assumption) | (with_reducible apply Blk.new) | (with_reducible exact blkAt _ _ _ _ (by simp; done)) | (with_reducible apply blk_st2) | (with_reducible apply blk_st4) | (with_reducible apply blk_st6) | (with_reducible apply blk_far (hne := by first | (with_reducible assumption) | omega)) | (with_reducible apply blk_up (hb := by assumption)) | (with_reducible apply Blk.alloc)))
    have P2 : Blk W2 (u1.heap.size) 23 #[.int .i64 p0, .int .i64 p1, .int .i64 p2, .int .i64 p3, .int .i64 p4, .int .i64 p5] := by
      rw [hW2]
      (repeat (first | (with_reducible assumption) | (with_reducible apply Blk.new) | (with_reducible exact blkAt _ _ _ _ (by simp; done)) | (with_reducible apply blk_st2) | (with_reducible apply blk_st4) | (with_reducible apply blk_st6) | (with_reducible apply blk_far (hne := by first | (with_reducible assumption) | omega)) | (with_reducible apply blk_up (hb := by assumption)) | (with_reducible apply Blk.alloc)))
    clear hW2
    try clear qC1
    try clear pC1
    try clear qB1
    try clear pB1
    try clear qA1
    try clear pA1
    try clear hz1
    try clear hc1
    try clear hf1
    try clear d1
    try clear cC1_0
    try clear cC1_1
    try clear cC1_2
    try clear cC1_3
    try clear cC1_4
    try clear cC1_5
    try clear cB1_0
    try clear cB1_1
    try clear cB1_2
    try clear cB1_3
    try clear cB1_4
    try clear cB1_5
    try clear y1
    try clear k1
    try clear A1
    try clear B1
    try clear C1
    try clear gA1
    try clear lA1
    try clear gB1
    try clear lB1
    try clear gC1
    try clear lC1
    have y2 := k2.size
    have gA2 := A2.lt
    have lA2 := Nat.le_of_lt gA2
    have gB2 := B2.lt
    have lB2 := Nat.le_of_lt gB2
    have gC2 := C2.lt
    have lC2 := Nat.le_of_lt gC2
    have gP2 := P2.lt
    have lP2 := Nat.le_of_lt gP2
    have cA2_0 := A2.cell 0
    have cA2_1 := A2.cell 1
    have cA2_2 := A2.cell 2
    have cA2_3 := A2.cell 3
    have cA2_4 := A2.cell 4
    have cA2_5 := A2.cell 5
    simp only [List.getElem?_toArray, List.getElem?_cons_zero, List.getElem?_cons_succ] at cA2_0 cA2_1 cA2_2 cA2_3 cA2_4 cA2_5
    have cB2_0 := B2.cell 0
    have cB2_1 := B2.cell 1
    have cB2_2 := B2.cell 2
    have cB2_3 := B2.cell 3
    have cB2_4 := B2.cell 4
    have cB2_5 := B2.cell 5
    simp only [List.getElem?_toArray, List.getElem?_cons_zero, List.getElem?_cons_succ] at cB2_0 cB2_1 cB2_2 cB2_3 cB2_4 cB2_5
    ((with_reducible refine (H2.out _).mono ?_); rintro e u2 ⟨rfl, d2⟩)
    obtain ⟨hz2, hc2, hf2⟩ := bcl d2 (by first | (simp; rfl) | rfl)
    have qA2 : w.heap.size < u2.heap.size := by omega
    have pA2 : w.heap.size ≤ u2.heap.size := by omega
    have qB2 : w.heap.size + 1 < u2.heap.size := by omega
    have pB2 : w.heap.size + 1 ≤ u2.heap.size := by omega
    have qC2 : w.heap.size + 1 + 1 < u2.heap.size := by omega
    have pC2 : w.heap.size + 1 + 1 ≤ u2.heap.size := by omega
    have qP2 : u1.heap.size < u2.heap.size := by omega
    have pP2 : u1.heap.size ≤ u2.heap.size := by omega
    have oQ : w.heap.size ≤ u2.heap.size := by omega
    have nAQ : w.heap.size ≠ u2.heap.size := by omega
    have mAQ : u2.heap.size ≠ w.heap.size := by omega
    have nBQ : w.heap.size + 1 ≠ u2.heap.size := by omega
    have mBQ : u2.heap.size ≠ w.heap.size + 1 := by omega
    have nCQ : w.heap.size + 1 + 1 ≠ u2.heap.size := by omega
    have mCQ : u2.heap.size ≠ w.heap.size + 1 + 1 := by omega
    have nPQ : u1.heap.size ≠ u2.heap.size := by omega
    have mPQ : u2.heap.size ≠ u1.heap.size := by omega
    by_cases he : e = 0
    · subst he
      have hg : ¬ g = 0 := fun h => hk ⟨rfl, h⟩
      clear hk
      go_wp2_with fail
      go_ret
      refine ⟨rfl, ?_⟩
      (repeat (first | (with_reducible exact bl_refl _) | (with_reducible refine bl_drew ?_) | (with_reducible refine bl_alloc ?_ _) | (with_reducible refine bl_set' ?_ ?_; · (first | omega | (simp; done) | (simp; omega))) | (with_reducible refine bl_last (by assumption) ?_) | (with_reducible refine bl_drewN ?_ _)))
    · clear hk
      go_wp2_with fail
      go_ret
      refine ⟨rfl, ?_⟩
      (repeat (first | (with_reducible exact bl_refl _) | (with_reducible refine bl_drew ?_) | (with_reducible refine bl_alloc ?_ _) | (with_reducible refine bl_set' ?_ ?_; · (first | omega | (simp; done) | (simp; omega))) | (with_reducible refine bl_last (by assumption) ?_) | (with_reducible refine bl_drewN ?_ _)))
end Go.Proofs.YtgbiiaaeabflnaaDoor
