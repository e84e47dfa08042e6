/- BeatMatchesReference: the walk. -/
import Derived.Test.YthlnfjllkmielaaBeatAH
import Derived.Test.YthlnfjllkmielaaBeatX
import Derived.Test.YthlnfjllkmielaaBeatAA
import Derived.Test.YthlnfjllkmielaaBeatZ
import Derived.Test.YthlnfjllkmielaaBlks
namespace Go.Proofs.Ythlnfjllkmielaa
open Go Go.RowKit

set_option maxRecDepth 100000 in
set_option maxHeartbeats 16000000 in
theorem walk_BeatMatchesReference (fn fd gn gd p q : Int) (above : Bool) (v0 v1 v2 v3 v4 v5 b0 b1 b2 b3 c0 c1 c2 c3 x0 x1 x2 x3 x4 x5 n : Int) (w : World)
    (_ : (Lit.int .i64 fn).wf = true) (_ : (Lit.int .i64 fd).wf = true) (_ : (Lit.int .i64 gn).wf = true) (_ : (Lit.int .i64 gd).wf = true) (_ : (Lit.int .i64 p).wf = true) (_ : (Lit.int .i64 q).wf = true) (_ : (Lit.int .i64 v0).wf = true) (_ : (Lit.int .i64 v1).wf = true) (_ : (Lit.int .i64 v2).wf = true) (_ : (Lit.int .i64 v3).wf = true) (_ : (Lit.int .i64 v4).wf = true) (_ : (Lit.int .i64 v5).wf = true) (_ : (Lit.int .i64 b0).wf = true) (_ : (Lit.int .i64 b1).wf = true) (_ : (Lit.int .i64 b2).wf = true) (_ : (Lit.int .i64 b3).wf = true) (_ : (Lit.int .i64 c0).wf = true) (_ : (Lit.int .i64 c1).wf = true) (_ : (Lit.int .i64 c2).wf = true) (_ : (Lit.int .i64 c3).wf = true) (_ : (Lit.int .i64 x0).wf = true) (_ : (Lit.int .i64 x1).wf = true) (_ : (Lit.int .i64 x2).wf = true) (_ : (Lit.int .i64 x3).wf = true) (_ : (Lit.int .i64 x4).wf = true) (_ : (Lit.int .i64 x5).wf = true) (wn : (Lit.int .i64 n).wf = true) :
    Calls Try.prog 3 #[.agg #[.int .i64 fn, .int .i64 fd], .agg #[.int .i64 gn, .int .i64 gd], .int .i64 p, .int .i64 q, .bool above, .agg #[.int .i64 v0, .int .i64 v1, .int .i64 v2, .int .i64 v3, .int .i64 v4, .int .i64 v5], .agg #[.int .i64 b0, .int .i64 b1, .int .i64 b2, .int .i64 b3], .agg #[.int .i64 c0, .int .i64 c1, .int .i64 c2, .int .i64 c3], .agg #[.int .i64 x0, .int .i64 x1, .int .i64 x2, .int .i64 x3, .int .i64 x4, .int .i64 x5], .int .i64 n] w (Ret (.bool true) w) := by
  have hn : I64 n := by
    have h1 : (decide ((-9223372036854775808 : Int) ≤ n) && decide (n ≤ 9223372036854775807)) = true := wn
    simpa [I64] using h1
  have HH := Lib.hid (fun w => head17_c w)
  have h1 := fun w => Rate_c fn fd gn gd p q w
  have k1 := fun w => RRate_c fn fd gn gd p q w
  obtain ⟨r1, r2, r3, hr⟩ : ∃ r1 r2 r3 : Int, raV fn fd gn gd p q = .tuple #[.agg #[.int .i64 r1, .int .i64 r2], .int .i64 r3] := ⟨_, _, _, raV_eq _ _ _ _ _ _⟩
  rw [hr] at h1 k1
  have h2 := fun w => Set_c fn fd p q gn gd above w
  have k2 := fun w => RSet_c fn fd p q gn gd above w
  obtain ⟨s1, s2, s3, hs⟩ : ∃ s1 s2 s3 : Int, seV fn fd p q gn gd above = .tuple #[.agg #[.int .i64 s1, .int .i64 s2], .int .i64 s3] := ⟨_, _, _, seV_eq _ _ _ _ _ _ _⟩
  rw [hs] at h2 k2
  have h3 := fun w => Pair_c v0 v1 v2 v3 v4 v5 w
  have k3 := fun w => RPair_c v0 v1 v2 v3 v4 v5 w
  obtain ⟨p1, p2, p3, hp⟩ : ∃ p1 p2 p3 : Int, paV v0 v1 v2 v3 v4 v5 = .tuple #[.int .i64 p1, .int .i64 p2, .int .i64 p3] := ⟨_, _, _, rfl⟩
  rw [hp] at h3 k3
  have h4 := fun w => Counts_c fn fd gn gd w
  have k4 := fun w => RCounts_c fn fd gn gd w
  obtain ⟨o1, o2, o3, ho⟩ : ∃ o1 o2 o3 : Int, coV fn fd gn gd = .tuple #[.int .i64 o1, .int .i64 o2, .int .i64 o3] := ⟨_, _, _, rfl⟩
  rw [ho] at h4 k4
  have h5 := fun w => Band_c n fn fd w
  have k5 := fun w => RBand_c n fn fd w hn
  obtain ⟨t1, t2, t3, t4, t5, ht⟩ : ∃ t1 t2 t3 t4 t5 : Int, baV n fn fd = .tuple #[.agg #[.int .i64 t1, .int .i64 t2, .int .i64 t3, .int .i64 t4], .int .i64 t5] := ⟨_, _, _, _, _, rfl⟩
  rw [ht] at h5 k5
  have h6 := fun w => Move_c b0 b1 b2 b3 p q c0 c1 c2 c3 above w
  have k6 := fun w => RMove_c b0 b1 b2 b3 p q c0 c1 c2 c3 above w
  obtain ⟨m1, m2, m3, m4, m5, hm⟩ : ∃ m1 m2 m3 m4 m5 : Int, mvV b0 b1 b2 b3 p q c0 c1 c2 c3 above = .tuple #[.agg #[.int .i64 m1, .int .i64 m2, .int .i64 m3, .int .i64 m4], .int .i64 m5] := ⟨_, _, _, _, _, rfl⟩
  rw [hm] at h6 k6
  have H7 := Lib.hid (fun w => Hertz_c fn fd x0 x1 x2 x3 x4 x5 n w)
  have K7 := Lib.hid (fun w => RHertz_c fn fd x0 x1 x2 x3 x4 x5 n w)
  have H1 := Lib.hid h1
  have K1 := Lib.hid k1
  have H2 := Lib.hid h2
  have K2 := Lib.hid k2
  have H3 := Lib.hid h3
  have K3 := Lib.hid k3
  have H4 := Lib.hid h4
  have K4 := Lib.hid k4
  have H5 := Lib.hid h5
  have K5 := Lib.hid k5
  have H6 := Lib.hid h6
  have K6 := Lib.hid k6
  clear h1 h2 h3 h4 h5 h6 k1 k2 k3 k4 k5 k6 hr hs hp ho ht hm hn
  go_enter Try.func3, Try.ntmps3
  go_wp2_with fail
  ((with_reducible refine (HH.out _).mono ?_); rintro e u0 ⟨rfl, d0⟩)
  obtain ⟨hz0, hc0, hf0⟩ := bcl d0 (by first | (simp; rfl) | rfl)
  have z0_0 : w.heap.size < u0.heap.size := by omega
  have z0_1 : w.heap.size + 1 < u0.heap.size := by omega
  have z0_2 : w.heap.size + 1 + 1 < u0.heap.size := by omega
  have z0_3 : w.heap.size + 1 + 1 + 1 < u0.heap.size := by omega
  have z0_4 : w.heap.size + 1 + 1 + 1 + 1 < u0.heap.size := by omega
  have z0_5 : w.heap.size + 1 + 1 + 1 + 1 + 1 < u0.heap.size := by omega
  go_wp2_with fail
  refine calls_letter ?_
  intro W1 hW1
  have k1 : Below w.heap.size w W1 := by
    rw [hW1]
    (repeat (first | (with_reducible assumption) | (with_reducible exact bl_refl _) | (with_reducible refine bl_alloc ?_ _) | (with_reducible refine bl_set' ?_ ?_; · (dsimp only; first | assumption | exact Nat.le_refl _ | omega)) | (with_reducible refine bl_last (by assumption) ?_)))
  have F1 : Blk W1 (w.heap.size) 23 #[.int .i64 fn, .int .i64 fd] := by
    rw [hW1]
    (repeat (first | (with_reducible assumption) | (with_reducible apply Blk.new) | (with_reducible exact blkAt _ _ _ _ (by simp; done)) | (with_reducible apply blk_st2) | (with_reducible apply blk_st4) | (with_reducible apply blk_st6) | (with_reducible apply blk_far (hne := by first | (with_reducible assumption) | omega)) | (with_reducible apply blk_up (hb := by assumption)) | (with_reducible apply Blk.alloc)))
  have G1 : Blk W1 (w.heap.size + 1) 23 #[.int .i64 gn, .int .i64 gd] := by
    rw [hW1]
    (repeat (first | (with_reducible assumption) | (with_reducible apply Blk.new) | (with_reducible exact blkAt _ _ _ _ (by simp; done)) | (with_reducible apply blk_st2) | (with_reducible apply blk_st4) | (with_reducible apply blk_st6) | (with_reducible apply blk_far (hne := by first | (with_reducible assumption) | omega)) | (with_reducible apply blk_up (hb := by assumption)) | (with_reducible apply Blk.alloc)))
  have V1 : Blk W1 (w.heap.size + 1 + 1) 25 #[.int .i64 v0, .int .i64 v1, .int .i64 v2, .int .i64 v3, .int .i64 v4, .int .i64 v5] := by
    rw [hW1]
    (repeat (first | (with_reducible assumption) | (with_reducible apply Blk.new) | (with_reducible exact blkAt _ _ _ _ (by simp; done)) | (with_reducible apply blk_st2) | (with_reducible apply blk_st4) | (with_reducible apply blk_st6) | (with_reducible apply blk_far (hne := by first | (with_reducible assumption) | omega)) | (with_reducible apply blk_up (hb := by assumption)) | (with_reducible apply Blk.alloc)))
  have B1 : Blk W1 (w.heap.size + 1 + 1 + 1) 27 #[.int .i64 b0, .int .i64 b1, .int .i64 b2, .int .i64 b3] := by
    rw [hW1]
    (repeat (first | (with_reducible assumption) | (with_reducible apply Blk.new) | (with_reducible exact blkAt _ _ _ _ (by simp; done)) | (with_reducible apply blk_st2) | (with_reducible apply blk_st4) | (with_reducible apply blk_st6) | (with_reducible apply blk_far (hne := by first | (with_reducible assumption) | omega)) | (with_reducible apply blk_up (hb := by assumption)) | (with_reducible apply Blk.alloc)))
  have C1 : Blk W1 (w.heap.size + 1 + 1 + 1 + 1) 27 #[.int .i64 c0, .int .i64 c1, .int .i64 c2, .int .i64 c3] := by
    rw [hW1]
    (repeat (first | (with_reducible assumption) | (with_reducible apply Blk.new) | (with_reducible exact blkAt _ _ _ _ (by simp; done)) | (with_reducible apply blk_st2) | (with_reducible apply blk_st4) | (with_reducible apply blk_st6) | (with_reducible apply blk_far (hne := by first | (with_reducible assumption) | omega)) | (with_reducible apply blk_up (hb := by assumption)) | (with_reducible apply Blk.alloc)))
  have X1 : Blk W1 (w.heap.size + 1 + 1 + 1 + 1 + 1) 28 #[.int .i64 x0, .int .i64 x1, .int .i64 x2, .int .i64 x3, .int .i64 x4, .int .i64 x5] := by
    rw [hW1]
    (repeat (first | (with_reducible assumption) | (with_reducible apply Blk.new) | (with_reducible exact blkAt _ _ _ _ (by simp; done)) | (with_reducible apply blk_st2) | (with_reducible apply blk_st4) | (with_reducible apply blk_st6) | (with_reducible apply blk_far (hne := by first | (with_reducible assumption) | omega)) | (with_reducible apply blk_up (hb := by assumption)) | (with_reducible apply Blk.alloc)))
  clear hW1
  clear hz0 hc0 hf0 d0 z0_0 z0_1 z0_2 z0_3 z0_4 z0_5
  have zF1 := F1.lt
  have zG1 := G1.lt
  have zV1 := V1.lt
  have zB1 := B1.lt
  have zC1 := C1.lt
  have zX1 := X1.lt
  have cF1_0 := F1.cell 0
  have cF1_1 := F1.cell 1
  simp only [List.getElem?_toArray, List.getElem?_cons_zero, List.getElem?_cons_succ] at cF1_0 cF1_1
  have cG1_0 := G1.cell 0
  have cG1_1 := G1.cell 1
  simp only [List.getElem?_toArray, List.getElem?_cons_zero, List.getElem?_cons_succ] at cG1_0 cG1_1
  ((with_reducible refine (H1.out _).mono ?_); rintro e uA1 ⟨rfl, dA1⟩)
  obtain ⟨hzA1, hcA1, hfA1⟩ := bcl dA1 (by first | (simp; rfl) | rfl)
  have qAF1 : w.heap.size < uA1.heap.size := by omega
  have lAF1 : w.heap.size ≤ uA1.heap.size := by omega
  have qAG1 : w.heap.size + 1 < uA1.heap.size := by omega
  have lAG1 : w.heap.size + 1 ≤ uA1.heap.size := by omega
  have qAV1 : w.heap.size + 1 + 1 < uA1.heap.size := by omega
  have lAV1 : w.heap.size + 1 + 1 ≤ uA1.heap.size := by omega
  have qAB1 : w.heap.size + 1 + 1 + 1 < uA1.heap.size := by omega
  have lAB1 : w.heap.size + 1 + 1 + 1 ≤ uA1.heap.size := by omega
  have qAC1 : w.heap.size + 1 + 1 + 1 + 1 < uA1.heap.size := by omega
  have lAC1 : w.heap.size + 1 + 1 + 1 + 1 ≤ uA1.heap.size := by omega
  have qAX1 : w.heap.size + 1 + 1 + 1 + 1 + 1 < uA1.heap.size := by omega
  have lAX1 : w.heap.size + 1 + 1 + 1 + 1 + 1 ≤ uA1.heap.size := by omega
  go_wp2_with fail
  ((with_reducible refine (K1.out _).mono ?_); rintro e uB1 ⟨rfl, dB1⟩)
  obtain ⟨hzB1, hcB1, hfB1⟩ := bcl dB1 (by first | (simp; rfl) | rfl)
  have qBF1 : w.heap.size < uB1.heap.size := by omega
  have lBF1 : w.heap.size ≤ uB1.heap.size := by omega
  have qBG1 : w.heap.size + 1 < uB1.heap.size := by omega
  have lBG1 : w.heap.size + 1 ≤ uB1.heap.size := by omega
  have qBV1 : w.heap.size + 1 + 1 < uB1.heap.size := by omega
  have lBV1 : w.heap.size + 1 + 1 ≤ uB1.heap.size := by omega
  have qBB1 : w.heap.size + 1 + 1 + 1 < uB1.heap.size := by omega
  have lBB1 : w.heap.size + 1 + 1 + 1 ≤ uB1.heap.size := by omega
  have qBC1 : w.heap.size + 1 + 1 + 1 + 1 < uB1.heap.size := by omega
  have lBC1 : w.heap.size + 1 + 1 + 1 + 1 ≤ uB1.heap.size := by omega
  have qBX1 : w.heap.size + 1 + 1 + 1 + 1 + 1 < uB1.heap.size := by omega
  have lBX1 : w.heap.size + 1 + 1 + 1 + 1 + 1 ≤ uB1.heap.size := by omega
  have qq1 : uA1.heap.size < uB1.heap.size := by first | omega | (simp at hzB1; omega)
  have oR : w.heap.size ≤ uA1.heap.size := by omega
  have oS : w.heap.size ≤ uB1.heap.size := by omega
  have nFR : w.heap.size ≠ uA1.heap.size := by omega
  have mFR : uA1.heap.size ≠ w.heap.size := by omega
  have nFS : w.heap.size ≠ uB1.heap.size := by omega
  have mFS : uB1.heap.size ≠ w.heap.size := by omega
  have nGR : w.heap.size + 1 ≠ uA1.heap.size := by omega
  have mGR : uA1.heap.size ≠ w.heap.size + 1 := by omega
  have nGS : w.heap.size + 1 ≠ uB1.heap.size := by omega
  have mGS : uB1.heap.size ≠ w.heap.size + 1 := by omega
  have nVR : w.heap.size + 1 + 1 ≠ uA1.heap.size := by omega
  have mVR : uA1.heap.size ≠ w.heap.size + 1 + 1 := by omega
  have nVS : w.heap.size + 1 + 1 ≠ uB1.heap.size := by omega
  have mVS : uB1.heap.size ≠ w.heap.size + 1 + 1 := by omega
  have nBR : w.heap.size + 1 + 1 + 1 ≠ uA1.heap.size := by omega
  have mBR : uA1.heap.size ≠ w.heap.size + 1 + 1 + 1 := by omega
  have nBS : w.heap.size + 1 + 1 + 1 ≠ uB1.heap.size := by omega
  have mBS : uB1.heap.size ≠ w.heap.size + 1 + 1 + 1 := by omega
  have nCR : w.heap.size + 1 + 1 + 1 + 1 ≠ uA1.heap.size := by omega
  have mCR : uA1.heap.size ≠ w.heap.size + 1 + 1 + 1 + 1 := by omega
  have nCS : w.heap.size + 1 + 1 + 1 + 1 ≠ uB1.heap.size := by omega
  have mCS : uB1.heap.size ≠ w.heap.size + 1 + 1 + 1 + 1 := by omega
  have nXR : w.heap.size + 1 + 1 + 1 + 1 + 1 ≠ uA1.heap.size := by omega
  have mXR : uA1.heap.size ≠ w.heap.size + 1 + 1 + 1 + 1 + 1 := by omega
  have nXS : w.heap.size + 1 + 1 + 1 + 1 + 1 ≠ uB1.heap.size := by omega
  have mXS : uB1.heap.size ≠ w.heap.size + 1 + 1 + 1 + 1 + 1 := by omega
  have nRS : uA1.heap.size ≠ uB1.heap.size := by omega
  have mRS : uB1.heap.size ≠ uA1.heap.size := by omega
  go_wp2_with fail
  refine calls_letter ?_
  intro W2 hW2
  have k2 : Below w.heap.size w W2 := by
    rw [hW2]
    (repeat (first | (with_reducible assumption) | (with_reducible exact bl_refl _) | (with_reducible refine bl_alloc ?_ _) | (with_reducible refine bl_set' ?_ ?_; · (dsimp only; first | assumption | exact Nat.le_refl _ | omega)) | (with_reducible refine bl_last (by assumption) ?_)))
  have F2 : Blk W2 (w.heap.size) 23 #[.int .i64 fn, .int .i64 fd] := by
    rw [hW2]
    (repeat (first | (with_reducible assumption) | (with_reducible apply Blk.new) | (with_reducible exact blkAt _ _ _ _ (by simp; done)) | (with_reducible apply blk_st2) | (with_reducible apply blk_st4) | (with_reducible apply blk_st6) | (with_reducible apply blk_far (hne := by first | (with_reducible assumption) | omega)) | (with_reducible apply blk_up (hb := by assumption)) | (with_reducible apply Blk.alloc)))
  have G2 : Blk W2 (w.heap.size + 1) 23 #[.int .i64 gn, .int .i64 gd] := by
    rw [hW2]
    (repeat (first | (with_reducible assumption) | (with_reducible apply Blk.new) | (with_reducible exact blkAt _ _ _ _ (by simp; done)) | (with_reducible apply blk_st2) | (with_reducible apply blk_st4) | (with_reducible apply blk_st6) | (with_reducible apply blk_far (hne := by first | (with_reducible assumption) | omega)) | (with_reducible apply blk_up (hb := by assumption)) | (with_reducible apply Blk.alloc)))
  have V2 : Blk W2 (w.heap.size + 1 + 1) 25 #[.int .i64 v0, .int .i64 v1, .int .i64 v2, .int .i64 v3, .int .i64 v4, .int .i64 v5] := by
    rw [hW2]
    (repeat (first | (with_reducible assumption) | (with_reducible apply Blk.new) | (with_reducible exact blkAt _ _ _ _ (by simp; done)) | (with_reducible apply blk_st2) | (with_reducible apply blk_st4) | (with_reducible apply blk_st6) | (with_reducible apply blk_far (hne := by first | (with_reducible assumption) | omega)) | (with_reducible apply blk_up (hb := by assumption)) | (with_reducible apply Blk.alloc)))
  have B2 : Blk W2 (w.heap.size + 1 + 1 + 1) 27 #[.int .i64 b0, .int .i64 b1, .int .i64 b2, .int .i64 b3] := by
    rw [hW2]
    (repeat (first | (with_reducible assumption) | (with_reducible apply Blk.new) | (with_reducible exact blkAt _ _ _ _ (by simp; done)) | (with_reducible apply blk_st2) | (with_reducible apply blk_st4) | (with_reducible apply blk_st6) | (with_reducible apply blk_far (hne := by first | (with_reducible assumption) | omega)) | (with_reducible apply blk_up (hb := by assumption)) | (with_reducible apply Blk.alloc)))
  have C2 : Blk W2 (w.heap.size + 1 + 1 + 1 + 1) 27 #[.int .i64 c0, .int .i64 c1, .int .i64 c2, .int .i64 c3] := by
    rw [hW2]
    (repeat (first | (with_reducible assumption) | (with_reducible apply Blk.new) | (with_reducible exact blkAt _ _ _ _ (by simp; done)) | (with_reducible apply blk_st2) | (with_reducible apply blk_st4) | (with_reducible apply blk_st6) | (with_reducible apply blk_far (hne := by first | (with_reducible assumption) | omega)) | (with_reducible apply blk_up (hb := by assumption)) | (with_reducible apply Blk.alloc)))
  have X2 : Blk W2 (w.heap.size + 1 + 1 + 1 + 1 + 1) 28 #[.int .i64 x0, .int .i64 x1, .int .i64 x2, .int .i64 x3, .int .i64 x4, .int .i64 x5] := by
    rw [hW2]
    (repeat (first | (with_reducible assumption) | (with_reducible apply Blk.new) | (with_reducible exact blkAt _ _ _ _ (by simp; done)) | (with_reducible apply blk_st2) | (with_reducible apply blk_st4) | (with_reducible apply blk_st6) | (with_reducible apply blk_far (hne := by first | (with_reducible assumption) | omega)) | (with_reducible apply blk_up (hb := by assumption)) | (with_reducible apply Blk.alloc)))
  have R2 : Blk W2 (uA1.heap.size) 23 #[.int .i64 r1, .int .i64 r2] := by
    rw [hW2]
    (repeat (first | (with_reducible assumption) | (with_reducible apply Blk.new) | (with_reducible exact blkAt _ _ _ _ (by simp; done)) | (with_reducible apply blk_st2) | (with_reducible apply blk_st4) | (with_reducible apply blk_st6) | (with_reducible apply blk_far (hne := by first | (with_reducible assumption) | omega)) | (with_reducible apply blk_up (hb := by assumption)) | (with_reducible apply Blk.alloc)))
  have S2 : Blk W2 (uB1.heap.size) 23 #[.int .i64 r1, .int .i64 r2] := by
    rw [hW2]
    (repeat (first | (with_reducible assumption) | (with_reducible apply Blk.new) | (with_reducible exact blkAt _ _ _ _ (by simp; done)) | (with_reducible apply blk_st2) | (with_reducible apply blk_st4) | (with_reducible apply blk_st6) | (with_reducible apply blk_far (hne := by first | (with_reducible assumption) | omega)) | (with_reducible apply blk_up (hb := by assumption)) | (with_reducible apply Blk.alloc)))
  clear hW2
  clear k1 hzA1 hcA1 hfA1 dA1 hzB1 hcB1 hfB1 dB1 F1 zF1 G1 zG1 V1 zV1 B1 zB1 C1 zC1 X1 zX1
  try clear cF1_0 cF1_1 cG1_0 cG1_1
  try clear qAF1 lAF1 qAG1 lAG1 qAV1 lAV1 qAB1 lAB1 qAC1 lAC1 qAX1 lAX1 qBF1 lBF1 qBG1 lBG1 qBV1 lBV1 qBB1 lBB1 qBC1 lBC1 qBX1 lBX1
  have zF2 := F2.lt
  have zG2 := G2.lt
  have zV2 := V2.lt
  have zB2 := B2.lt
  have zC2 := C2.lt
  have zX2 := X2.lt
  have zR2 := R2.lt
  have zS2 := S2.lt
  have cF2_0 := F2.cell 0
  have cF2_1 := F2.cell 1
  simp only [List.getElem?_toArray, List.getElem?_cons_zero, List.getElem?_cons_succ] at cF2_0 cF2_1
  have cG2_0 := G2.cell 0
  have cG2_1 := G2.cell 1
  simp only [List.getElem?_toArray, List.getElem?_cons_zero, List.getElem?_cons_succ] at cG2_0 cG2_1
  have cV2_0 := V2.cell 0
  have cV2_1 := V2.cell 1
  have cV2_2 := V2.cell 2
  have cV2_3 := V2.cell 3
  have cV2_4 := V2.cell 4
  have cV2_5 := V2.cell 5
  simp only [List.getElem?_toArray, List.getElem?_cons_zero, List.getElem?_cons_succ] at cV2_0 cV2_1 cV2_2 cV2_3 cV2_4 cV2_5
  have cR2_0 := R2.cell 0
  have cR2_1 := R2.cell 1
  simp only [List.getElem?_toArray, List.getElem?_cons_zero, List.getElem?_cons_succ] at cR2_0 cR2_1
  have fR2_0 := R2.frozen 0
  have fR2_1 := R2.frozen 1
  have cS2_0 := S2.cell 0
  have cS2_1 := S2.cell 1
  simp only [List.getElem?_toArray, List.getElem?_cons_zero, List.getElem?_cons_succ] at cS2_0 cS2_1
  have fS2_0 := S2.frozen 0
  have fS2_1 := S2.frozen 1
  ((with_reducible refine (H2.out _).mono ?_); rintro e uA2 ⟨rfl, dA2⟩)
  obtain ⟨hzA2, hcA2, hfA2⟩ := bcl dA2 (by first | (simp; rfl) | rfl)
  have qAF2 : w.heap.size < uA2.heap.size := by omega
  have lAF2 : w.heap.size ≤ uA2.heap.size := by omega
  have qAG2 : w.heap.size + 1 < uA2.heap.size := by omega
  have lAG2 : w.heap.size + 1 ≤ uA2.heap.size := by omega
  have qAV2 : w.heap.size + 1 + 1 < uA2.heap.size := by omega
  have lAV2 : w.heap.size + 1 + 1 ≤ uA2.heap.size := by omega
  have qAB2 : w.heap.size + 1 + 1 + 1 < uA2.heap.size := by omega
  have lAB2 : w.heap.size + 1 + 1 + 1 ≤ uA2.heap.size := by omega
  have qAC2 : w.heap.size + 1 + 1 + 1 + 1 < uA2.heap.size := by omega
  have lAC2 : w.heap.size + 1 + 1 + 1 + 1 ≤ uA2.heap.size := by omega
  have qAX2 : w.heap.size + 1 + 1 + 1 + 1 + 1 < uA2.heap.size := by omega
  have lAX2 : w.heap.size + 1 + 1 + 1 + 1 + 1 ≤ uA2.heap.size := by omega
  have qAR2 : uA1.heap.size < uA2.heap.size := by omega
  have lAR2 : uA1.heap.size ≤ uA2.heap.size := by omega
  have qAS2 : uB1.heap.size < uA2.heap.size := by omega
  have lAS2 : uB1.heap.size ≤ uA2.heap.size := by omega
  go_wp2_with fail
  ((with_reducible refine (K2.out _).mono ?_); rintro e uB2 ⟨rfl, dB2⟩)
  obtain ⟨hzB2, hcB2, hfB2⟩ := bcl dB2 (by first | (simp; rfl) | rfl)
  have qBF2 : w.heap.size < uB2.heap.size := by omega
  have lBF2 : w.heap.size ≤ uB2.heap.size := by omega
  have qBG2 : w.heap.size + 1 < uB2.heap.size := by omega
  have lBG2 : w.heap.size + 1 ≤ uB2.heap.size := by omega
  have qBV2 : w.heap.size + 1 + 1 < uB2.heap.size := by omega
  have lBV2 : w.heap.size + 1 + 1 ≤ uB2.heap.size := by omega
  have qBB2 : w.heap.size + 1 + 1 + 1 < uB2.heap.size := by omega
  have lBB2 : w.heap.size + 1 + 1 + 1 ≤ uB2.heap.size := by omega
  have qBC2 : w.heap.size + 1 + 1 + 1 + 1 < uB2.heap.size := by omega
  have lBC2 : w.heap.size + 1 + 1 + 1 + 1 ≤ uB2.heap.size := by omega
  have qBX2 : w.heap.size + 1 + 1 + 1 + 1 + 1 < uB2.heap.size := by omega
  have lBX2 : w.heap.size + 1 + 1 + 1 + 1 + 1 ≤ uB2.heap.size := by omega
  have qBR2 : uA1.heap.size < uB2.heap.size := by omega
  have lBR2 : uA1.heap.size ≤ uB2.heap.size := by omega
  have qBS2 : uB1.heap.size < uB2.heap.size := by omega
  have lBS2 : uB1.heap.size ≤ uB2.heap.size := by omega
  go_wp2_with fail
  refine calls_letter ?_
  intro W3 hW3
  have k3 : Below w.heap.size w W3 := by
    rw [hW3]
    (repeat (first | (with_reducible assumption) | (with_reducible exact bl_refl _) | (with_reducible refine bl_alloc ?_ _) | (with_reducible refine bl_set' ?_ ?_; · (dsimp only; first | assumption | exact Nat.le_refl _ | omega)) | (with_reducible refine bl_last (by assumption) ?_)))
  have F3 : Blk W3 (w.heap.size) 23 #[.int .i64 fn, .int .i64 fd] := by
    rw [hW3]
    (repeat (first | (with_reducible assumption) | (with_reducible apply Blk.new) | (with_reducible exact blkAt _ _ _ _ (by simp; done)) | (with_reducible apply blk_st2) | (with_reducible apply blk_st4) | (with_reducible apply blk_st6) | (with_reducible apply blk_far (hne := by first | (with_reducible assumption) | omega)) | (with_reducible apply blk_up (hb := by assumption)) | (with_reducible apply Blk.alloc)))
  have G3 : Blk W3 (w.heap.size + 1) 23 #[.int .i64 gn, .int .i64 gd] := by
    rw [hW3]
    (repeat (first | (with_reducible assumption) | (with_reducible apply Blk.new) | (with_reducible exact blkAt _ _ _ _ (by simp; done)) | (with_reducible apply blk_st2) | (with_reducible apply blk_st4) | (with_reducible apply blk_st6) | (with_reducible apply blk_far (hne := by first | (with_reducible assumption) | omega)) | (with_reducible apply blk_up (hb := by assumption)) | (with_reducible apply Blk.alloc)))
  have V3 : Blk W3 (w.heap.size + 1 + 1) 25 #[.int .i64 v0, .int .i64 v1, .int .i64 v2, .int .i64 v3, .int .i64 v4, .int .i64 v5] := by
    rw [hW3]
    (repeat (first | (with_reducible assumption) | (with_reducible apply Blk.new) | (with_reducible exact blkAt _ _ _ _ (by simp; done)) | (with_reducible apply blk_st2) | (with_reducible apply blk_st4) | (with_reducible apply blk_st6) | (with_reducible apply blk_far (hne := by first | (with_reducible assumption) | omega)) | (with_reducible apply blk_up (hb := by assumption)) | (with_reducible apply Blk.alloc)))
  have B3 : Blk W3 (w.heap.size + 1 + 1 + 1) 27 #[.int .i64 b0, .int .i64 b1, .int .i64 b2, .int .i64 b3] := by
    rw [hW3]
    (repeat (first | (with_reducible assumption) | (with_reducible apply Blk.new) | (with_reducible exact blkAt _ _ _ _ (by simp; done)) | (with_reducible apply blk_st2) | (with_reducible apply blk_st4) | (with_reducible apply blk_st6) | (with_reducible apply blk_far (hne := by first | (with_reducible assumption) | omega)) | (with_reducible apply blk_up (hb := by assumption)) | (with_reducible apply Blk.alloc)))
  have C3 : Blk W3 (w.heap.size + 1 + 1 + 1 + 1) 27 #[.int .i64 c0, .int .i64 c1, .int .i64 c2, .int .i64 c3] := by
    rw [hW3]
    (repeat (first | (with_reducible assumption) | (with_reducible apply Blk.new) | (with_reducible exact blkAt _ _ _ _ (by simp; done)) | (with_reducible apply blk_st2) | (with_reducible apply blk_st4) | (with_reducible apply blk_st6) | (with_reducible apply blk_far (hne := by first | (with_reducible assumption) | omega)) | (with_reducible apply blk_up (hb := by assumption)) | (with_reducible apply Blk.alloc)))
  have X3 : Blk W3 (w.heap.size + 1 + 1 + 1 + 1 + 1) 28 #[.int .i64 x0, .int .i64 x1, .int .i64 x2, .int .i64 x3, .int .i64 x4, .int .i64 x5] := by
    rw [hW3]
    (repeat (first | (with_reducible assumption) | (with_reducible apply Blk.new) | (with_reducible exact blkAt _ _ _ _ (by simp; done)) | (with_reducible apply blk_st2) | (with_reducible apply blk_st4) | (with_reducible apply blk_st6) | (with_reducible apply blk_far (hne := by first | (with_reducible assumption) | omega)) | (with_reducible apply blk_up (hb := by assumption)) | (with_reducible apply Blk.alloc)))
  have R3 : Blk W3 (uA1.heap.size) 23 #[.int .i64 s1, .int .i64 s2] := by
    rw [hW3]
    (repeat (first | (with_reducible assumption) | (with_reducible apply Blk.new) | (with_reducible exact blkAt _ _ _ _ (by simp; done)) | (with_reducible apply blk_st2) | (with_reducible apply blk_st4) | (with_reducible apply blk_st6) | (with_reducible apply blk_far (hne := by first | (with_reducible assumption) | omega)) | (with_reducible apply blk_up (hb := by assumption)) | (with_reducible apply Blk.alloc)))
  have S3 : Blk W3 (uB1.heap.size) 23 #[.int .i64 s1, .int .i64 s2] := by
    rw [hW3]
    (repeat (first | (with_reducible assumption) | (with_reducible apply Blk.new) | (with_reducible exact blkAt _ _ _ _ (by simp; done)) | (with_reducible apply blk_st2) | (with_reducible apply blk_st4) | (with_reducible apply blk_st6) | (with_reducible apply blk_far (hne := by first | (with_reducible assumption) | omega)) | (with_reducible apply blk_up (hb := by assumption)) | (with_reducible apply Blk.alloc)))
  clear hW3
  clear k2 hzA2 hcA2 hfA2 dA2 hzB2 hcB2 hfB2 dB2 F2 zF2 G2 zG2 V2 zV2 B2 zB2 C2 zC2 X2 zX2 R2 zR2 S2 zS2
  try clear cF2_0 cF2_1 cG2_0 cG2_1 cV2_0 cV2_1 cV2_2 cV2_3 cV2_4 cV2_5 cR2_0 cR2_1 fR2_0 fR2_1 cS2_0 cS2_1 fS2_0 fS2_1
  try clear qAF2 lAF2 qAG2 lAG2 qAV2 lAV2 qAB2 lAB2 qAC2 lAC2 qAX2 lAX2 qAR2 lAR2 qAS2 lAS2 qBF2 lBF2 qBG2 lBG2 qBV2 lBV2 qBB2 lBB2 qBC2 lBC2 qBX2 lBX2 qBR2 lBR2 qBS2 lBS2
  have zF3 := F3.lt
  have zG3 := G3.lt
  have zV3 := V3.lt
  have zB3 := B3.lt
  have zC3 := C3.lt
  have zX3 := X3.lt
  have zR3 := R3.lt
  have zS3 := S3.lt
  have cV3_0 := V3.cell 0
  have cV3_1 := V3.cell 1
  have cV3_2 := V3.cell 2
  have cV3_3 := V3.cell 3
  have cV3_4 := V3.cell 4
  have cV3_5 := V3.cell 5
  simp only [List.getElem?_toArray, List.getElem?_cons_zero, List.getElem?_cons_succ] at cV3_0 cV3_1 cV3_2 cV3_3 cV3_4 cV3_5
  have cF3_0 := F3.cell 0
  have cF3_1 := F3.cell 1
  simp only [List.getElem?_toArray, List.getElem?_cons_zero, List.getElem?_cons_succ] at cF3_0 cF3_1
  have cG3_0 := G3.cell 0
  have cG3_1 := G3.cell 1
  simp only [List.getElem?_toArray, List.getElem?_cons_zero, List.getElem?_cons_succ] at cG3_0 cG3_1
  ((with_reducible refine (H3.out _).mono ?_); rintro e uA3 ⟨rfl, dA3⟩)
  obtain ⟨hzA3, hcA3, hfA3⟩ := bcl dA3 (by first | (simp; rfl) | rfl)
  have qAF3 : w.heap.size < uA3.heap.size := by omega
  have lAF3 : w.heap.size ≤ uA3.heap.size := by omega
  have qAG3 : w.heap.size + 1 < uA3.heap.size := by omega
  have lAG3 : w.heap.size + 1 ≤ uA3.heap.size := by omega
  have qAV3 : w.heap.size + 1 + 1 < uA3.heap.size := by omega
  have lAV3 : w.heap.size + 1 + 1 ≤ uA3.heap.size := by omega
  have qAB3 : w.heap.size + 1 + 1 + 1 < uA3.heap.size := by omega
  have lAB3 : w.heap.size + 1 + 1 + 1 ≤ uA3.heap.size := by omega
  have qAC3 : w.heap.size + 1 + 1 + 1 + 1 < uA3.heap.size := by omega
  have lAC3 : w.heap.size + 1 + 1 + 1 + 1 ≤ uA3.heap.size := by omega
  have qAX3 : w.heap.size + 1 + 1 + 1 + 1 + 1 < uA3.heap.size := by omega
  have lAX3 : w.heap.size + 1 + 1 + 1 + 1 + 1 ≤ uA3.heap.size := by omega
  have qAR3 : uA1.heap.size < uA3.heap.size := by omega
  have lAR3 : uA1.heap.size ≤ uA3.heap.size := by omega
  have qAS3 : uB1.heap.size < uA3.heap.size := by omega
  have lAS3 : uB1.heap.size ≤ uA3.heap.size := by omega
  go_wp2_with fail
  ((with_reducible refine (K3.out _).mono ?_); rintro e uB3 ⟨rfl, dB3⟩)
  obtain ⟨hzB3, hcB3, hfB3⟩ := bcl dB3 (by first | (simp; rfl) | rfl)
  have qBF3 : w.heap.size < uB3.heap.size := by omega
  have lBF3 : w.heap.size ≤ uB3.heap.size := by omega
  have qBG3 : w.heap.size + 1 < uB3.heap.size := by omega
  have lBG3 : w.heap.size + 1 ≤ uB3.heap.size := by omega
  have qBV3 : w.heap.size + 1 + 1 < uB3.heap.size := by omega
  have lBV3 : w.heap.size + 1 + 1 ≤ uB3.heap.size := by omega
  have qBB3 : w.heap.size + 1 + 1 + 1 < uB3.heap.size := by omega
  have lBB3 : w.heap.size + 1 + 1 + 1 ≤ uB3.heap.size := by omega
  have qBC3 : w.heap.size + 1 + 1 + 1 + 1 < uB3.heap.size := by omega
  have lBC3 : w.heap.size + 1 + 1 + 1 + 1 ≤ uB3.heap.size := by omega
  have qBX3 : w.heap.size + 1 + 1 + 1 + 1 + 1 < uB3.heap.size := by omega
  have lBX3 : w.heap.size + 1 + 1 + 1 + 1 + 1 ≤ uB3.heap.size := by omega
  have qBR3 : uA1.heap.size < uB3.heap.size := by omega
  have lBR3 : uA1.heap.size ≤ uB3.heap.size := by omega
  have qBS3 : uB1.heap.size < uB3.heap.size := by omega
  have lBS3 : uB1.heap.size ≤ uB3.heap.size := by omega
  go_wp2_with fail
  refine calls_letter ?_
  intro W4 hW4
  have k4 : Below w.heap.size w W4 := by
    rw [hW4]
    (repeat (first | (with_reducible assumption) | (with_reducible exact bl_refl _) | (with_reducible refine bl_alloc ?_ _) | (with_reducible refine bl_set' ?_ ?_; · (dsimp only; first | assumption | exact Nat.le_refl _ | omega)) | (with_reducible refine bl_last (by assumption) ?_)))
  have F4 : Blk W4 (w.heap.size) 23 #[.int .i64 fn, .int .i64 fd] := by
    rw [hW4]
    (repeat (first | (with_reducible assumption) | (with_reducible apply Blk.new) | (with_reducible exact blkAt _ _ _ _ (by simp; done)) | (with_reducible apply blk_st2) | (with_reducible apply blk_st4) | (with_reducible apply blk_st6) | (with_reducible apply blk_far (hne := by first | (with_reducible assumption) | omega)) | (with_reducible apply blk_up (hb := by assumption)) | (with_reducible apply Blk.alloc)))
  have G4 : Blk W4 (w.heap.size + 1) 23 #[.int .i64 gn, .int .i64 gd] := by
    rw [hW4]
    (repeat (first | (with_reducible assumption) | (with_reducible apply Blk.new) | (with_reducible exact blkAt _ _ _ _ (by simp; done)) | (with_reducible apply blk_st2) | (with_reducible apply blk_st4) | (with_reducible apply blk_st6) | (with_reducible apply blk_far (hne := by first | (with_reducible assumption) | omega)) | (with_reducible apply blk_up (hb := by assumption)) | (with_reducible apply Blk.alloc)))
  have V4 : Blk W4 (w.heap.size + 1 + 1) 25 #[.int .i64 v0, .int .i64 v1, .int .i64 v2, .int .i64 v3, .int .i64 v4, .int .i64 v5] := by
    rw [hW4]
    (repeat (first | (with_reducible assumption) | (with_reducible apply Blk.new) | (with_reducible exact blkAt _ _ _ _ (by simp; done)) | (with_reducible apply blk_st2) | (with_reducible apply blk_st4) | (with_reducible apply blk_st6) | (with_reducible apply blk_far (hne := by first | (with_reducible assumption) | omega)) | (with_reducible apply blk_up (hb := by assumption)) | (with_reducible apply Blk.alloc)))
  have B4 : Blk W4 (w.heap.size + 1 + 1 + 1) 27 #[.int .i64 b0, .int .i64 b1, .int .i64 b2, .int .i64 b3] := by
    rw [hW4]
    (repeat (first | (with_reducible assumption) | (with_reducible apply Blk.new) | (with_reducible exact blkAt _ _ _ _ (by simp; done)) | (with_reducible apply blk_st2) | (with_reducible apply blk_st4) | (with_reducible apply blk_st6) | (with_reducible apply blk_far (hne := by first | (with_reducible assumption) | omega)) | (with_reducible apply blk_up (hb := by assumption)) | (with_reducible apply Blk.alloc)))
  have C4 : Blk W4 (w.heap.size + 1 + 1 + 1 + 1) 27 #[.int .i64 c0, .int .i64 c1, .int .i64 c2, .int .i64 c3] := by
    rw [hW4]
    (repeat (first | (with_reducible assumption) | (with_reducible apply Blk.new) | (with_reducible exact blkAt _ _ _ _ (by simp; done)) | (with_reducible apply blk_st2) | (with_reducible apply blk_st4) | (with_reducible apply blk_st6) | (with_reducible apply blk_far (hne := by first | (with_reducible assumption) | omega)) | (with_reducible apply blk_up (hb := by assumption)) | (with_reducible apply Blk.alloc)))
  have X4 : Blk W4 (w.heap.size + 1 + 1 + 1 + 1 + 1) 28 #[.int .i64 x0, .int .i64 x1, .int .i64 x2, .int .i64 x3, .int .i64 x4, .int .i64 x5] := by
    rw [hW4]
    (repeat (first | (with_reducible assumption) | (with_reducible apply Blk.new) | (with_reducible exact blkAt _ _ _ _ (by simp; done)) | (with_reducible apply blk_st2) | (with_reducible apply blk_st4) | (with_reducible apply blk_st6) | (with_reducible apply blk_far (hne := by first | (with_reducible assumption) | omega)) | (with_reducible apply blk_up (hb := by assumption)) | (with_reducible apply Blk.alloc)))
  have R4 : Blk W4 (uA1.heap.size) 23 #[.int .i64 s1, .int .i64 s2] := by
    rw [hW4]
    (repeat (first | (with_reducible assumption) | (with_reducible apply Blk.new) | (with_reducible exact blkAt _ _ _ _ (by simp; done)) | (with_reducible apply blk_st2) | (with_reducible apply blk_st4) | (with_reducible apply blk_st6) | (with_reducible apply blk_far (hne := by first | (with_reducible assumption) | omega)) | (with_reducible apply blk_up (hb := by assumption)) | (with_reducible apply Blk.alloc)))
  have S4 : Blk W4 (uB1.heap.size) 23 #[.int .i64 s1, .int .i64 s2] := by
    rw [hW4]
    (repeat (first | (with_reducible assumption) | (with_reducible apply Blk.new) | (with_reducible exact blkAt _ _ _ _ (by simp; done)) | (with_reducible apply blk_st2) | (with_reducible apply blk_st4) | (with_reducible apply blk_st6) | (with_reducible apply blk_far (hne := by first | (with_reducible assumption) | omega)) | (with_reducible apply blk_up (hb := by assumption)) | (with_reducible apply Blk.alloc)))
  clear hW4
  clear k3 hzA3 hcA3 hfA3 dA3 hzB3 hcB3 hfB3 dB3 F3 zF3 G3 zG3 V3 zV3 B3 zB3 C3 zC3 X3 zX3 R3 zR3 S3 zS3
  try clear cV3_0 cV3_1 cV3_2 cV3_3 cV3_4 cV3_5 cF3_0 cF3_1 cG3_0 cG3_1
  try clear qAF3 lAF3 qAG3 lAG3 qAV3 lAV3 qAB3 lAB3 qAC3 lAC3 qAX3 lAX3 qAR3 lAR3 qAS3 lAS3 qBF3 lBF3 qBG3 lBG3 qBV3 lBV3 qBB3 lBB3 qBC3 lBC3 qBX3 lBX3 qBR3 lBR3 qBS3 lBS3
  have zF4 := F4.lt
  have zG4 := G4.lt
  have zV4 := V4.lt
  have zB4 := B4.lt
  have zC4 := C4.lt
  have zX4 := X4.lt
  have zR4 := R4.lt
  have zS4 := S4.lt
  have cF4_0 := F4.cell 0
  have cF4_1 := F4.cell 1
  simp only [List.getElem?_toArray, List.getElem?_cons_zero, List.getElem?_cons_succ] at cF4_0 cF4_1
  have cG4_0 := G4.cell 0
  have cG4_1 := G4.cell 1
  simp only [List.getElem?_toArray, List.getElem?_cons_zero, List.getElem?_cons_succ] at cG4_0 cG4_1
  ((with_reducible refine (H4.out _).mono ?_); rintro e uA4 ⟨rfl, dA4⟩)
  obtain ⟨hzA4, hcA4, hfA4⟩ := bcl dA4 (by first | (simp; rfl) | rfl)
  have qAF4 : w.heap.size < uA4.heap.size := by omega
  have lAF4 : w.heap.size ≤ uA4.heap.size := by omega
  have qAG4 : w.heap.size + 1 < uA4.heap.size := by omega
  have lAG4 : w.heap.size + 1 ≤ uA4.heap.size := by omega
  have qAV4 : w.heap.size + 1 + 1 < uA4.heap.size := by omega
  have lAV4 : w.heap.size + 1 + 1 ≤ uA4.heap.size := by omega
  have qAB4 : w.heap.size + 1 + 1 + 1 < uA4.heap.size := by omega
  have lAB4 : w.heap.size + 1 + 1 + 1 ≤ uA4.heap.size := by omega
  have qAC4 : w.heap.size + 1 + 1 + 1 + 1 < uA4.heap.size := by omega
  have lAC4 : w.heap.size + 1 + 1 + 1 + 1 ≤ uA4.heap.size := by omega
  have qAX4 : w.heap.size + 1 + 1 + 1 + 1 + 1 < uA4.heap.size := by omega
  have lAX4 : w.heap.size + 1 + 1 + 1 + 1 + 1 ≤ uA4.heap.size := by omega
  have qAR4 : uA1.heap.size < uA4.heap.size := by omega
  have lAR4 : uA1.heap.size ≤ uA4.heap.size := by omega
  have qAS4 : uB1.heap.size < uA4.heap.size := by omega
  have lAS4 : uB1.heap.size ≤ uA4.heap.size := by omega
  go_wp2_with fail
  ((with_reducible refine (K4.out _).mono ?_); rintro e uB4 ⟨rfl, dB4⟩)
  obtain ⟨hzB4, hcB4, hfB4⟩ := bcl dB4 (by first | (simp; rfl) | rfl)
  have qBF4 : w.heap.size < uB4.heap.size := by omega
  have lBF4 : w.heap.size ≤ uB4.heap.size := by omega
  have qBG4 : w.heap.size + 1 < uB4.heap.size := by omega
  have lBG4 : w.heap.size + 1 ≤ uB4.heap.size := by omega
  have qBV4 : w.heap.size + 1 + 1 < uB4.heap.size := by omega
  have lBV4 : w.heap.size + 1 + 1 ≤ uB4.heap.size := by omega
  have qBB4 : w.heap.size + 1 + 1 + 1 < uB4.heap.size := by omega
  have lBB4 : w.heap.size + 1 + 1 + 1 ≤ uB4.heap.size := by omega
  have qBC4 : w.heap.size + 1 + 1 + 1 + 1 < uB4.heap.size := by omega
  have lBC4 : w.heap.size + 1 + 1 + 1 + 1 ≤ uB4.heap.size := by omega
  have qBX4 : w.heap.size + 1 + 1 + 1 + 1 + 1 < uB4.heap.size := by omega
  have lBX4 : w.heap.size + 1 + 1 + 1 + 1 + 1 ≤ uB4.heap.size := by omega
  have qBR4 : uA1.heap.size < uB4.heap.size := by omega
  have lBR4 : uA1.heap.size ≤ uB4.heap.size := by omega
  have qBS4 : uB1.heap.size < uB4.heap.size := by omega
  have lBS4 : uB1.heap.size ≤ uB4.heap.size := by omega
  go_wp2_with fail
  refine calls_letter ?_
  intro W5 hW5
  have k5 : Below w.heap.size w W5 := by
    rw [hW5]
    (repeat (first | (with_reducible assumption) | (with_reducible exact bl_refl _) | (with_reducible refine bl_alloc ?_ _) | (with_reducible refine bl_set' ?_ ?_; · (dsimp only; first | assumption | exact Nat.le_refl _ | omega)) | (with_reducible refine bl_last (by assumption) ?_)))
  have F5 : Blk W5 (w.heap.size) 23 #[.int .i64 fn, .int .i64 fd] := by
    rw [hW5]
    (repeat (first | (with_reducible assumption) | (with_reducible apply Blk.new) | (with_reducible exact blkAt _ _ _ _ (by simp; done)) | (with_reducible apply blk_st2) | (with_reducible apply blk_st4) | (with_reducible apply blk_st6) | (with_reducible apply blk_far (hne := by first | (with_reducible assumption) | omega)) | (with_reducible apply blk_up (hb := by assumption)) | (with_reducible apply Blk.alloc)))
  have G5 : Blk W5 (w.heap.size + 1) 23 #[.int .i64 gn, .int .i64 gd] := by
    rw [hW5]
    (repeat (first | (with_reducible assumption) | (with_reducible apply Blk.new) | (with_reducible exact blkAt _ _ _ _ (by simp; done)) | (with_reducible apply blk_st2) | (with_reducible apply blk_st4) | (with_reducible apply blk_st6) | (with_reducible apply blk_far (hne := by first | (with_reducible assumption) | omega)) | (with_reducible apply blk_up (hb := by assumption)) | (with_reducible apply Blk.alloc)))
  have V5 : Blk W5 (w.heap.size + 1 + 1) 25 #[.int .i64 v0, .int .i64 v1, .int .i64 v2, .int .i64 v3, .int .i64 v4, .int .i64 v5] := by
    rw [hW5]
    (repeat (first | (with_reducible assumption) | (with_reducible apply Blk.new) | (with_reducible exact blkAt _ _ _ _ (by simp; done)) | (with_reducible apply blk_st2) | (with_reducible apply blk_st4) | (with_reducible apply blk_st6) | (with_reducible apply blk_far (hne := by first | (with_reducible assumption) | omega)) | (with_reducible apply blk_up (hb := by assumption)) | (with_reducible apply Blk.alloc)))
  have B5 : Blk W5 (w.heap.size + 1 + 1 + 1) 27 #[.int .i64 b0, .int .i64 b1, .int .i64 b2, .int .i64 b3] := by
    rw [hW5]
    (repeat (first | (with_reducible assumption) | (with_reducible apply Blk.new) | (with_reducible exact blkAt _ _ _ _ (by simp; done)) | (with_reducible apply blk_st2) | (with_reducible apply blk_st4) | (with_reducible apply blk_st6) | (with_reducible apply blk_far (hne := by first | (with_reducible assumption) | omega)) | (with_reducible apply blk_up (hb := by assumption)) | (with_reducible apply Blk.alloc)))
  have C5 : Blk W5 (w.heap.size + 1 + 1 + 1 + 1) 27 #[.int .i64 c0, .int .i64 c1, .int .i64 c2, .int .i64 c3] := by
    rw [hW5]
    (repeat (first | (with_reducible assumption) | (with_reducible apply Blk.new) | (with_reducible exact blkAt _ _ _ _ (by simp; done)) | (with_reducible apply blk_st2) | (with_reducible apply blk_st4) | (with_reducible apply blk_st6) | (with_reducible apply blk_far (hne := by first | (with_reducible assumption) | omega)) | (with_reducible apply blk_up (hb := by assumption)) | (with_reducible apply Blk.alloc)))
  have X5 : Blk W5 (w.heap.size + 1 + 1 + 1 + 1 + 1) 28 #[.int .i64 x0, .int .i64 x1, .int .i64 x2, .int .i64 x3, .int .i64 x4, .int .i64 x5] := by
    rw [hW5]
    (repeat (first | (with_reducible assumption) | (with_reducible apply Blk.new) | (with_reducible exact blkAt _ _ _ _ (by simp; done)) | (with_reducible apply blk_st2) | (with_reducible apply blk_st4) | (with_reducible apply blk_st6) | (with_reducible apply blk_far (hne := by first | (with_reducible assumption) | omega)) | (with_reducible apply blk_up (hb := by assumption)) | (with_reducible apply Blk.alloc)))
  have R5 : Blk W5 (uA1.heap.size) 23 #[.int .i64 s1, .int .i64 s2] := by
    rw [hW5]
    (repeat (first | (with_reducible assumption) | (with_reducible apply Blk.new) | (with_reducible exact blkAt _ _ _ _ (by simp; done)) | (with_reducible apply blk_st2) | (with_reducible apply blk_st4) | (with_reducible apply blk_st6) | (with_reducible apply blk_far (hne := by first | (with_reducible assumption) | omega)) | (with_reducible apply blk_up (hb := by assumption)) | (with_reducible apply Blk.alloc)))
  have S5 : Blk W5 (uB1.heap.size) 23 #[.int .i64 s1, .int .i64 s2] := by
    rw [hW5]
    (repeat (first | (with_reducible assumption) | (with_reducible apply Blk.new) | (with_reducible exact blkAt _ _ _ _ (by simp; done)) | (with_reducible apply blk_st2) | (with_reducible apply blk_st4) | (with_reducible apply blk_st6) | (with_reducible apply blk_far (hne := by first | (with_reducible assumption) | omega)) | (with_reducible apply blk_up (hb := by assumption)) | (with_reducible apply Blk.alloc)))
  clear hW5
  clear k4 hzA4 hcA4 hfA4 dA4 hzB4 hcB4 hfB4 dB4 F4 zF4 G4 zG4 V4 zV4 B4 zB4 C4 zC4 X4 zX4 R4 zR4 S4 zS4
  try clear cF4_0 cF4_1 cG4_0 cG4_1
  try clear qAF4 lAF4 qAG4 lAG4 qAV4 lAV4 qAB4 lAB4 qAC4 lAC4 qAX4 lAX4 qAR4 lAR4 qAS4 lAS4 qBF4 lBF4 qBG4 lBG4 qBV4 lBV4 qBB4 lBB4 qBC4 lBC4 qBX4 lBX4 qBR4 lBR4 qBS4 lBS4
  have zF5 := F5.lt
  have zG5 := G5.lt
  have zV5 := V5.lt
  have zB5 := B5.lt
  have zC5 := C5.lt
  have zX5 := X5.lt
  have zR5 := R5.lt
  have zS5 := S5.lt
  have cF5_0 := F5.cell 0
  have cF5_1 := F5.cell 1
  simp only [List.getElem?_toArray, List.getElem?_cons_zero, List.getElem?_cons_succ] at cF5_0 cF5_1
  have cB5_0 := B5.cell 0
  have cB5_1 := B5.cell 1
  have cB5_2 := B5.cell 2
  have cB5_3 := B5.cell 3
  simp only [List.getElem?_toArray, List.getElem?_cons_zero, List.getElem?_cons_succ] at cB5_0 cB5_1 cB5_2 cB5_3
  have cC5_0 := C5.cell 0
  have cC5_1 := C5.cell 1
  have cC5_2 := C5.cell 2
  have cC5_3 := C5.cell 3
  simp only [List.getElem?_toArray, List.getElem?_cons_zero, List.getElem?_cons_succ] at cC5_0 cC5_1 cC5_2 cC5_3
  ((with_reducible refine (H5.out _).mono ?_); rintro e uA5 ⟨rfl, dA5⟩)
  obtain ⟨hzA5, hcA5, hfA5⟩ := bcl dA5 (by first | (simp; rfl) | rfl)
  have qAF5 : w.heap.size < uA5.heap.size := by omega
  have lAF5 : w.heap.size ≤ uA5.heap.size := by omega
  have qAG5 : w.heap.size + 1 < uA5.heap.size := by omega
  have lAG5 : w.heap.size + 1 ≤ uA5.heap.size := by omega
  have qAV5 : w.heap.size + 1 + 1 < uA5.heap.size := by omega
  have lAV5 : w.heap.size + 1 + 1 ≤ uA5.heap.size := by omega
  have qAB5 : w.heap.size + 1 + 1 + 1 < uA5.heap.size := by omega
  have lAB5 : w.heap.size + 1 + 1 + 1 ≤ uA5.heap.size := by omega
  have qAC5 : w.heap.size + 1 + 1 + 1 + 1 < uA5.heap.size := by omega
  have lAC5 : w.heap.size + 1 + 1 + 1 + 1 ≤ uA5.heap.size := by omega
  have qAX5 : w.heap.size + 1 + 1 + 1 + 1 + 1 < uA5.heap.size := by omega
  have lAX5 : w.heap.size + 1 + 1 + 1 + 1 + 1 ≤ uA5.heap.size := by omega
  have qAR5 : uA1.heap.size < uA5.heap.size := by omega
  have lAR5 : uA1.heap.size ≤ uA5.heap.size := by omega
  have qAS5 : uB1.heap.size < uA5.heap.size := by omega
  have lAS5 : uB1.heap.size ≤ uA5.heap.size := by omega
  go_wp2_with fail
  ((with_reducible refine (K5.out _).mono ?_); rintro e uB5 ⟨rfl, dB5⟩)
  obtain ⟨hzB5, hcB5, hfB5⟩ := bcl dB5 (by first | (simp; rfl) | rfl)
  have qBF5 : w.heap.size < uB5.heap.size := by omega
  have lBF5 : w.heap.size ≤ uB5.heap.size := by omega
  have qBG5 : w.heap.size + 1 < uB5.heap.size := by omega
  have lBG5 : w.heap.size + 1 ≤ uB5.heap.size := by omega
  have qBV5 : w.heap.size + 1 + 1 < uB5.heap.size := by omega
  have lBV5 : w.heap.size + 1 + 1 ≤ uB5.heap.size := by omega
  have qBB5 : w.heap.size + 1 + 1 + 1 < uB5.heap.size := by omega
  have lBB5 : w.heap.size + 1 + 1 + 1 ≤ uB5.heap.size := by omega
  have qBC5 : w.heap.size + 1 + 1 + 1 + 1 < uB5.heap.size := by omega
  have lBC5 : w.heap.size + 1 + 1 + 1 + 1 ≤ uB5.heap.size := by omega
  have qBX5 : w.heap.size + 1 + 1 + 1 + 1 + 1 < uB5.heap.size := by omega
  have lBX5 : w.heap.size + 1 + 1 + 1 + 1 + 1 ≤ uB5.heap.size := by omega
  have qBR5 : uA1.heap.size < uB5.heap.size := by omega
  have lBR5 : uA1.heap.size ≤ uB5.heap.size := by omega
  have qBS5 : uB1.heap.size < uB5.heap.size := by omega
  have lBS5 : uB1.heap.size ≤ uB5.heap.size := by omega
  have qq5 : uA5.heap.size < uB5.heap.size := by first | omega | (simp at hzB5; omega)
  have oT : w.heap.size ≤ uA5.heap.size := by omega
  have oU : w.heap.size ≤ uB5.heap.size := by omega
  have nFT : w.heap.size ≠ uA5.heap.size := by omega
  have mFT : uA5.heap.size ≠ w.heap.size := by omega
  have nFU : w.heap.size ≠ uB5.heap.size := by omega
  have mFU : uB5.heap.size ≠ w.heap.size := by omega
  have nGT : w.heap.size + 1 ≠ uA5.heap.size := by omega
  have mGT : uA5.heap.size ≠ w.heap.size + 1 := by omega
  have nGU : w.heap.size + 1 ≠ uB5.heap.size := by omega
  have mGU : uB5.heap.size ≠ w.heap.size + 1 := by omega
  have nVT : w.heap.size + 1 + 1 ≠ uA5.heap.size := by omega
  have mVT : uA5.heap.size ≠ w.heap.size + 1 + 1 := by omega
  have nVU : w.heap.size + 1 + 1 ≠ uB5.heap.size := by omega
  have mVU : uB5.heap.size ≠ w.heap.size + 1 + 1 := by omega
  have nBT : w.heap.size + 1 + 1 + 1 ≠ uA5.heap.size := by omega
  have mBT : uA5.heap.size ≠ w.heap.size + 1 + 1 + 1 := by omega
  have nBU : w.heap.size + 1 + 1 + 1 ≠ uB5.heap.size := by omega
  have mBU : uB5.heap.size ≠ w.heap.size + 1 + 1 + 1 := by omega
  have nCT : w.heap.size + 1 + 1 + 1 + 1 ≠ uA5.heap.size := by omega
  have mCT : uA5.heap.size ≠ w.heap.size + 1 + 1 + 1 + 1 := by omega
  have nCU : w.heap.size + 1 + 1 + 1 + 1 ≠ uB5.heap.size := by omega
  have mCU : uB5.heap.size ≠ w.heap.size + 1 + 1 + 1 + 1 := by omega
  have nXT : w.heap.size + 1 + 1 + 1 + 1 + 1 ≠ uA5.heap.size := by omega
  have mXT : uA5.heap.size ≠ w.heap.size + 1 + 1 + 1 + 1 + 1 := by omega
  have nXU : w.heap.size + 1 + 1 + 1 + 1 + 1 ≠ uB5.heap.size := by omega
  have mXU : uB5.heap.size ≠ w.heap.size + 1 + 1 + 1 + 1 + 1 := by omega
  have nRT : uA1.heap.size ≠ uA5.heap.size := by omega
  have mRT : uA5.heap.size ≠ uA1.heap.size := by omega
  have nRU : uA1.heap.size ≠ uB5.heap.size := by omega
  have mRU : uB5.heap.size ≠ uA1.heap.size := by omega
  have nST : uB1.heap.size ≠ uA5.heap.size := by omega
  have mST : uA5.heap.size ≠ uB1.heap.size := by omega
  have nSU : uB1.heap.size ≠ uB5.heap.size := by omega
  have mSU : uB5.heap.size ≠ uB1.heap.size := by omega
  have nTU : uA5.heap.size ≠ uB5.heap.size := by omega
  have mTU : uB5.heap.size ≠ uA5.heap.size := by omega
  go_wp2_with fail
  refine calls_letter ?_
  intro W6 hW6
  have k6 : Below w.heap.size w W6 := by
    rw [hW6]
    (repeat (first | (with_reducible assumption) | (with_reducible exact bl_refl _) | (with_reducible refine bl_alloc ?_ _) | (with_reducible refine bl_set' ?_ ?_; · (dsimp only; first | assumption | exact Nat.le_refl _ | omega)) | (with_reducible refine bl_last (by assumption) ?_)))
  have F6 : Blk W6 (w.heap.size) 23 #[.int .i64 fn, .int .i64 fd] := by
    rw [hW6]
    (repeat (first | (with_reducible assumption) | (with_reducible apply Blk.new) | (with_reducible exact blkAt _ _ _ _ (by simp; done)) | (with_reducible apply blk_st2) | (with_reducible apply blk_st4) | (with_reducible apply blk_st6) | (with_reducible apply blk_far (hne := by first | (with_reducible assumption) | omega)) | (with_reducible apply blk_up (hb := by assumption)) | (with_reducible apply Blk.alloc)))
  have G6 : Blk W6 (w.heap.size + 1) 23 #[.int .i64 gn, .int .i64 gd] := by
    rw [hW6]
    (repeat (first | (with_reducible assumption) | (with_reducible apply Blk.new) | (with_reducible exact blkAt _ _ _ _ (by simp; done)) | (with_reducible apply blk_st2) | (with_reducible apply blk_st4) | (with_reducible apply blk_st6) | (with_reducible apply blk_far (hne := by first | (with_reducible assumption) | omega)) | (with_reducible apply blk_up (hb := by assumption)) | (with_reducible apply Blk.alloc)))
  have V6 : Blk W6 (w.heap.size + 1 + 1) 25 #[.int .i64 v0, .int .i64 v1, .int .i64 v2, .int .i64 v3, .int .i64 v4, .int .i64 v5] := by
    rw [hW6]
    (repeat (first | (with_reducible assumption) | (with_reducible apply Blk.new) | (with_reducible exact blkAt _ _ _ _ (by simp; done)) | (with_reducible apply blk_st2) | (with_reducible apply blk_st4) | (with_reducible apply blk_st6) | (with_reducible apply blk_far (hne := by first | (with_reducible assumption) | omega)) | (with_reducible apply blk_up (hb := by assumption)) | (with_reducible apply Blk.alloc)))
  have B6 : Blk W6 (w.heap.size + 1 + 1 + 1) 27 #[.int .i64 b0, .int .i64 b1, .int .i64 b2, .int .i64 b3] := by
    rw [hW6]
    (repeat (first | (with_reducible assumption) | (with_reducible apply Blk.new) | (with_reducible exact blkAt _ _ _ _ (by simp; done)) | (with_reducible apply blk_st2) | (with_reducible apply blk_st4) | (with_reducible apply blk_st6) | (with_reducible apply blk_far (hne := by first | (with_reducible assumption) | omega)) | (with_reducible apply blk_up (hb := by assumption)) | (with_reducible apply Blk.alloc)))
  have C6 : Blk W6 (w.heap.size + 1 + 1 + 1 + 1) 27 #[.int .i64 c0, .int .i64 c1, .int .i64 c2, .int .i64 c3] := by
    rw [hW6]
    (repeat (first | (with_reducible assumption) | (with_reducible apply Blk.new) | (with_reducible exact blkAt _ _ _ _ (by simp; done)) | (with_reducible apply blk_st2) | (with_reducible apply blk_st4) | (with_reducible apply blk_st6) | (with_reducible apply blk_far (hne := by first | (with_reducible assumption) | omega)) | (with_reducible apply blk_up (hb := by assumption)) | (with_reducible apply Blk.alloc)))
  have X6 : Blk W6 (w.heap.size + 1 + 1 + 1 + 1 + 1) 28 #[.int .i64 x0, .int .i64 x1, .int .i64 x2, .int .i64 x3, .int .i64 x4, .int .i64 x5] := by
    rw [hW6]
    (repeat (first | (with_reducible assumption) | (with_reducible apply Blk.new) | (with_reducible exact blkAt _ _ _ _ (by simp; done)) | (with_reducible apply blk_st2) | (with_reducible apply blk_st4) | (with_reducible apply blk_st6) | (with_reducible apply blk_far (hne := by first | (with_reducible assumption) | omega)) | (with_reducible apply blk_up (hb := by assumption)) | (with_reducible apply Blk.alloc)))
  have R6 : Blk W6 (uA1.heap.size) 23 #[.int .i64 s1, .int .i64 s2] := by
    rw [hW6]
    (repeat (first | (with_reducible assumption) | (with_reducible apply Blk.new) | (with_reducible exact blkAt _ _ _ _ (by simp; done)) | (with_reducible apply blk_st2) | (with_reducible apply blk_st4) | (with_reducible apply blk_st6) | (with_reducible apply blk_far (hne := by first | (with_reducible assumption) | omega)) | (with_reducible apply blk_up (hb := by assumption)) | (with_reducible apply Blk.alloc)))
  have S6 : Blk W6 (uB1.heap.size) 23 #[.int .i64 s1, .int .i64 s2] := by
    rw [hW6]
    (repeat (first | (with_reducible assumption) | (with_reducible apply Blk.new) | (with_reducible exact blkAt _ _ _ _ (by simp; done)) | (with_reducible apply blk_st2) | (with_reducible apply blk_st4) | (with_reducible apply blk_st6) | (with_reducible apply blk_far (hne := by first | (with_reducible assumption) | omega)) | (with_reducible apply blk_up (hb := by assumption)) | (with_reducible apply Blk.alloc)))
  have T6 : Blk W6 (uA5.heap.size) 27 #[.int .i64 t1, .int .i64 t2, .int .i64 t3, .int .i64 t4] := by
    rw [hW6]
    (repeat (first | (with_reducible assumption) | (with_reducible apply Blk.new) | (with_reducible exact blkAt _ _ _ _ (by simp; done)) | (with_reducible apply blk_st2) | (with_reducible apply blk_st4) | (with_reducible apply blk_st6) | (with_reducible apply blk_far (hne := by first | (with_reducible assumption) | omega)) | (with_reducible apply blk_up (hb := by assumption)) | (with_reducible apply Blk.alloc)))
  have U6 : Blk W6 (uB5.heap.size) 27 #[.int .i64 t1, .int .i64 t2, .int .i64 t3, .int .i64 t4] := by
    rw [hW6]
    (repeat (first | (with_reducible assumption) | (with_reducible apply Blk.new) | (with_reducible exact blkAt _ _ _ _ (by simp; done)) | (with_reducible apply blk_st2) | (with_reducible apply blk_st4) | (with_reducible apply blk_st6) | (with_reducible apply blk_far (hne := by first | (with_reducible assumption) | omega)) | (with_reducible apply blk_up (hb := by assumption)) | (with_reducible apply Blk.alloc)))
  clear hW6
  clear k5 hzA5 hcA5 hfA5 dA5 hzB5 hcB5 hfB5 dB5 F5 zF5 G5 zG5 V5 zV5 B5 zB5 C5 zC5 X5 zX5 R5 zR5 S5 zS5
  try clear cF5_0 cF5_1 cB5_0 cB5_1 cB5_2 cB5_3 cC5_0 cC5_1 cC5_2 cC5_3
  try clear qAF5 lAF5 qAG5 lAG5 qAV5 lAV5 qAB5 lAB5 qAC5 lAC5 qAX5 lAX5 qAR5 lAR5 qAS5 lAS5 qBF5 lBF5 qBG5 lBG5 qBV5 lBV5 qBB5 lBB5 qBC5 lBC5 qBX5 lBX5 qBR5 lBR5 qBS5 lBS5
  have zF6 := F6.lt
  have zG6 := G6.lt
  have zV6 := V6.lt
  have zB6 := B6.lt
  have zC6 := C6.lt
  have zX6 := X6.lt
  have zR6 := R6.lt
  have zS6 := S6.lt
  have zT6 := T6.lt
  have zU6 := U6.lt
  have cB6_0 := B6.cell 0
  have cB6_1 := B6.cell 1
  have cB6_2 := B6.cell 2
  have cB6_3 := B6.cell 3
  simp only [List.getElem?_toArray, List.getElem?_cons_zero, List.getElem?_cons_succ] at cB6_0 cB6_1 cB6_2 cB6_3
  have cC6_0 := C6.cell 0
  have cC6_1 := C6.cell 1
  have cC6_2 := C6.cell 2
  have cC6_3 := C6.cell 3
  simp only [List.getElem?_toArray, List.getElem?_cons_zero, List.getElem?_cons_succ] at cC6_0 cC6_1 cC6_2 cC6_3
  have cF6_0 := F6.cell 0
  have cF6_1 := F6.cell 1
  simp only [List.getElem?_toArray, List.getElem?_cons_zero, List.getElem?_cons_succ] at cF6_0 cF6_1
  have cX6_0 := X6.cell 0
  have cX6_1 := X6.cell 1
  have cX6_2 := X6.cell 2
  have cX6_3 := X6.cell 3
  have cX6_4 := X6.cell 4
  have cX6_5 := X6.cell 5
  simp only [List.getElem?_toArray, List.getElem?_cons_zero, List.getElem?_cons_succ] at cX6_0 cX6_1 cX6_2 cX6_3 cX6_4 cX6_5
  have cT6_0 := T6.cell 0
  have cT6_1 := T6.cell 1
  have cT6_2 := T6.cell 2
  have cT6_3 := T6.cell 3
  simp only [List.getElem?_toArray, List.getElem?_cons_zero, List.getElem?_cons_succ] at cT6_0 cT6_1 cT6_2 cT6_3
  have fT6_0 := T6.frozen 0
  have fT6_1 := T6.frozen 1
  have fT6_2 := T6.frozen 2
  have fT6_3 := T6.frozen 3
  have cU6_0 := U6.cell 0
  have cU6_1 := U6.cell 1
  have cU6_2 := U6.cell 2
  have cU6_3 := U6.cell 3
  simp only [List.getElem?_toArray, List.getElem?_cons_zero, List.getElem?_cons_succ] at cU6_0 cU6_1 cU6_2 cU6_3
  have fU6_0 := U6.frozen 0
  have fU6_1 := U6.frozen 1
  have fU6_2 := U6.frozen 2
  have fU6_3 := U6.frozen 3
  ((with_reducible refine (H6.out _).mono ?_); rintro e uA6 ⟨rfl, dA6⟩)
  obtain ⟨hzA6, hcA6, hfA6⟩ := bcl dA6 (by first | (simp; rfl) | rfl)
  have qAF6 : w.heap.size < uA6.heap.size := by omega
  have lAF6 : w.heap.size ≤ uA6.heap.size := by omega
  have qAG6 : w.heap.size + 1 < uA6.heap.size := by omega
  have lAG6 : w.heap.size + 1 ≤ uA6.heap.size := by omega
  have qAV6 : w.heap.size + 1 + 1 < uA6.heap.size := by omega
  have lAV6 : w.heap.size + 1 + 1 ≤ uA6.heap.size := by omega
  have qAB6 : w.heap.size + 1 + 1 + 1 < uA6.heap.size := by omega
  have lAB6 : w.heap.size + 1 + 1 + 1 ≤ uA6.heap.size := by omega
  have qAC6 : w.heap.size + 1 + 1 + 1 + 1 < uA6.heap.size := by omega
  have lAC6 : w.heap.size + 1 + 1 + 1 + 1 ≤ uA6.heap.size := by omega
  have qAX6 : w.heap.size + 1 + 1 + 1 + 1 + 1 < uA6.heap.size := by omega
  have lAX6 : w.heap.size + 1 + 1 + 1 + 1 + 1 ≤ uA6.heap.size := by omega
  have qAR6 : uA1.heap.size < uA6.heap.size := by omega
  have lAR6 : uA1.heap.size ≤ uA6.heap.size := by omega
  have qAS6 : uB1.heap.size < uA6.heap.size := by omega
  have lAS6 : uB1.heap.size ≤ uA6.heap.size := by omega
  have qAT6 : uA5.heap.size < uA6.heap.size := by omega
  have lAT6 : uA5.heap.size ≤ uA6.heap.size := by omega
  have qAU6 : uB5.heap.size < uA6.heap.size := by omega
  have lAU6 : uB5.heap.size ≤ uA6.heap.size := by omega
  go_wp2_with fail
  ((with_reducible refine (K6.out _).mono ?_); rintro e uB6 ⟨rfl, dB6⟩)
  obtain ⟨hzB6, hcB6, hfB6⟩ := bcl dB6 (by first | (simp; rfl) | rfl)
  have qBF6 : w.heap.size < uB6.heap.size := by omega
  have lBF6 : w.heap.size ≤ uB6.heap.size := by omega
  have qBG6 : w.heap.size + 1 < uB6.heap.size := by omega
  have lBG6 : w.heap.size + 1 ≤ uB6.heap.size := by omega
  have qBV6 : w.heap.size + 1 + 1 < uB6.heap.size := by omega
  have lBV6 : w.heap.size + 1 + 1 ≤ uB6.heap.size := by omega
  have qBB6 : w.heap.size + 1 + 1 + 1 < uB6.heap.size := by omega
  have lBB6 : w.heap.size + 1 + 1 + 1 ≤ uB6.heap.size := by omega
  have qBC6 : w.heap.size + 1 + 1 + 1 + 1 < uB6.heap.size := by omega
  have lBC6 : w.heap.size + 1 + 1 + 1 + 1 ≤ uB6.heap.size := by omega
  have qBX6 : w.heap.size + 1 + 1 + 1 + 1 + 1 < uB6.heap.size := by omega
  have lBX6 : w.heap.size + 1 + 1 + 1 + 1 + 1 ≤ uB6.heap.size := by omega
  have qBR6 : uA1.heap.size < uB6.heap.size := by omega
  have lBR6 : uA1.heap.size ≤ uB6.heap.size := by omega
  have qBS6 : uB1.heap.size < uB6.heap.size := by omega
  have lBS6 : uB1.heap.size ≤ uB6.heap.size := by omega
  have qBT6 : uA5.heap.size < uB6.heap.size := by omega
  have lBT6 : uA5.heap.size ≤ uB6.heap.size := by omega
  have qBU6 : uB5.heap.size < uB6.heap.size := by omega
  have lBU6 : uB5.heap.size ≤ uB6.heap.size := by omega
  go_wp2_with fail
  refine calls_letter ?_
  intro W7 hW7
  have k7 : Below w.heap.size w W7 := by
    rw [hW7]
    (repeat (first | (with_reducible assumption) | (with_reducible exact bl_refl _) | (with_reducible refine bl_alloc ?_ _) | (with_reducible refine bl_set' ?_ ?_; · (dsimp only; first | assumption | exact Nat.le_refl _ | omega)) | (with_reducible refine bl_last (by assumption) ?_)))
  have F7 : Blk W7 (w.heap.size) 23 #[.int .i64 fn, .int .i64 fd] := by
    rw [hW7]
    (repeat (first | (with_reducible assumption) | (with_reducible apply Blk.new) | (with_reducible exact blkAt _ _ _ _ (by simp; done)) | (with_reducible apply blk_st2) | (with_reducible apply blk_st4) | (with_reducible apply blk_st6) | (with_reducible apply blk_far (hne := by first | (with_reducible assumption) | omega)) | (with_reducible apply blk_up (hb := by assumption)) | (with_reducible apply Blk.alloc)))
  have G7 : Blk W7 (w.heap.size + 1) 23 #[.int .i64 gn, .int .i64 gd] := by
    rw [hW7]
    (repeat (first | (with_reducible assumption) | (with_reducible apply Blk.new) | (with_reducible exact blkAt _ _ _ _ (by simp; done)) | (with_reducible apply blk_st2) | (with_reducible apply blk_st4) | (with_reducible apply blk_st6) | (with_reducible apply blk_far (hne := by first | (with_reducible assumption) | omega)) | (with_reducible apply blk_up (hb := by assumption)) | (with_reducible apply Blk.alloc)))
  have V7 : Blk W7 (w.heap.size + 1 + 1) 25 #[.int .i64 v0, .int .i64 v1, .int .i64 v2, .int .i64 v3, .int .i64 v4, .int .i64 v5] := by
    rw [hW7]
    (repeat (first | (with_reducible assumption) | (with_reducible apply Blk.new) | (with_reducible exact blkAt _ _ _ _ (by simp; done)) | (with_reducible apply blk_st2) | (with_reducible apply blk_st4) | (with_reducible apply blk_st6) | (with_reducible apply blk_far (hne := by first | (with_reducible assumption) | omega)) | (with_reducible apply blk_up (hb := by assumption)) | (with_reducible apply Blk.alloc)))
  have B7 : Blk W7 (w.heap.size + 1 + 1 + 1) 27 #[.int .i64 b0, .int .i64 b1, .int .i64 b2, .int .i64 b3] := by
    rw [hW7]
    (repeat (first | (with_reducible assumption) | (with_reducible apply Blk.new) | (with_reducible exact blkAt _ _ _ _ (by simp; done)) | (with_reducible apply blk_st2) | (with_reducible apply blk_st4) | (with_reducible apply blk_st6) | (with_reducible apply blk_far (hne := by first | (with_reducible assumption) | omega)) | (with_reducible apply blk_up (hb := by assumption)) | (with_reducible apply Blk.alloc)))
  have C7 : Blk W7 (w.heap.size + 1 + 1 + 1 + 1) 27 #[.int .i64 c0, .int .i64 c1, .int .i64 c2, .int .i64 c3] := by
    rw [hW7]
    (repeat (first | (with_reducible assumption) | (with_reducible apply Blk.new) | (with_reducible exact blkAt _ _ _ _ (by simp; done)) | (with_reducible apply blk_st2) | (with_reducible apply blk_st4) | (with_reducible apply blk_st6) | (with_reducible apply blk_far (hne := by first | (with_reducible assumption) | omega)) | (with_reducible apply blk_up (hb := by assumption)) | (with_reducible apply Blk.alloc)))
  have X7 : Blk W7 (w.heap.size + 1 + 1 + 1 + 1 + 1) 28 #[.int .i64 x0, .int .i64 x1, .int .i64 x2, .int .i64 x3, .int .i64 x4, .int .i64 x5] := by
    rw [hW7]
    (repeat (first | (with_reducible assumption) | (with_reducible apply Blk.new) | (with_reducible exact blkAt _ _ _ _ (by simp; done)) | (with_reducible apply blk_st2) | (with_reducible apply blk_st4) | (with_reducible apply blk_st6) | (with_reducible apply blk_far (hne := by first | (with_reducible assumption) | omega)) | (with_reducible apply blk_up (hb := by assumption)) | (with_reducible apply Blk.alloc)))
  have R7 : Blk W7 (uA1.heap.size) 23 #[.int .i64 s1, .int .i64 s2] := by
    rw [hW7]
    (repeat (first | (with_reducible assumption) | (with_reducible apply Blk.new) | (with_reducible exact blkAt _ _ _ _ (by simp; done)) | (with_reducible apply blk_st2) | (with_reducible apply blk_st4) | (with_reducible apply blk_st6) | (with_reducible apply blk_far (hne := by first | (with_reducible assumption) | omega)) | (with_reducible apply blk_up (hb := by assumption)) | (with_reducible apply Blk.alloc)))
  have S7 : Blk W7 (uB1.heap.size) 23 #[.int .i64 s1, .int .i64 s2] := by
    rw [hW7]
    (repeat (first | (with_reducible assumption) | (with_reducible apply Blk.new) | (with_reducible exact blkAt _ _ _ _ (by simp; done)) | (with_reducible apply blk_st2) | (with_reducible apply blk_st4) | (with_reducible apply blk_st6) | (with_reducible apply blk_far (hne := by first | (with_reducible assumption) | omega)) | (with_reducible apply blk_up (hb := by assumption)) | (with_reducible apply Blk.alloc)))
  have T7 : Blk W7 (uA5.heap.size) 27 #[.int .i64 m1, .int .i64 m2, .int .i64 m3, .int .i64 m4] := by
    rw [hW7]
    (repeat (first | (with_reducible assumption) | (with_reducible apply Blk.new) | (with_reducible exact blkAt _ _ _ _ (by simp; done)) | (with_reducible apply blk_st2) | (with_reducible apply blk_st4) | (with_reducible apply blk_st6) | (with_reducible apply blk_far (hne := by first | (with_reducible assumption) | omega)) | (with_reducible apply blk_up (hb := by assumption)) | (with_reducible apply Blk.alloc)))
  have U7 : Blk W7 (uB5.heap.size) 27 #[.int .i64 m1, .int .i64 m2, .int .i64 m3, .int .i64 m4] := by
    rw [hW7]
    (repeat (first | (with_reducible assumption) | (with_reducible apply Blk.new) | (with_reducible exact blkAt _ _ _ _ (by simp; done)) | (with_reducible apply blk_st2) | (with_reducible apply blk_st4) | (with_reducible apply blk_st6) | (with_reducible apply blk_far (hne := by first | (with_reducible assumption) | omega)) | (with_reducible apply blk_up (hb := by assumption)) | (with_reducible apply Blk.alloc)))
  clear hW7
  clear k6 hzA6 hcA6 hfA6 dA6 hzB6 hcB6 hfB6 dB6 F6 zF6 G6 zG6 V6 zV6 B6 zB6 C6 zC6 X6 zX6 R6 zR6 S6 zS6 T6 zT6 U6 zU6
  try clear cB6_0 cB6_1 cB6_2 cB6_3 cC6_0 cC6_1 cC6_2 cC6_3 cF6_0 cF6_1 cX6_0 cX6_1 cX6_2 cX6_3 cX6_4 cX6_5 cT6_0 cT6_1 cT6_2 cT6_3 fT6_0 fT6_1 fT6_2 fT6_3 cU6_0 cU6_1 cU6_2 cU6_3 fU6_0 fU6_1 fU6_2 fU6_3
  try clear qAF6 lAF6 qAG6 lAG6 qAV6 lAV6 qAB6 lAB6 qAC6 lAC6 qAX6 lAX6 qAR6 lAR6 qAS6 lAS6 qAT6 lAT6 qAU6 lAU6 qBF6 lBF6 qBG6 lBG6 qBV6 lBV6 qBB6 lBB6 qBC6 lBC6 qBX6 lBX6 qBR6 lBR6 qBS6 lBS6 qBT6 lBT6 qBU6 lBU6
  have zF7 := F7.lt
  have zG7 := G7.lt
  have zV7 := V7.lt
  have zB7 := B7.lt
  have zC7 := C7.lt
  have zX7 := X7.lt
  have zR7 := R7.lt
  have zS7 := S7.lt
  have zT7 := T7.lt
  have zU7 := U7.lt
  have cF7_0 := F7.cell 0
  have cF7_1 := F7.cell 1
  simp only [List.getElem?_toArray, List.getElem?_cons_zero, List.getElem?_cons_succ] at cF7_0 cF7_1
  have cX7_0 := X7.cell 0
  have cX7_1 := X7.cell 1
  have cX7_2 := X7.cell 2
  have cX7_3 := X7.cell 3
  have cX7_4 := X7.cell 4
  have cX7_5 := X7.cell 5
  simp only [List.getElem?_toArray, List.getElem?_cons_zero, List.getElem?_cons_succ] at cX7_0 cX7_1 cX7_2 cX7_3 cX7_4 cX7_5
  have cT7_0 := T7.cell 0
  have cT7_1 := T7.cell 1
  have cT7_2 := T7.cell 2
  have cT7_3 := T7.cell 3
  simp only [List.getElem?_toArray, List.getElem?_cons_zero, List.getElem?_cons_succ] at cT7_0 cT7_1 cT7_2 cT7_3
  have fT7_0 := T7.frozen 0
  have fT7_1 := T7.frozen 1
  have fT7_2 := T7.frozen 2
  have fT7_3 := T7.frozen 3
  have cU7_0 := U7.cell 0
  have cU7_1 := U7.cell 1
  have cU7_2 := U7.cell 2
  have cU7_3 := U7.cell 3
  simp only [List.getElem?_toArray, List.getElem?_cons_zero, List.getElem?_cons_succ] at cU7_0 cU7_1 cU7_2 cU7_3
  have fU7_0 := U7.frozen 0
  have fU7_1 := U7.frozen 1
  have fU7_2 := U7.frozen 2
  have fU7_3 := U7.frozen 3
  ((with_reducible refine (H7.out _).mono ?_); intro e uA7 hE)
  obtain ⟨dA7, y1, y2, y3, y4, y5, rfl⟩ := hE.shape
  have HE := Lib.hid hE
  clear hE
  obtain ⟨hzA7, hcA7, hfA7⟩ := bcl dA7 (by first | (simp; rfl) | rfl)
  have qAF7 : w.heap.size < uA7.heap.size := by omega
  have lAF7 : w.heap.size ≤ uA7.heap.size := by omega
  have qAG7 : w.heap.size + 1 < uA7.heap.size := by omega
  have lAG7 : w.heap.size + 1 ≤ uA7.heap.size := by omega
  have qAV7 : w.heap.size + 1 + 1 < uA7.heap.size := by omega
  have lAV7 : w.heap.size + 1 + 1 ≤ uA7.heap.size := by omega
  have qAB7 : w.heap.size + 1 + 1 + 1 < uA7.heap.size := by omega
  have lAB7 : w.heap.size + 1 + 1 + 1 ≤ uA7.heap.size := by omega
  have qAC7 : w.heap.size + 1 + 1 + 1 + 1 < uA7.heap.size := by omega
  have lAC7 : w.heap.size + 1 + 1 + 1 + 1 ≤ uA7.heap.size := by omega
  have qAX7 : w.heap.size + 1 + 1 + 1 + 1 + 1 < uA7.heap.size := by omega
  have lAX7 : w.heap.size + 1 + 1 + 1 + 1 + 1 ≤ uA7.heap.size := by omega
  have qAR7 : uA1.heap.size < uA7.heap.size := by omega
  have lAR7 : uA1.heap.size ≤ uA7.heap.size := by omega
  have qAS7 : uB1.heap.size < uA7.heap.size := by omega
  have lAS7 : uB1.heap.size ≤ uA7.heap.size := by omega
  have qAT7 : uA5.heap.size < uA7.heap.size := by omega
  have lAT7 : uA5.heap.size ≤ uA7.heap.size := by omega
  have qAU7 : uB5.heap.size < uA7.heap.size := by omega
  have lAU7 : uB5.heap.size ≤ uA7.heap.size := by omega
  go_wp2_with fail
  ((with_reducible refine (K7.out _).mono ?_); intro e uB7 hE)
  obtain ⟨dB7, _⟩ := hE.shape
  obtain rfl := HE.out.same hE
  clear hE
  obtain ⟨hzB7, hcB7, hfB7⟩ := bcl dB7 (by first | (simp; rfl) | rfl)
  have qBF7 : w.heap.size < uB7.heap.size := by omega
  have lBF7 : w.heap.size ≤ uB7.heap.size := by omega
  have qBG7 : w.heap.size + 1 < uB7.heap.size := by omega
  have lBG7 : w.heap.size + 1 ≤ uB7.heap.size := by omega
  have qBV7 : w.heap.size + 1 + 1 < uB7.heap.size := by omega
  have lBV7 : w.heap.size + 1 + 1 ≤ uB7.heap.size := by omega
  have qBB7 : w.heap.size + 1 + 1 + 1 < uB7.heap.size := by omega
  have lBB7 : w.heap.size + 1 + 1 + 1 ≤ uB7.heap.size := by omega
  have qBC7 : w.heap.size + 1 + 1 + 1 + 1 < uB7.heap.size := by omega
  have lBC7 : w.heap.size + 1 + 1 + 1 + 1 ≤ uB7.heap.size := by omega
  have qBX7 : w.heap.size + 1 + 1 + 1 + 1 + 1 < uB7.heap.size := by omega
  have lBX7 : w.heap.size + 1 + 1 + 1 + 1 + 1 ≤ uB7.heap.size := by omega
  have qBR7 : uA1.heap.size < uB7.heap.size := by omega
  have lBR7 : uA1.heap.size ≤ uB7.heap.size := by omega
  have qBS7 : uB1.heap.size < uB7.heap.size := by omega
  have lBS7 : uB1.heap.size ≤ uB7.heap.size := by omega
  have qBT7 : uA5.heap.size < uB7.heap.size := by omega
  have lBT7 : uA5.heap.size ≤ uB7.heap.size := by omega
  have qBU7 : uB5.heap.size < uB7.heap.size := by omega
  have lBU7 : uB5.heap.size ≤ uB7.heap.size := by omega
  go_wp2
  go_ret
  refine ⟨rfl, ?_⟩
  (repeat (first | (with_reducible assumption) | (with_reducible exact bl_refl _) | (with_reducible refine bl_alloc ?_ _) | (with_reducible refine bl_set' ?_ ?_; · (dsimp only; first | assumption | exact Nat.le_refl _ | omega)) | (with_reducible refine bl_last (by assumption) ?_)))
end Go.Proofs.Ythlnfjllkmielaa
