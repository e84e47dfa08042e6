/- Pitch: Of, Whole, Mul, Div, Power. -/
import Derived.Test.YtehifkdfbiebfaaDoorK15
import Derived.Test.YtehifkdfbiebfaaDoorK01
namespace Go.Proofs.YtehifkdfbiebfaaDoor
open Go.RowKit

theorem rounds_letter {P : Program} {c : Code} {K : Exit → Act → World → Prop} {n : Nat} {a : Act} {w : World} (h : ∀ W, W = w → Code.rounds P c K n a W) : Code.rounds P c K n a w := h w rfl
theorem wi_mk {x B : Int} (h : -B ≤ x) (h' : x ≤ B) : wi x B = true := by
  unfold wi
  rw [decide_eq_true h, decide_eq_true h']
  rfl
/-- a with a sign times x. -/
def cb (s E a x : Int) : Int := if E = 0 then a + s * x else 0
def cbG (a b c d e f x y z p q r : Int) : Bool := pV a b c d e f 576 && pV x y z p q r 576
def cbS (s a b c d e f x y z p q r : Int) : Bool := pV (a + s * x) (b + s * y) (c + s * z) (d + s * p) (e + s * q) (f + s * r) 576
def cbE (s a b c d e f x y z p q r : Int) : Int := if cbG a b c d e f x y z p q r then (if cbS s a b c d e f x y z p q r then 0 else 3) else 1
@[go_sem] theorem idxP_0 (a b c d e f : Int) (w : World) : (Instr.index 72 (.agg #[.int .i64 a, .int .i64 b, .int .i64 c, .int .i64 d, .int .i64 e, .int .i64 f]) (.int .i64 0)).run Tryd.prog w = .ok (.int .i64 a) w := by kernel_rfl
@[go_sem] theorem idxP_1 (a b c d e f : Int) (w : World) : (Instr.index 72 (.agg #[.int .i64 a, .int .i64 b, .int .i64 c, .int .i64 d, .int .i64 e, .int .i64 f]) (.int .i64 1)).run Tryd.prog w = .ok (.int .i64 b) w := by kernel_rfl
@[go_sem] theorem idxP_2 (a b c d e f : Int) (w : World) : (Instr.index 72 (.agg #[.int .i64 a, .int .i64 b, .int .i64 c, .int .i64 d, .int .i64 e, .int .i64 f]) (.int .i64 2)).run Tryd.prog w = .ok (.int .i64 c) w := by kernel_rfl
@[go_sem] theorem idxP_3 (a b c d e f : Int) (w : World) : (Instr.index 72 (.agg #[.int .i64 a, .int .i64 b, .int .i64 c, .int .i64 d, .int .i64 e, .int .i64 f]) (.int .i64 3)).run Tryd.prog w = .ok (.int .i64 d) w := by kernel_rfl
@[go_sem] theorem idxP_4 (a b c d e f : Int) (w : World) : (Instr.index 72 (.agg #[.int .i64 a, .int .i64 b, .int .i64 c, .int .i64 d, .int .i64 e, .int .i64 f]) (.int .i64 4)).run Tryd.prog w = .ok (.int .i64 e) w := by kernel_rfl
@[go_sem] theorem idxP_5 (a b c d e f : Int) (w : World) : (Instr.index 72 (.agg #[.int .i64 a, .int .i64 b, .int .i64 c, .int .i64 d, .int .i64 e, .int .i64 f]) (.int .i64 5)).run Tryd.prog w = .ok (.int .i64 f) w := by kernel_rfl
@[go_sem] theorem idxV_0 (a b c d e f : Int) (w : World) : (Instr.index 27 (.agg #[.int .i64 a, .int .i64 b, .int .i64 c, .int .i64 d, .int .i64 e, .int .i64 f]) (.int .i64 0)).run Tryd.prog w = .ok (.int .i64 a) w := by kernel_rfl
@[go_sem] theorem idxV_1 (a b c d e f : Int) (w : World) : (Instr.index 27 (.agg #[.int .i64 a, .int .i64 b, .int .i64 c, .int .i64 d, .int .i64 e, .int .i64 f]) (.int .i64 1)).run Tryd.prog w = .ok (.int .i64 b) w := by kernel_rfl
@[go_sem] theorem idxV_2 (a b c d e f : Int) (w : World) : (Instr.index 27 (.agg #[.int .i64 a, .int .i64 b, .int .i64 c, .int .i64 d, .int .i64 e, .int .i64 f]) (.int .i64 2)).run Tryd.prog w = .ok (.int .i64 c) w := by kernel_rfl
@[go_sem] theorem idxV_3 (a b c d e f : Int) (w : World) : (Instr.index 27 (.agg #[.int .i64 a, .int .i64 b, .int .i64 c, .int .i64 d, .int .i64 e, .int .i64 f]) (.int .i64 3)).run Tryd.prog w = .ok (.int .i64 d) w := by kernel_rfl
@[go_sem] theorem idxV_4 (a b c d e f : Int) (w : World) : (Instr.index 27 (.agg #[.int .i64 a, .int .i64 b, .int .i64 c, .int .i64 d, .int .i64 e, .int .i64 f]) (.int .i64 4)).run Tryd.prog w = .ok (.int .i64 e) w := by kernel_rfl
@[go_sem] theorem idxV_5 (a b c d e f : Int) (w : World) : (Instr.index 27 (.agg #[.int .i64 a, .int .i64 b, .int .i64 c, .int .i64 d, .int .i64 e, .int .i64 f]) (.int .i64 5)).run Tryd.prog w = .ok (.int .i64 f) w := by kernel_rfl
def cbV (s a b c d e f x y z p q r : Int) : Value := .tuple #[.agg #[.int .i64 (cb s (cbE s a b c d e f x y z p q r) a x), .int .i64 (cb s (cbE s a b c d e f x y z p q r) b y), .int .i64 (cb s (cbE s a b c d e f x y z p q r) c z), .int .i64 (cb s (cbE s a b c d e f x y z p q r) d p), .int .i64 (cb s (cbE s a b c d e f x y z p q r) e q), .int .i64 (cb s (cbE s a b c d e f x y z p q r) f r)], .int .i64 (cbE s a b c d e f x y z p q r)]
set_option maxRecDepth 100000 in
set_option maxHeartbeats 8000000 in
theorem combine_c (s a b c d e f x y z p q r : Int) (w : World) (hs : s = 1 ∨ s = -1) : Calls Tryd.prog 81 #[.agg #[.int .i64 a, .int .i64 b, .int .i64 c, .int .i64 d, .int .i64 e, .int .i64 f], .agg #[.int .i64 x, .int .i64 y, .int .i64 z, .int .i64 p, .int .i64 q, .int .i64 r], .int .i64 s] w (Ret (cbV s a b c d e f x y z p q r) w) := by
  have hA := fun w => PVld_c a b c d e f w
  have hB := fun w => PVld_c x y z p q r w
  have hC := fun w => PVld_c (a + s * x) (b + s * y) (c + s * z) (d + s * p) (e + s * q) (f + s * r) w
  cases ha : pV a b c d e f 576
  · have hv : cbV s a b c d e f x y z p q r = .tuple #[.agg #[.int .i64 0, .int .i64 0, .int .i64 0, .int .i64 0, .int .i64 0, .int .i64 0], .int .i64 1] := by simp [cbV, cb, cbE, cbG, ha]
    rw [hv]
    rw [ha] at hA
    have HA := Lib.hid hA
    have HB := Lib.hid hB
    clear ha hA hB hC hv
    generalize pV x y z p q r 576 = g at *
    go_enter Tryd.func81, Tryd.ntmps81
    go_wp2_with (first | (go_at_call 80; ((with_reducible refine (HA.out _).mono ?_); rintro e w' ⟨rfl, hb⟩; obtain ⟨hz, hc, hf⟩ := bcl hb (by first | (simp; rfl) | rfl))) | (go_at_call 80; ((with_reducible refine (HB.out _).mono ?_); rintro e w' ⟨rfl, hb⟩; obtain ⟨hz, hc, hf⟩ := bcl hb (by first | (simp; rfl) | rfl))))
    (refine bodyPost_ret (v := .tuple #[.agg #[.int .i64 0, .int .i64 0, .int .i64 0, .int .i64 0, .int .i64 0, .int .i64 0], .int .i64 1]) (by simp only [results, Tryd.results81]; go_simp) rfl ⟨rfl, ?_⟩)
    (repeat (first | (with_reducible exact bl_refl _) | (with_reducible refine bl_drew ?_) | (with_reducible refine bl_alloc ?_ _) | (with_reducible refine bl_set' ?_ ?_; · (first | omega | (simp; done) | (simp; omega))) | (with_reducible refine bl_last (by assumption) ?_) | (with_reducible refine bl_drewN ?_ _)))
  cases hb : pV x y z p q r 576
  · have hv : cbV s a b c d e f x y z p q r = .tuple #[.agg #[.int .i64 0, .int .i64 0, .int .i64 0, .int .i64 0, .int .i64 0, .int .i64 0], .int .i64 1] := by simp [cbV, cb, cbE, cbG, hb]
    rw [hv]
    rw [ha] at hA
    rw [hb] at hB
    have HA := Lib.hid hA
    have HB := Lib.hid hB
    clear ha hb hA hB hC hv
    go_enter Tryd.func81, Tryd.ntmps81
    go_wp2_with (first | (go_at_call 80; ((with_reducible refine (HA.out _).mono ?_); rintro e w' ⟨rfl, hb⟩; obtain ⟨hz, hc, hf⟩ := bcl hb (by first | (simp; rfl) | rfl))) | (go_at_call 80; ((with_reducible refine (HB.out _).mono ?_); rintro e w' ⟨rfl, hb⟩; obtain ⟨hz, hc, hf⟩ := bcl hb (by first | (simp; rfl) | rfl))))
    (refine bodyPost_ret (v := .tuple #[.agg #[.int .i64 0, .int .i64 0, .int .i64 0, .int .i64 0, .int .i64 0, .int .i64 0], .int .i64 1]) (by simp only [results, Tryd.results81]; go_simp) rfl ⟨rfl, ?_⟩)
    (repeat (first | (with_reducible exact bl_refl _) | (with_reducible refine bl_drew ?_) | (with_reducible refine bl_alloc ?_ _) | (with_reducible refine bl_set' ?_ ?_; · (first | omega | (simp; done) | (simp; omega))) | (with_reducible refine bl_last (by assumption) ?_) | (with_reducible refine bl_drewN ?_ _)))
  obtain ⟨h1, h2, h3, h4, h5, h6⟩ := pV_of ha
  obtain ⟨k1, k2, k3, k4, k5, k6⟩ := pV_of hb
  have h1 := wi_of h1
  have k1 := wi_of k1
  have h2 := wi_of h2
  have k2 := wi_of k2
  have h3 := wi_of h3
  have k3 := wi_of k3
  have h4 := wi_of h4
  have k4 := wi_of k4
  have h5 := wi_of h5
  have k5 := wi_of k5
  have h6 := wi_of h6
  have k6 := wi_of k6
  have q1 : IntKind.i64.wrap (s * x) = s * x := by rw [IntKind.wrap_i64]; rcases hs with rfl | rfl <;> omega
  have r1 : IntKind.i64.wrap (a + s * x) = a + s * x := by rw [IntKind.wrap_i64]; rcases hs with rfl | rfl <;> omega
  have q2 : IntKind.i64.wrap (s * y) = s * y := by rw [IntKind.wrap_i64]; rcases hs with rfl | rfl <;> omega
  have r2 : IntKind.i64.wrap (b + s * y) = b + s * y := by rw [IntKind.wrap_i64]; rcases hs with rfl | rfl <;> omega
  have q3 : IntKind.i64.wrap (s * z) = s * z := by rw [IntKind.wrap_i64]; rcases hs with rfl | rfl <;> omega
  have r3 : IntKind.i64.wrap (c + s * z) = c + s * z := by rw [IntKind.wrap_i64]; rcases hs with rfl | rfl <;> omega
  have q4 : IntKind.i64.wrap (s * p) = s * p := by rw [IntKind.wrap_i64]; rcases hs with rfl | rfl <;> omega
  have r4 : IntKind.i64.wrap (d + s * p) = d + s * p := by rw [IntKind.wrap_i64]; rcases hs with rfl | rfl <;> omega
  have q5 : IntKind.i64.wrap (s * q) = s * q := by rw [IntKind.wrap_i64]; rcases hs with rfl | rfl <;> omega
  have r5 : IntKind.i64.wrap (e + s * q) = e + s * q := by rw [IntKind.wrap_i64]; rcases hs with rfl | rfl <;> omega
  have q6 : IntKind.i64.wrap (s * r) = s * r := by rw [IntKind.wrap_i64]; rcases hs with rfl | rfl <;> omega
  have r6 : IntKind.i64.wrap (f + s * r) = f + s * r := by rw [IntKind.wrap_i64]; rcases hs with rfl | rfl <;> omega
  rw [ha] at hA
  rw [hb] at hB
  have HA := Lib.hid hA
  have HB := Lib.hid hB
  have hgd : cbG a b c d e f x y z p q r = true := by unfold cbG; rw [ha, hb]; rfl
  clear h1 h2 h3 h4 h5 h6 k1 k2 k3 k4 k5 k6 hs ha hb hA hB
  cases hc : cbS s a b c d e f x y z p q r
  all_goals
    have hE := hc
    unfold cbS at hc
    rw [hc] at hC
    have HC := Lib.hid hC
  · have hv : cbV s a b c d e f x y z p q r = .tuple #[.agg #[.int .i64 0, .int .i64 0, .int .i64 0, .int .i64 0, .int .i64 0, .int .i64 0], .int .i64 3] := by simp [cbV, cb, cbE, hgd, hE]
    rw [hv]
    clear hc hC hv hE hgd
    go_enter Tryd.func81, Tryd.ntmps81
    go_wp2_with fail
    ((with_reducible refine (HA.out _).mono ?_); rintro en v1 ⟨rfl, e1⟩)
    obtain ⟨hz1, hc1, hf1⟩ := bcl e1 (by first | (simp; rfl) | rfl)
    have z1 : w.heap.size < v1.heap.size := by omega
    have z2 : w.heap.size + 1 < v1.heap.size := by omega
    have z3 : w.heap.size + 1 + 1 < v1.heap.size := by omega
    go_wp2_with fail
    ((with_reducible refine (HB.out _).mono ?_); rintro en v2 ⟨rfl, e2⟩)
    obtain ⟨hz2, hc2, hf2⟩ := bcl e2 (by first | (simp; rfl) | rfl)
    have y1 : w.heap.size < v2.heap.size := by omega
    have y2 : w.heap.size + 1 < v2.heap.size := by omega
    have y3 : w.heap.size + 1 + 1 < v2.heap.size := by omega
    go_wp2_with fail
    refine wp_loop_rounds 7 ?_
    iterate 6 (rw [rounds_succ]; go_wp2)
    refine rounds_letter ?_
    intro W3 hW3
    have k3 : Below w.heap.size w W3 := by
      rw [hW3]
      repeat (first | (with_reducible exact bl_refl _) | (with_reducible refine bl_alloc ?_ _) | (with_reducible refine bl_set' ?_ ?_; · (dsimp only; omega)) | (with_reducible refine bl_last (by assumption) ?_))
    have hD : Blk W3 w.heap.size 72 #[.int .i64 (a + s * x), .int .i64 (b + s * y), .int .i64 (c + s * z), .int .i64 (d + s * p), .int .i64 (e + s * q), .int .i64 (f + s * r)] := by
      rw [hW3]
      repeat (first | (with_reducible apply Blk.new) | (with_reducible apply blk_s) | (with_reducible apply blk_up (hb := by assumption)) | (with_reducible apply Blk.alloc))
      all_goals rfl
    have hR : Blk W3 (w.heap.size + 1 + 1) 72 #[.int .i64 0, .int .i64 0, .int .i64 0, .int .i64 0, .int .i64 0, .int .i64 0] := by
      rw [hW3]
      repeat (first | (with_reducible apply Blk.new) | (with_reducible exact blkAt _ _ _ _ (by simp; done)) | (with_reducible apply blk_far (hne := by omega)) | (with_reducible apply blk_up (hb := by assumption)) | (with_reducible apply Blk.alloc))
    clear hW3 e1 e2 hz1 hc1 hf1 hz2 hc2 hf2 z1 z2 z3 y1 y2 y3
    have zD := hD.lt
    have zR := hR.lt
    have t0 := hD.cell 0
    have t1 := hD.cell 1
    have t2 := hD.cell 2
    have t3 := hD.cell 3
    have t4 := hD.cell 4
    have t5 := hD.cell 5
    have u0 := hR.cell 0
    have u1 := hR.cell 1
    have u2 := hR.cell 2
    have u3 := hR.cell 3
    have u4 := hR.cell 4
    have u5 := hR.cell 5
    have g0 := hR.frozen 0
    have g1 := hR.frozen 1
    have g2 := hR.frozen 2
    have g3 := hR.frozen 3
    have g4 := hR.frozen 4
    have g5 := hR.frozen 5
    simp only [List.getElem?_toArray, List.getElem?_cons_zero, List.getElem?_cons_succ] at t0 t1 t2 t3 t4 t5 u0 u1 u2 u3 u4 u5
    rw [rounds_succ]
    go_wp2_with (go_at_call 80; ((with_reducible refine (HC.out _).mono ?_); rintro e w' ⟨rfl, hb⟩; obtain ⟨hz, hc, hf⟩ := bcl hb (by first | (simp; rfl) | rfl)))
    (refine bodyPost_ret (v := .tuple #[.agg #[.int .i64 0, .int .i64 0, .int .i64 0, .int .i64 0, .int .i64 0, .int .i64 0], .int .i64 3]) (by simp only [results, Tryd.results81]; go_simp) rfl ⟨rfl, ?_⟩)
    repeat (first | (with_reducible exact k3) | (with_reducible refine bl_set' ?_ ?_; · (dsimp only; omega)) | (with_reducible refine bl_last (by assumption) ?_))
  · have hv : cbV s a b c d e f x y z p q r = .tuple #[.agg #[.int .i64 (a + s * x), .int .i64 (b + s * y), .int .i64 (c + s * z), .int .i64 (d + s * p), .int .i64 (e + s * q), .int .i64 (f + s * r)], .int .i64 0] := by simp [cbV, cb, cbE, hgd, hE]
    rw [hv]
    clear hc hC hv hE hgd
    go_enter Tryd.func81, Tryd.ntmps81
    go_wp2_with fail
    ((with_reducible refine (HA.out _).mono ?_); rintro en v1 ⟨rfl, e1⟩)
    obtain ⟨hz1, hc1, hf1⟩ := bcl e1 (by first | (simp; rfl) | rfl)
    have z1 : w.heap.size < v1.heap.size := by omega
    have z2 : w.heap.size + 1 < v1.heap.size := by omega
    have z3 : w.heap.size + 1 + 1 < v1.heap.size := by omega
    go_wp2_with fail
    ((with_reducible refine (HB.out _).mono ?_); rintro en v2 ⟨rfl, e2⟩)
    obtain ⟨hz2, hc2, hf2⟩ := bcl e2 (by first | (simp; rfl) | rfl)
    have y1 : w.heap.size < v2.heap.size := by omega
    have y2 : w.heap.size + 1 < v2.heap.size := by omega
    have y3 : w.heap.size + 1 + 1 < v2.heap.size := by omega
    go_wp2_with fail
    refine wp_loop_rounds 7 ?_
    iterate 6 (rw [rounds_succ]; go_wp2)
    refine rounds_letter ?_
    intro W3 hW3
    have k3 : Below w.heap.size w W3 := by
      rw [hW3]
      repeat (first | (with_reducible exact bl_refl _) | (with_reducible refine bl_alloc ?_ _) | (with_reducible refine bl_set' ?_ ?_; · (dsimp only; omega)) | (with_reducible refine bl_last (by assumption) ?_))
    have hD : Blk W3 w.heap.size 72 #[.int .i64 (a + s * x), .int .i64 (b + s * y), .int .i64 (c + s * z), .int .i64 (d + s * p), .int .i64 (e + s * q), .int .i64 (f + s * r)] := by
      rw [hW3]
      repeat (first | (with_reducible apply Blk.new) | (with_reducible apply blk_s) | (with_reducible apply blk_up (hb := by assumption)) | (with_reducible apply Blk.alloc))
      all_goals rfl
    have hR : Blk W3 (w.heap.size + 1 + 1) 72 #[.int .i64 0, .int .i64 0, .int .i64 0, .int .i64 0, .int .i64 0, .int .i64 0] := by
      rw [hW3]
      repeat (first | (with_reducible apply Blk.new) | (with_reducible exact blkAt _ _ _ _ (by simp; done)) | (with_reducible apply blk_far (hne := by omega)) | (with_reducible apply blk_up (hb := by assumption)) | (with_reducible apply Blk.alloc))
    clear hW3 e1 e2 hz1 hc1 hf1 hz2 hc2 hf2 z1 z2 z3 y1 y2 y3
    have zD := hD.lt
    have zR := hR.lt
    have t0 := hD.cell 0
    have t1 := hD.cell 1
    have t2 := hD.cell 2
    have t3 := hD.cell 3
    have t4 := hD.cell 4
    have t5 := hD.cell 5
    have u0 := hR.cell 0
    have u1 := hR.cell 1
    have u2 := hR.cell 2
    have u3 := hR.cell 3
    have u4 := hR.cell 4
    have u5 := hR.cell 5
    have g0 := hR.frozen 0
    have g1 := hR.frozen 1
    have g2 := hR.frozen 2
    have g3 := hR.frozen 3
    have g4 := hR.frozen 4
    have g5 := hR.frozen 5
    simp only [List.getElem?_toArray, List.getElem?_cons_zero, List.getElem?_cons_succ] at t0 t1 t2 t3 t4 t5 u0 u1 u2 u3 u4 u5
    rw [rounds_succ]
    go_wp2_with (go_at_call 80; ((with_reducible refine (HC.out _).mono ?_); rintro e w' ⟨rfl, hb⟩; obtain ⟨hz, hc, hf⟩ := bcl hb (by first | (simp; rfl) | rfl)))
    (refine bodyPost_ret (v := .tuple #[.agg #[.int .i64 (a + s * x), .int .i64 (b + s * y), .int .i64 (c + s * z), .int .i64 (d + s * p), .int .i64 (e + s * q), .int .i64 (f + s * r)], .int .i64 0]) (by simp only [results, Tryd.results81]; go_simp) rfl ⟨rfl, ?_⟩)
    repeat (first | (with_reducible exact k3) | (with_reducible refine bl_set' ?_ ?_; · (dsimp only; omega)) | (with_reducible refine bl_last (by assumption) ?_))
set_option maxHeartbeats 2000000 in
theorem PDiv_c (a b c d e f x y z p q r : Int) (w : World) : Calls Tryd.prog 28 #[.agg #[.int .i64 a, .int .i64 b, .int .i64 c, .int .i64 d, .int .i64 e, .int .i64 f], .agg #[.int .i64 x, .int .i64 y, .int .i64 z, .int .i64 p, .int .i64 q, .int .i64 r]] w (Ret (cbV (-1) a b c d e f x y z p q r) w) := by
  have hC := fun w => combine_c (-1) a b c d e f x y z p q r w (by decide)
  obtain ⟨m1, m2, m3, m4, m5, m6, E, hv⟩ : ∃ m1 m2 m3 m4 m5 m6 E : Int, cbV (-1) a b c d e f x y z p q r = .tuple #[.agg #[.int .i64 m1, .int .i64 m2, .int .i64 m3, .int .i64 m4, .int .i64 m5, .int .i64 m6], .int .i64 E] := ⟨_, _, _, _, _, _, _, rfl⟩
  rw [hv] at hC ⊢
  have HC := Lib.hid hC
  clear hC hv
  go_enter Tryd.func28, Tryd.ntmps28
  go_wp2_with (go_at_call 81; ((with_reducible refine (HC.out _).mono ?_); rintro e w' ⟨rfl, hb⟩; obtain ⟨hz, hc, hf⟩ := bcl hb (by first | (simp; rfl) | rfl)))
  (refine bodyPost_ret (v := .tuple #[.agg #[.int .i64 m1, .int .i64 m2, .int .i64 m3, .int .i64 m4, .int .i64 m5, .int .i64 m6], .int .i64 E]) (by simp only [results, Tryd.results28]; go_simp) rfl ⟨rfl, ?_⟩)
  (repeat (first | (with_reducible exact bl_refl _) | (with_reducible refine bl_drew ?_) | (with_reducible refine bl_alloc ?_ _) | (with_reducible refine bl_set' ?_ ?_; · (first | omega | (simp; done) | (simp; omega))) | (with_reducible refine bl_last (by assumption) ?_) | (with_reducible refine bl_drewN ?_ _)))
def pwG (a b c d e f n d' : Int) : Bool := pV a b c d e f 576 && (decide (-576 ≤ n) && (decide (n ≤ 576) && (decide (1 ≤ d') && decide (d' ≤ 12))))
def pwK (a n d : Int) : Bool := decide ((a * n).tmod d = 0)
def pq (a n d : Int) : Int := (a * n).tdiv d
def pwA (a b c d e f n d' : Int) : Bool := pwK a n d' && pwK b n d' && pwK c n d' && pwK d n d' && pwK e n d' && pwK f n d'
def pwS (a b c d e f n d' : Int) : Bool := pV (pq a n d') (pq b n d') (pq c n d') (pq d n d') (pq e n d') (pq f n d') 576
def pwE (a b c d e f n d' : Int) : Int := if pwG a b c d e f n d' then (if pwA a b c d e f n d' then (if pwS a b c d e f n d' then 0 else 3) else 9) else 1
def pw (E a n d : Int) : Int := if E = 0 then pq a n d else 0
def pwV (a b c d e f n d' : Int) : Value := .tuple #[.agg #[.int .i64 (pw (pwE a b c d e f n d') a n d'), .int .i64 (pw (pwE a b c d e f n d') b n d'), .int .i64 (pw (pwE a b c d e f n d') c n d'), .int .i64 (pw (pwE a b c d e f n d') d n d'), .int .i64 (pw (pwE a b c d e f n d') e n d'), .int .i64 (pw (pwE a b c d e f n d') f n d')], .int .i64 (pwE a b c d e f n d')]
theorem pwG_ways {a b c d e f n d' : Int} (h : pwG a b c d e f n d' = false) : pV a b c d e f 576 = false ∨ (pV a b c d e f 576 = true ∧ n < -576) ∨ (pV a b c d e f 576 = true ∧ -576 ≤ n ∧ 576 < n) ∨ (pV a b c d e f 576 = true ∧ -576 ≤ n ∧ n ≤ 576 ∧ d' < 1) ∨ (pV a b c d e f 576 = true ∧ -576 ≤ n ∧ n ≤ 576 ∧ 1 ≤ d' ∧ 12 < d') := by
  unfold pwG at h
  cases h1 : pV a b c d e f 576
  · exact Or.inl rfl
  · rw [h1, Bool.true_and] at h
    simp at h
    by_cases g1 : n < -576
    · exact Or.inr (Or.inl ⟨rfl, g1⟩)
    · by_cases g2 : 576 < n
      · exact Or.inr (Or.inr (Or.inl ⟨rfl, by omega, g2⟩))
      · by_cases g3 : d' < 1
        · exact Or.inr (Or.inr (Or.inr (Or.inl ⟨rfl, by omega, by omega, g3⟩)))
        · exact Or.inr (Or.inr (Or.inr (Or.inr ⟨rfl, by omega, by omega, by omega, by omega⟩)))
theorem pwG_of {a b c d e f n d' : Int} (h : pwG a b c d e f n d' = true) : pV a b c d e f 576 = true ∧ -576 ≤ n ∧ n ≤ 576 ∧ 1 ≤ d' ∧ d' ≤ 12 := by simpa [pwG] using h
theorem mul_bd {a n : Int} (h : -576 ≤ a) (h' : a ≤ 576) (k : -576 ≤ n) (k' : n ≤ 576) : -331776 ≤ a * n ∧ a * n ≤ 331776 := by
  have h1 : (a * n).natAbs ≤ 576 * 576 := by rw [Int.natAbs_mul]; exact Nat.mul_le_mul (by omega) (by omega)
  omega
theorem tdiv_bd {x d : Int} (h : -331776 ≤ x) (h' : x ≤ 331776) : -331776 ≤ x.tdiv d ∧ x.tdiv d ≤ 331776 := by
  have h1 : (x.tdiv d).natAbs ≤ x.natAbs := by rw [Int.natAbs_tdiv]; exact Nat.div_le_self _ _
  omega
set_option maxRecDepth 100000 in
set_option maxHeartbeats 8000000 in
theorem PPower_c (a b c d e f n d' : Int) (w : World) : Calls Tryd.prog 94 #[.agg #[.int .i64 a, .int .i64 b, .int .i64 c, .int .i64 d, .int .i64 e, .int .i64 f], .int .i64 n, .int .i64 d'] w (Ret (pwV a b c d e f n d') w) := by
  have hA := fun w => PVld_c a b c d e f w
  have hC := fun w => PVld_c (pq a n d') (pq b n d') (pq c n d') (pq d n d') (pq e n d') (pq f n d') w
  cases hg : pwG a b c d e f n d'
  · have hv : pwV a b c d e f n d' = .tuple #[.agg #[.int .i64 0, .int .i64 0, .int .i64 0, .int .i64 0, .int .i64 0, .int .i64 0], .int .i64 1] := by simp [pwV, pw, pwE, hg]
    rw [hv]
    rcases pwG_ways hg with h1 | ⟨h1, h2⟩ | ⟨h1, h2, h3⟩ | ⟨h1, h2, h3, h4⟩ | ⟨h1, h2, h3, h4, h5⟩
    all_goals
      rw [h1] at hA
      have HA := Lib.hid hA
      clear hg hv hA hC h1
      go_enter Tryd.func94, Tryd.ntmps94
      go_wp2_with (go_at_call 80; ((with_reducible refine (HA.out _).mono ?_); rintro e w' ⟨rfl, hb⟩; obtain ⟨hz, hc, hf⟩ := bcl hb (by first | (simp; rfl) | rfl)))
      (refine bodyPost_ret (v := .tuple #[.agg #[.int .i64 0, .int .i64 0, .int .i64 0, .int .i64 0, .int .i64 0, .int .i64 0], .int .i64 1]) (by simp only [results, Tryd.results94]; go_simp) rfl ⟨rfl, ?_⟩)
      (repeat (first | (with_reducible exact bl_refl _) | (with_reducible refine bl_drew ?_) | (with_reducible refine bl_alloc ?_ _) | (with_reducible refine bl_set' ?_ ?_; · (first | omega | (simp; done) | (simp; omega))) | (with_reducible refine bl_last (by assumption) ?_) | (with_reducible refine bl_drewN ?_ _)))
  obtain ⟨h0, n1, n2, d1, d2⟩ := pwG_of hg
  obtain ⟨h1, h2, h3, h4, h5, h6⟩ := pV_of h0
  rw [h0] at hA
  have HA := Lib.hid hA
  have hd0 : d' ≠ 0 := by omega
  have h1 := wi_of h1
  have m1 := mul_bd h1.1 h1.2 n1 n2
  have v1 := tdiv_bd (d := d') m1.1 m1.2
  have w1 : IntKind.i64.wrap (a * n) = a * n := by rw [IntKind.wrap_i64]; omega
  have y1 : IntKind.i64.wrap (pq a n d') = pq a n d' := by unfold pq; rw [IntKind.wrap_i64]; omega
  have h2 := wi_of h2
  have m2 := mul_bd h2.1 h2.2 n1 n2
  have v2 := tdiv_bd (d := d') m2.1 m2.2
  have w2 : IntKind.i64.wrap (b * n) = b * n := by rw [IntKind.wrap_i64]; omega
  have y2 : IntKind.i64.wrap (pq b n d') = pq b n d' := by unfold pq; rw [IntKind.wrap_i64]; omega
  have h3 := wi_of h3
  have m3 := mul_bd h3.1 h3.2 n1 n2
  have v3 := tdiv_bd (d := d') m3.1 m3.2
  have w3 : IntKind.i64.wrap (c * n) = c * n := by rw [IntKind.wrap_i64]; omega
  have y3 : IntKind.i64.wrap (pq c n d') = pq c n d' := by unfold pq; rw [IntKind.wrap_i64]; omega
  have h4 := wi_of h4
  have m4 := mul_bd h4.1 h4.2 n1 n2
  have v4 := tdiv_bd (d := d') m4.1 m4.2
  have w4 : IntKind.i64.wrap (d * n) = d * n := by rw [IntKind.wrap_i64]; omega
  have y4 : IntKind.i64.wrap (pq d n d') = pq d n d' := by unfold pq; rw [IntKind.wrap_i64]; omega
  have h5 := wi_of h5
  have m5 := mul_bd h5.1 h5.2 n1 n2
  have v5 := tdiv_bd (d := d') m5.1 m5.2
  have w5 : IntKind.i64.wrap (e * n) = e * n := by rw [IntKind.wrap_i64]; omega
  have y5 : IntKind.i64.wrap (pq e n d') = pq e n d' := by unfold pq; rw [IntKind.wrap_i64]; omega
  have h6 := wi_of h6
  have m6 := mul_bd h6.1 h6.2 n1 n2
  have v6 := tdiv_bd (d := d') m6.1 m6.2
  have w6 : IntKind.i64.wrap (f * n) = f * n := by rw [IntKind.wrap_i64]; omega
  have y6 : IntKind.i64.wrap (pq f n d') = pq f n d' := by unfold pq; rw [IntKind.wrap_i64]; omega
  clear m1 m2 m3 m4 m5 m6 v1 v2 v3 v4 v5 v6 h1 h2 h3 h4 h5 h6 h0 hA
  unfold pq at y1 y2 y3 y4 y5 y6
  cases k0 : pwK a n d'
  · have hv : pwV a b c d e f n d' = .tuple #[.agg #[.int .i64 0, .int .i64 0, .int .i64 0, .int .i64 0, .int .i64 0, .int .i64 0], .int .i64 9] := by simp [pwV, pw, pwE, pwA, hg, k0]
    rw [hv]
    have t0 : ¬ (a * n).tmod d' = 0 := of_decide_eq_false k0
    have u0 : ((a * n).tmod d' != 0) = true := by simpa using t0
    clear hv hg hC k0
    go_enter Tryd.func94, Tryd.ntmps94
    go_wp2_with (go_at_call 80; ((with_reducible refine (HA.out _).mono ?_); rintro e w' ⟨rfl, hb⟩; obtain ⟨hz, hc, hf⟩ := bcl hb (by first | (simp; rfl) | rfl)))
    refine wp_loop_rounds 7 ?_
    iterate 1 (rw [rounds_succ]; go_wp2)
    (refine bodyPost_ret (v := .tuple #[.agg #[.int .i64 0, .int .i64 0, .int .i64 0, .int .i64 0, .int .i64 0, .int .i64 0], .int .i64 9]) (by simp only [results, Tryd.results94]; go_simp) rfl ⟨rfl, ?_⟩)
    (repeat (first | (with_reducible exact bl_refl _) | (with_reducible refine bl_drew ?_) | (with_reducible refine bl_alloc ?_ _) | (with_reducible refine bl_set' ?_ ?_; · (first | omega | (simp; done) | (simp; omega))) | (with_reducible refine bl_last (by assumption) ?_) | (with_reducible refine bl_drewN ?_ _)))
  have t0 : (a * n).tmod d' = 0 := of_decide_eq_true k0
  cases k1 : pwK b n d'
  · have hv : pwV a b c d e f n d' = .tuple #[.agg #[.int .i64 0, .int .i64 0, .int .i64 0, .int .i64 0, .int .i64 0, .int .i64 0], .int .i64 9] := by simp [pwV, pw, pwE, pwA, hg, k0, k1]
    rw [hv]
    have t1 : ¬ (b * n).tmod d' = 0 := of_decide_eq_false k1
    have u1 : ((b * n).tmod d' != 0) = true := by simpa using t1
    clear hv hg hC k1
    go_enter Tryd.func94, Tryd.ntmps94
    go_wp2_with (go_at_call 80; ((with_reducible refine (HA.out _).mono ?_); rintro e w' ⟨rfl, hb⟩; obtain ⟨hz, hc, hf⟩ := bcl hb (by first | (simp; rfl) | rfl)))
    refine wp_loop_rounds 7 ?_
    iterate 2 (rw [rounds_succ]; go_wp2)
    (refine bodyPost_ret (v := .tuple #[.agg #[.int .i64 0, .int .i64 0, .int .i64 0, .int .i64 0, .int .i64 0, .int .i64 0], .int .i64 9]) (by simp only [results, Tryd.results94]; go_simp) rfl ⟨rfl, ?_⟩)
    (repeat (first | (with_reducible exact bl_refl _) | (with_reducible refine bl_drew ?_) | (with_reducible refine bl_alloc ?_ _) | (with_reducible refine bl_set' ?_ ?_; · (first | omega | (simp; done) | (simp; omega))) | (with_reducible refine bl_last (by assumption) ?_) | (with_reducible refine bl_drewN ?_ _)))
  have t1 : (b * n).tmod d' = 0 := of_decide_eq_true k1
  cases k2 : pwK c n d'
  · have hv : pwV a b c d e f n d' = .tuple #[.agg #[.int .i64 0, .int .i64 0, .int .i64 0, .int .i64 0, .int .i64 0, .int .i64 0], .int .i64 9] := by simp [pwV, pw, pwE, pwA, hg, k0, k1, k2]
    rw [hv]
    have t2 : ¬ (c * n).tmod d' = 0 := of_decide_eq_false k2
    have u2 : ((c * n).tmod d' != 0) = true := by simpa using t2
    clear hv hg hC k2
    go_enter Tryd.func94, Tryd.ntmps94
    go_wp2_with (go_at_call 80; ((with_reducible refine (HA.out _).mono ?_); rintro e w' ⟨rfl, hb⟩; obtain ⟨hz, hc, hf⟩ := bcl hb (by first | (simp; rfl) | rfl)))
    refine wp_loop_rounds 7 ?_
    iterate 3 (rw [rounds_succ]; go_wp2)
    (refine bodyPost_ret (v := .tuple #[.agg #[.int .i64 0, .int .i64 0, .int .i64 0, .int .i64 0, .int .i64 0, .int .i64 0], .int .i64 9]) (by simp only [results, Tryd.results94]; go_simp) rfl ⟨rfl, ?_⟩)
    (repeat (first | (with_reducible exact bl_refl _) | (with_reducible refine bl_drew ?_) | (with_reducible refine bl_alloc ?_ _) | (with_reducible refine bl_set' ?_ ?_; · (first | omega | (simp; done) | (simp; omega))) | (with_reducible refine bl_last (by assumption) ?_) | (with_reducible refine bl_drewN ?_ _)))
  have t2 : (c * n).tmod d' = 0 := of_decide_eq_true k2
  cases k3 : pwK d n d'
  · have hv : pwV a b c d e f n d' = .tuple #[.agg #[.int .i64 0, .int .i64 0, .int .i64 0, .int .i64 0, .int .i64 0, .int .i64 0], .int .i64 9] := by simp [pwV, pw, pwE, pwA, hg, k0, k1, k2, k3]
    rw [hv]
    have t3 : ¬ (d * n).tmod d' = 0 := of_decide_eq_false k3
    have u3 : ((d * n).tmod d' != 0) = true := by simpa using t3
    clear hv hg hC k3
    go_enter Tryd.func94, Tryd.ntmps94
    go_wp2_with (go_at_call 80; ((with_reducible refine (HA.out _).mono ?_); rintro e w' ⟨rfl, hb⟩; obtain ⟨hz, hc, hf⟩ := bcl hb (by first | (simp; rfl) | rfl)))
    refine wp_loop_rounds 7 ?_
    iterate 4 (rw [rounds_succ]; go_wp2)
    (refine bodyPost_ret (v := .tuple #[.agg #[.int .i64 0, .int .i64 0, .int .i64 0, .int .i64 0, .int .i64 0, .int .i64 0], .int .i64 9]) (by simp only [results, Tryd.results94]; go_simp) rfl ⟨rfl, ?_⟩)
    (repeat (first | (with_reducible exact bl_refl _) | (with_reducible refine bl_drew ?_) | (with_reducible refine bl_alloc ?_ _) | (with_reducible refine bl_set' ?_ ?_; · (first | omega | (simp; done) | (simp; omega))) | (with_reducible refine bl_last (by assumption) ?_) | (with_reducible refine bl_drewN ?_ _)))
  have t3 : (d * n).tmod d' = 0 := of_decide_eq_true k3
  cases k4 : pwK e n d'
  · have hv : pwV a b c d e f n d' = .tuple #[.agg #[.int .i64 0, .int .i64 0, .int .i64 0, .int .i64 0, .int .i64 0, .int .i64 0], .int .i64 9] := by simp [pwV, pw, pwE, pwA, hg, k0, k1, k2, k3, k4]
    rw [hv]
    have t4 : ¬ (e * n).tmod d' = 0 := of_decide_eq_false k4
    have u4 : ((e * n).tmod d' != 0) = true := by simpa using t4
    clear hv hg hC k4
    go_enter Tryd.func94, Tryd.ntmps94
    go_wp2_with (go_at_call 80; ((with_reducible refine (HA.out _).mono ?_); rintro e w' ⟨rfl, hb⟩; obtain ⟨hz, hc, hf⟩ := bcl hb (by first | (simp; rfl) | rfl)))
    refine wp_loop_rounds 7 ?_
    iterate 5 (rw [rounds_succ]; go_wp2)
    (refine bodyPost_ret (v := .tuple #[.agg #[.int .i64 0, .int .i64 0, .int .i64 0, .int .i64 0, .int .i64 0, .int .i64 0], .int .i64 9]) (by simp only [results, Tryd.results94]; go_simp) rfl ⟨rfl, ?_⟩)
    (repeat (first | (with_reducible exact bl_refl _) | (with_reducible refine bl_drew ?_) | (with_reducible refine bl_alloc ?_ _) | (with_reducible refine bl_set' ?_ ?_; · (first | omega | (simp; done) | (simp; omega))) | (with_reducible refine bl_last (by assumption) ?_) | (with_reducible refine bl_drewN ?_ _)))
  have t4 : (e * n).tmod d' = 0 := of_decide_eq_true k4
  cases k5 : pwK f n d'
  · have hv : pwV a b c d e f n d' = .tuple #[.agg #[.int .i64 0, .int .i64 0, .int .i64 0, .int .i64 0, .int .i64 0, .int .i64 0], .int .i64 9] := by simp [pwV, pw, pwE, pwA, hg, k0, k1, k2, k3, k4, k5]
    rw [hv]
    have t5 : ¬ (f * n).tmod d' = 0 := of_decide_eq_false k5
    have u5 : ((f * n).tmod d' != 0) = true := by simpa using t5
    clear hv hg hC k5
    go_enter Tryd.func94, Tryd.ntmps94
    go_wp2_with (go_at_call 80; ((with_reducible refine (HA.out _).mono ?_); rintro e w' ⟨rfl, hb⟩; obtain ⟨hz, hc, hf⟩ := bcl hb (by first | (simp; rfl) | rfl)))
    refine wp_loop_rounds 7 ?_
    iterate 6 (rw [rounds_succ]; go_wp2)
    (refine bodyPost_ret (v := .tuple #[.agg #[.int .i64 0, .int .i64 0, .int .i64 0, .int .i64 0, .int .i64 0, .int .i64 0], .int .i64 9]) (by simp only [results, Tryd.results94]; go_simp) rfl ⟨rfl, ?_⟩)
    (repeat (first | (with_reducible exact bl_refl _) | (with_reducible refine bl_drew ?_) | (with_reducible refine bl_alloc ?_ _) | (with_reducible refine bl_set' ?_ ?_; · (first | omega | (simp; done) | (simp; omega))) | (with_reducible refine bl_last (by assumption) ?_) | (with_reducible refine bl_drewN ?_ _)))
  have t5 : (f * n).tmod d' = 0 := of_decide_eq_true k5
  cases hs : pwS a b c d e f n d'
  all_goals
    have hE := hs
    unfold pwS at hs
    rw [hs] at hC
    have HC := Lib.hid hC
  · have hv : pwV a b c d e f n d' = .tuple #[.agg #[.int .i64 0, .int .i64 0, .int .i64 0, .int .i64 0, .int .i64 0, .int .i64 0], .int .i64 3] := by simp [pwV, pw, pwE, pwA, hg, hE, k0, k1, k2, k3, k4, k5]
    rw [hv]
    clear hv hg hC hs hE k0 k1 k2 k3 k4 k5
    unfold pq at HC
    go_enter Tryd.func94, Tryd.ntmps94
    go_wp2_with (go_at_call 80; ((with_reducible refine (HA.out _).mono ?_); rintro e w' ⟨rfl, hb⟩; obtain ⟨hz, hc, hf⟩ := bcl hb (by first | (simp; rfl) | rfl)))
    refine wp_loop_rounds 7 ?_
    iterate 6 (rw [rounds_succ]; go_wp2)
    refine rounds_letter ?_
    intro W3 hW3
    have k3 : Below w.heap.size w W3 := by
      rw [hW3]
      repeat (first | (with_reducible exact bl_refl _) | (with_reducible refine bl_alloc ?_ _) | (with_reducible refine bl_set' ?_ ?_; · (dsimp only; omega)) | (with_reducible refine bl_last (by assumption) ?_))
    have hD : Blk W3 w.heap.size 72 #[.int .i64 ((a * n).tdiv d'), .int .i64 ((b * n).tdiv d'), .int .i64 ((c * n).tdiv d'), .int .i64 ((d * n).tdiv d'), .int .i64 ((e * n).tdiv d'), .int .i64 ((f * n).tdiv d')] := by
      rw [hW3]
      repeat (first | (with_reducible apply Blk.new) | (with_reducible apply blk_s) | (with_reducible apply blk_up (hb := by assumption)) | (with_reducible apply Blk.alloc))
      all_goals rfl
    have hR : Blk W3 (w.heap.size + 1) 72 #[.int .i64 0, .int .i64 0, .int .i64 0, .int .i64 0, .int .i64 0, .int .i64 0] := by
      rw [hW3]
      repeat (first | (with_reducible apply Blk.new) | (with_reducible exact blkAt _ _ _ _ (by simp; done)) | (with_reducible apply blk_far (hne := by omega)) | (with_reducible apply blk_up (hb := by assumption)) | (with_reducible apply Blk.alloc))
    clear hW3
    have zD := hD.lt
    have zR := hR.lt
    have e0 := hD.cell 0
    have e1 := hD.cell 1
    have e2 := hD.cell 2
    have e3 := hD.cell 3
    have e4 := hD.cell 4
    have e5 := hD.cell 5
    have f0 := hR.cell 0
    have f1 := hR.cell 1
    have f2 := hR.cell 2
    have f3 := hR.cell 3
    have f4 := hR.cell 4
    have f5 := hR.cell 5
    have g0 := hR.frozen 0
    have g1 := hR.frozen 1
    have g2 := hR.frozen 2
    have g3 := hR.frozen 3
    have g4 := hR.frozen 4
    have g5 := hR.frozen 5
    simp only [List.getElem?_toArray, List.getElem?_cons_zero, List.getElem?_cons_succ] at e0 e1 e2 e3 e4 e5 f0 f1 f2 f3 f4 f5
    rw [rounds_succ]
    go_wp2_with (go_at_call 80; ((with_reducible refine (HC.out _).mono ?_); rintro e w' ⟨rfl, hb⟩; obtain ⟨hz, hc, hf⟩ := bcl hb (by first | (simp; rfl) | rfl)))
    (refine bodyPost_ret (v := .tuple #[.agg #[.int .i64 0, .int .i64 0, .int .i64 0, .int .i64 0, .int .i64 0, .int .i64 0], .int .i64 3]) (by simp only [results, Tryd.results94]; go_simp) rfl ⟨rfl, ?_⟩)
    repeat (first | (with_reducible exact k3) | (with_reducible refine bl_set' ?_ ?_; · (dsimp only; omega)) | (with_reducible refine bl_last (by assumption) ?_))
  · have hv : pwV a b c d e f n d' = .tuple #[.agg #[.int .i64 ((a * n).tdiv d'), .int .i64 ((b * n).tdiv d'), .int .i64 ((c * n).tdiv d'), .int .i64 ((d * n).tdiv d'), .int .i64 ((e * n).tdiv d'), .int .i64 ((f * n).tdiv d')], .int .i64 0] := by simp [pwV, pw, pwE, pwA, pq, hg, hE, k0, k1, k2, k3, k4, k5]
    rw [hv]
    clear hv hg hC hs hE k0 k1 k2 k3 k4 k5
    unfold pq at HC
    go_enter Tryd.func94, Tryd.ntmps94
    go_wp2_with (go_at_call 80; ((with_reducible refine (HA.out _).mono ?_); rintro e w' ⟨rfl, hb⟩; obtain ⟨hz, hc, hf⟩ := bcl hb (by first | (simp; rfl) | rfl)))
    refine wp_loop_rounds 7 ?_
    iterate 6 (rw [rounds_succ]; go_wp2)
    refine rounds_letter ?_
    intro W3 hW3
    have k3 : Below w.heap.size w W3 := by
      rw [hW3]
      repeat (first | (with_reducible exact bl_refl _) | (with_reducible refine bl_alloc ?_ _) | (with_reducible refine bl_set' ?_ ?_; · (dsimp only; omega)) | (with_reducible refine bl_last (by assumption) ?_))
    have hD : Blk W3 w.heap.size 72 #[.int .i64 ((a * n).tdiv d'), .int .i64 ((b * n).tdiv d'), .int .i64 ((c * n).tdiv d'), .int .i64 ((d * n).tdiv d'), .int .i64 ((e * n).tdiv d'), .int .i64 ((f * n).tdiv d')] := by
      rw [hW3]
      repeat (first | (with_reducible apply Blk.new) | (with_reducible apply blk_s) | (with_reducible apply blk_up (hb := by assumption)) | (with_reducible apply Blk.alloc))
      all_goals rfl
    have hR : Blk W3 (w.heap.size + 1) 72 #[.int .i64 0, .int .i64 0, .int .i64 0, .int .i64 0, .int .i64 0, .int .i64 0] := by
      rw [hW3]
      repeat (first | (with_reducible apply Blk.new) | (with_reducible exact blkAt _ _ _ _ (by simp; done)) | (with_reducible apply blk_far (hne := by omega)) | (with_reducible apply blk_up (hb := by assumption)) | (with_reducible apply Blk.alloc))
    clear hW3
    have zD := hD.lt
    have zR := hR.lt
    have e0 := hD.cell 0
    have e1 := hD.cell 1
    have e2 := hD.cell 2
    have e3 := hD.cell 3
    have e4 := hD.cell 4
    have e5 := hD.cell 5
    have f0 := hR.cell 0
    have f1 := hR.cell 1
    have f2 := hR.cell 2
    have f3 := hR.cell 3
    have f4 := hR.cell 4
    have f5 := hR.cell 5
    have g0 := hR.frozen 0
    have g1 := hR.frozen 1
    have g2 := hR.frozen 2
    have g3 := hR.frozen 3
    have g4 := hR.frozen 4
    have g5 := hR.frozen 5
    simp only [List.getElem?_toArray, List.getElem?_cons_zero, List.getElem?_cons_succ] at e0 e1 e2 e3 e4 e5 f0 f1 f2 f3 f4 f5
    rw [rounds_succ]
    go_wp2_with (go_at_call 80; ((with_reducible refine (HC.out _).mono ?_); rintro e w' ⟨rfl, hb⟩; obtain ⟨hz, hc, hf⟩ := bcl hb (by first | (simp; rfl) | rfl)))
    (refine bodyPost_ret (v := .tuple #[.agg #[.int .i64 ((a * n).tdiv d'), .int .i64 ((b * n).tdiv d'), .int .i64 ((c * n).tdiv d'), .int .i64 ((d * n).tdiv d'), .int .i64 ((e * n).tdiv d'), .int .i64 ((f * n).tdiv d')], .int .i64 0]) (by simp only [results, Tryd.results94]; go_simp) rfl ⟨rfl, ?_⟩)
    repeat (first | (with_reducible exact k3) | (with_reducible refine bl_set' ?_ ?_; · (dsimp only; omega)) | (with_reducible refine bl_last (by assumption) ?_))
end Go.Proofs.YtehifkdfbiebfaaDoor
