/- Pitch: the reference's Whole Mul Div Power (genrefp.py prints it). -/
import Derived.Test.YtgbiiaaeabflnaaDoorRefPA
namespace Go.Proofs.YtgbiiaaeabflnaaDoor
open Go Go.RowKit

set_option maxRecDepth 100000 in
set_option maxHeartbeats 8000000 in
theorem RWhole_c (a b c d e f : Int) (w : World) : Calls Tryd.prog 23 #[.agg #[.int .i64 a, .int .i64 b, .int .i64 c, .int .i64 d, .int .i64 e, .int .i64 f]] w (Ret (whV a b c d e f) w) := by
  have hA := fun w => RPVld_c a b c d e f w
  cases h0 : pV a b c d e f 576
  · have hv : whV a b c d e f = .tuple #[.agg #[.int .i64 0, .int .i64 0, .int .i64 0, .int .i64 0, .int .i64 0, .int .i64 0], .int .i64 1] := by simp [whV, h0]
    rw [hv]
    rw [h0] at hA
    have HA := Lib.hid hA
    clear h0 hv hA
    go_enter Tryd.func23, Tryd.ntmps23
    go_wp2_with (go_at_call 11; ((with_reducible refine (HA.out _).mono ?_); rintro e w' ⟨rfl, hb⟩; obtain ⟨hz, hc, hf⟩ := bcl hb (by first | (simp; rfl) | rfl)))
    (refine bodyPost_ret (v := .tuple #[.agg #[.int .i64 0, .int .i64 0, .int .i64 0, .int .i64 0, .int .i64 0, .int .i64 0], .int .i64 1]) (by simp only [results, Tryd.results23]; go_simp) rfl ⟨rfl, ?_⟩)
    (repeat (first | (with_reducible exact bl_refl _) | (with_reducible refine bl_drew ?_) | (with_reducible refine bl_alloc ?_ _) | (with_reducible refine bl_set' ?_ ?_; · (first | omega | (simp; done) | (simp; omega))) | (with_reducible refine bl_last (by assumption) ?_) | (with_reducible refine bl_drewN ?_ _)))
  obtain ⟨h1, h2, h3, h4, h5, h6⟩ := pV_of h0
  rw [h0] at hA
  have HA := Lib.hid hA
  have h1 := wi_of h1
  have v1 := tdiv_bd (x := a) (d := 12) (by omega) (by omega)
  have y1 : IntKind.i64.wrap (a.tdiv 12) = a.tdiv 12 := by rw [IntKind.wrap_i64]; omega
  have h2 := wi_of h2
  have v2 := tdiv_bd (x := b) (d := 12) (by omega) (by omega)
  have y2 : IntKind.i64.wrap (b.tdiv 12) = b.tdiv 12 := by rw [IntKind.wrap_i64]; omega
  have h3 := wi_of h3
  have v3 := tdiv_bd (x := c) (d := 12) (by omega) (by omega)
  have y3 : IntKind.i64.wrap (c.tdiv 12) = c.tdiv 12 := by rw [IntKind.wrap_i64]; omega
  have h4 := wi_of h4
  have v4 := tdiv_bd (x := d) (d := 12) (by omega) (by omega)
  have y4 : IntKind.i64.wrap (d.tdiv 12) = d.tdiv 12 := by rw [IntKind.wrap_i64]; omega
  have h5 := wi_of h5
  have v5 := tdiv_bd (x := e) (d := 12) (by omega) (by omega)
  have y5 : IntKind.i64.wrap (e.tdiv 12) = e.tdiv 12 := by rw [IntKind.wrap_i64]; omega
  have h6 := wi_of h6
  have v6 := tdiv_bd (x := f) (d := 12) (by omega) (by omega)
  have y6 : IntKind.i64.wrap (f.tdiv 12) = f.tdiv 12 := by rw [IntKind.wrap_i64]; omega
  clear v1 v2 v3 v4 v5 v6 h1 h2 h3 h4 h5 h6 hA
  cases k0 : whK a
  · have hv : whV a b c d e f = .tuple #[.agg #[.int .i64 0, .int .i64 0, .int .i64 0, .int .i64 0, .int .i64 0, .int .i64 0], .int .i64 9] := by simp [whV, h0, k0]
    rw [hv]
    have t0 : ¬ a.tmod 12 = 0 := of_decide_eq_false k0
    have u0 : (a.tmod 12 != 0) = true := by simpa using t0
    clear hv h0 k0
    go_enter Tryd.func23, Tryd.ntmps23
    go_wp2_with (go_at_call 11; ((with_reducible refine (HA.out _).mono ?_); rintro e w' ⟨rfl, hb⟩; obtain ⟨hz, hc, hf⟩ := bcl hb (by first | (simp; rfl) | rfl)))
    refine wp_loop_rounds 7 ?_
    iterate 1 (rw [rounds_succ]; go_wp2)
    (refine bodyPost_ret (v := .tuple #[.agg #[.int .i64 0, .int .i64 0, .int .i64 0, .int .i64 0, .int .i64 0, .int .i64 0], .int .i64 9]) (by simp only [results, Tryd.results23]; go_simp) rfl ⟨rfl, ?_⟩)
    (repeat (first | (with_reducible exact bl_refl _) | (with_reducible refine bl_drew ?_) | (with_reducible refine bl_alloc ?_ _) | (with_reducible refine bl_set' ?_ ?_; · (first | omega | (simp; done) | (simp; omega))) | (with_reducible refine bl_last (by assumption) ?_) | (with_reducible refine bl_drewN ?_ _)))
  have t0 : a.tmod 12 = 0 := of_decide_eq_true k0
  cases k1 : whK b
  · have hv : whV a b c d e f = .tuple #[.agg #[.int .i64 0, .int .i64 0, .int .i64 0, .int .i64 0, .int .i64 0, .int .i64 0], .int .i64 9] := by simp [whV, h0, k0, k1]
    rw [hv]
    have t1 : ¬ b.tmod 12 = 0 := of_decide_eq_false k1
    have u1 : (b.tmod 12 != 0) = true := by simpa using t1
    clear hv h0 k1
    go_enter Tryd.func23, Tryd.ntmps23
    go_wp2_with (go_at_call 11; ((with_reducible refine (HA.out _).mono ?_); rintro e w' ⟨rfl, hb⟩; obtain ⟨hz, hc, hf⟩ := bcl hb (by first | (simp; rfl) | rfl)))
    refine wp_loop_rounds 7 ?_
    iterate 2 (rw [rounds_succ]; go_wp2)
    (refine bodyPost_ret (v := .tuple #[.agg #[.int .i64 0, .int .i64 0, .int .i64 0, .int .i64 0, .int .i64 0, .int .i64 0], .int .i64 9]) (by simp only [results, Tryd.results23]; go_simp) rfl ⟨rfl, ?_⟩)
    (repeat (first | (with_reducible exact bl_refl _) | (with_reducible refine bl_drew ?_) | (with_reducible refine bl_alloc ?_ _) | (with_reducible refine bl_set' ?_ ?_; · (first | omega | (simp; done) | (simp; omega))) | (with_reducible refine bl_last (by assumption) ?_) | (with_reducible refine bl_drewN ?_ _)))
  have t1 : b.tmod 12 = 0 := of_decide_eq_true k1
  cases k2 : whK c
  · have hv : whV a b c d e f = .tuple #[.agg #[.int .i64 0, .int .i64 0, .int .i64 0, .int .i64 0, .int .i64 0, .int .i64 0], .int .i64 9] := by simp [whV, h0, k0, k1, k2]
    rw [hv]
    have t2 : ¬ c.tmod 12 = 0 := of_decide_eq_false k2
    have u2 : (c.tmod 12 != 0) = true := by simpa using t2
    clear hv h0 k2
    go_enter Tryd.func23, Tryd.ntmps23
    go_wp2_with (go_at_call 11; ((with_reducible refine (HA.out _).mono ?_); rintro e w' ⟨rfl, hb⟩; obtain ⟨hz, hc, hf⟩ := bcl hb (by first | (simp; rfl) | rfl)))
    refine wp_loop_rounds 7 ?_
    iterate 3 (rw [rounds_succ]; go_wp2)
    (refine bodyPost_ret (v := .tuple #[.agg #[.int .i64 0, .int .i64 0, .int .i64 0, .int .i64 0, .int .i64 0, .int .i64 0], .int .i64 9]) (by simp only [results, Tryd.results23]; go_simp) rfl ⟨rfl, ?_⟩)
    (repeat (first | (with_reducible exact bl_refl _) | (with_reducible refine bl_drew ?_) | (with_reducible refine bl_alloc ?_ _) | (with_reducible refine bl_set' ?_ ?_; · (first | omega | (simp; done) | (simp; omega))) | (with_reducible refine bl_last (by assumption) ?_) | (with_reducible refine bl_drewN ?_ _)))
  have t2 : c.tmod 12 = 0 := of_decide_eq_true k2
  cases k3 : whK d
  · have hv : whV a b c d e f = .tuple #[.agg #[.int .i64 0, .int .i64 0, .int .i64 0, .int .i64 0, .int .i64 0, .int .i64 0], .int .i64 9] := by simp [whV, h0, k0, k1, k2, k3]
    rw [hv]
    have t3 : ¬ d.tmod 12 = 0 := of_decide_eq_false k3
    have u3 : (d.tmod 12 != 0) = true := by simpa using t3
    clear hv h0 k3
    go_enter Tryd.func23, Tryd.ntmps23
    go_wp2_with (go_at_call 11; ((with_reducible refine (HA.out _).mono ?_); rintro e w' ⟨rfl, hb⟩; obtain ⟨hz, hc, hf⟩ := bcl hb (by first | (simp; rfl) | rfl)))
    refine wp_loop_rounds 7 ?_
    iterate 4 (rw [rounds_succ]; go_wp2)
    (refine bodyPost_ret (v := .tuple #[.agg #[.int .i64 0, .int .i64 0, .int .i64 0, .int .i64 0, .int .i64 0, .int .i64 0], .int .i64 9]) (by simp only [results, Tryd.results23]; go_simp) rfl ⟨rfl, ?_⟩)
    (repeat (first | (with_reducible exact bl_refl _) | (with_reducible refine bl_drew ?_) | (with_reducible refine bl_alloc ?_ _) | (with_reducible refine bl_set' ?_ ?_; · (first | omega | (simp; done) | (simp; omega))) | (with_reducible refine bl_last (by assumption) ?_) | (with_reducible refine bl_drewN ?_ _)))
  have t3 : d.tmod 12 = 0 := of_decide_eq_true k3
  cases k4 : whK e
  · have hv : whV a b c d e f = .tuple #[.agg #[.int .i64 0, .int .i64 0, .int .i64 0, .int .i64 0, .int .i64 0, .int .i64 0], .int .i64 9] := by simp [whV, h0, k0, k1, k2, k3, k4]
    rw [hv]
    have t4 : ¬ e.tmod 12 = 0 := of_decide_eq_false k4
    have u4 : (e.tmod 12 != 0) = true := by simpa using t4
    clear hv h0 k4
    go_enter Tryd.func23, Tryd.ntmps23
    go_wp2_with (go_at_call 11; ((with_reducible refine (HA.out _).mono ?_); rintro e w' ⟨rfl, hb⟩; obtain ⟨hz, hc, hf⟩ := bcl hb (by first | (simp; rfl) | rfl)))
    refine wp_loop_rounds 7 ?_
    iterate 5 (rw [rounds_succ]; go_wp2)
    (refine bodyPost_ret (v := .tuple #[.agg #[.int .i64 0, .int .i64 0, .int .i64 0, .int .i64 0, .int .i64 0, .int .i64 0], .int .i64 9]) (by simp only [results, Tryd.results23]; go_simp) rfl ⟨rfl, ?_⟩)
    (repeat (first | (with_reducible exact bl_refl _) | (with_reducible refine bl_drew ?_) | (with_reducible refine bl_alloc ?_ _) | (with_reducible refine bl_set' ?_ ?_; · (first | omega | (simp; done) | (simp; omega))) | (with_reducible refine bl_last (by assumption) ?_) | (with_reducible refine bl_drewN ?_ _)))
  have t4 : e.tmod 12 = 0 := of_decide_eq_true k4
  cases k5 : whK f
  · have hv : whV a b c d e f = .tuple #[.agg #[.int .i64 0, .int .i64 0, .int .i64 0, .int .i64 0, .int .i64 0, .int .i64 0], .int .i64 9] := by simp [whV, h0, k0, k1, k2, k3, k4, k5]
    rw [hv]
    have t5 : ¬ f.tmod 12 = 0 := of_decide_eq_false k5
    have u5 : (f.tmod 12 != 0) = true := by simpa using t5
    clear hv h0 k5
    go_enter Tryd.func23, Tryd.ntmps23
    go_wp2_with (go_at_call 11; ((with_reducible refine (HA.out _).mono ?_); rintro e w' ⟨rfl, hb⟩; obtain ⟨hz, hc, hf⟩ := bcl hb (by first | (simp; rfl) | rfl)))
    refine wp_loop_rounds 7 ?_
    iterate 6 (rw [rounds_succ]; go_wp2)
    (refine bodyPost_ret (v := .tuple #[.agg #[.int .i64 0, .int .i64 0, .int .i64 0, .int .i64 0, .int .i64 0, .int .i64 0], .int .i64 9]) (by simp only [results, Tryd.results23]; go_simp) rfl ⟨rfl, ?_⟩)
    (repeat (first | (with_reducible exact bl_refl _) | (with_reducible refine bl_drew ?_) | (with_reducible refine bl_alloc ?_ _) | (with_reducible refine bl_set' ?_ ?_; · (first | omega | (simp; done) | (simp; omega))) | (with_reducible refine bl_last (by assumption) ?_) | (with_reducible refine bl_drewN ?_ _)))
  have t5 : f.tmod 12 = 0 := of_decide_eq_true k5
  · have hv : whV a b c d e f = .tuple #[.agg #[.int .i64 (a.tdiv 12), .int .i64 (b.tdiv 12), .int .i64 (c.tdiv 12), .int .i64 (d.tdiv 12), .int .i64 (e.tdiv 12), .int .i64 (f.tdiv 12)], .int .i64 0] := by simp [whV, h0, k0, k1, k2, k3, k4, k5]
    rw [hv]
    clear hv h0 k0 k1 k2 k3 k4 k5
    go_enter Tryd.func23, Tryd.ntmps23
    go_wp2_with (go_at_call 11; ((with_reducible refine (HA.out _).mono ?_); rintro e w' ⟨rfl, hb⟩; obtain ⟨hz, hc, hf⟩ := bcl hb (by first | (simp; rfl) | rfl)))
    refine wp_loop_rounds 7 ?_
    iterate 7 (rw [rounds_succ]; go_wp2)
    (refine bodyPost_ret (v := .tuple #[.agg #[.int .i64 (a.tdiv 12), .int .i64 (b.tdiv 12), .int .i64 (c.tdiv 12), .int .i64 (d.tdiv 12), .int .i64 (e.tdiv 12), .int .i64 (f.tdiv 12)], .int .i64 0]) (by simp only [results, Tryd.results23]; go_simp) rfl ⟨rfl, ?_⟩)
    (repeat (first | (with_reducible exact bl_refl _) | (with_reducible refine bl_drew ?_) | (with_reducible refine bl_alloc ?_ _) | (with_reducible refine bl_set' ?_ ?_; · (first | omega | (simp; done) | (simp; omega))) | (with_reducible refine bl_last (by assumption) ?_) | (with_reducible refine bl_drewN ?_ _)))
theorem cbV_bad {s a b c d e f x y z p q r : Int} (h : cbG a b c d e f x y z p q r = false) : cbV s a b c d e f x y z p q r = .tuple #[.agg #[.int .i64 0, .int .i64 0, .int .i64 0, .int .i64 0, .int .i64 0, .int .i64 0], .int .i64 1] := by
  have hE : cbE s a b c d e f x y z p q r = 1 := by unfold cbE; rw [h]; rfl
  unfold cbV
  rw [hE]
  rfl
theorem cbV_one {a b c d e f x y z p q r : Int} (h : cbG a b c d e f x y z p q r = true) : cbV 1 a b c d e f x y z p q r = if pV (a + x) (b + y) (c + z) (d + p) (e + q) (f + r) 576 then .tuple #[.agg #[.int .i64 (a + x), .int .i64 (b + y), .int .i64 (c + z), .int .i64 (d + p), .int .i64 (e + q), .int .i64 (f + r)], .int .i64 0] else .tuple #[.agg #[.int .i64 0, .int .i64 0, .int .i64 0, .int .i64 0, .int .i64 0, .int .i64 0], .int .i64 3] := by
  unfold cbV cbE cbS
  rw [h]
  simp only [if_true, Int.one_mul]
  split <;> rename_i h1
  · simp [cb, h1]
  · simp [cb, h1]
set_option maxRecDepth 100000 in
set_option maxHeartbeats 8000000 in
theorem RMul_c (a b c d e f x y z p q r : Int) (w : World) : Calls Tryd.prog 24 #[.agg #[.int .i64 a, .int .i64 b, .int .i64 c, .int .i64 d, .int .i64 e, .int .i64 f], .agg #[.int .i64 x, .int .i64 y, .int .i64 z, .int .i64 p, .int .i64 q, .int .i64 r]] w (Ret (cbV 1 a b c d e f x y z p q r) w) := by
  have hA := fun w => RPVld_c a b c d e f w
  have hB := fun w => RPVld_c x y z p q r w
  have hC := fun w => RPVld_c (a + x) (b + y) (c + z) (d + p) (e + q) (f + r) w
  cases hg : cbG a b c d e f x y z p q r
  · rw [cbV_bad hg]
    have hg2 : (!pV a b c d e f 576 || !pV x y z p q r 576) = true := by unfold cbG at hg; revert hg; cases pV a b c d e f 576 <;> cases pV x y z p q r 576 <;> simp
    clear hg hC
    generalize pV a b c d e f 576 = va at *
    generalize pV x y z p q r 576 = vb at *
    have HA := Lib.hid hA
    have HB := Lib.hid hB
    clear hA hB
    cases va <;> cases vb
    all_goals first | (exfalso; revert hg2; decide) | skip
    all_goals
      clear hg2
      go_enter Tryd.func24, Tryd.ntmps24
      go_wp2_with (first | (go_at_call 11; ((with_reducible refine (HA.out _).mono ?_); rintro e w' ⟨rfl, hb⟩; obtain ⟨hz, hc, hf⟩ := bcl hb (by first | (simp; rfl) | rfl))) | (go_at_call 11; ((with_reducible refine (HB.out _).mono ?_); rintro e w' ⟨rfl, hb⟩; obtain ⟨hz, hc, hf⟩ := bcl hb (by first | (simp; rfl) | rfl))))
      (refine bodyPost_ret (v := .tuple #[.agg #[.int .i64 0, .int .i64 0, .int .i64 0, .int .i64 0, .int .i64 0, .int .i64 0], .int .i64 1]) (by simp only [results, Tryd.results24]; go_simp) rfl ⟨rfl, ?_⟩)
      (repeat (first | (with_reducible exact bl_refl _) | (with_reducible refine bl_drew ?_) | (with_reducible refine bl_alloc ?_ _) | (with_reducible refine bl_set' ?_ ?_; · (first | omega | (simp; done) | (simp; omega))) | (with_reducible refine bl_last (by assumption) ?_) | (with_reducible refine bl_drewN ?_ _)))
  · rw [cbV_one hg]
    have hab : pV a b c d e f 576 = true ∧ pV x y z p q r 576 = true := by unfold cbG at hg; revert hg; cases pV a b c d e f 576 <;> cases pV x y z p q r 576 <;> simp
    obtain ⟨ha, hb⟩ := hab
    rw [ha] at hA
    rw [hb] at hB
    have HA := Lib.hid hA
    have HB := Lib.hid hB
    obtain ⟨h1, h2, h3, h4, h5, h6⟩ := pV_of ha
    have h1 := wi_of h1; have h2 := wi_of h2; have h3 := wi_of h3; have h4 := wi_of h4; have h5 := wi_of h5; have h6 := wi_of h6
    obtain ⟨k1, k2, k3, k4, k5, k6⟩ := pV_of hb
    have k1 := wi_of k1; have k2 := wi_of k2; have k3 := wi_of k3; have k4 := wi_of k4; have k5 := wi_of k5; have k6 := wi_of k6
    have q1 : IntKind.i64.wrap (a + x) = a + x := by rw [IntKind.wrap_i64]; omega
    have q2 : IntKind.i64.wrap (b + y) = b + y := by rw [IntKind.wrap_i64]; omega
    have q3 : IntKind.i64.wrap (c + z) = c + z := by rw [IntKind.wrap_i64]; omega
    have q4 : IntKind.i64.wrap (d + p) = d + p := by rw [IntKind.wrap_i64]; omega
    have q5 : IntKind.i64.wrap (e + q) = e + q := by rw [IntKind.wrap_i64]; omega
    have q6 : IntKind.i64.wrap (f + r) = f + r := by rw [IntKind.wrap_i64]; omega
    clear h1 h2 h3 h4 h5 h6 k1 k2 k3 k4 k5 k6 hg ha hb hA hB
    generalize hv : pV (a + x) (b + y) (c + z) (d + p) (e + q) (f + r) 576 = vc at *
    have HC := Lib.hid hC
    clear hC hv
    cases vc
    all_goals
      simp only [Bool.false_eq_true, if_false, if_true]
      go_enter Tryd.func24, Tryd.ntmps24
      go_wp2_with fail
      ((with_reducible refine (HA.out _).mono ?_); rintro en v1 ⟨rfl, d1⟩)
      obtain ⟨hz1, hc1, hf1⟩ := bcl d1 (by first | (simp; rfl) | rfl)
      have y0 : w.heap.size < v1.heap.size := by omega
      have y1 : w.heap.size + 1 < v1.heap.size := by omega
      have y2 : w.heap.size + 1 + 1 < v1.heap.size := by omega
      go_wp2_with fail
      ((with_reducible refine (HB.out _).mono ?_); rintro en v2 ⟨rfl, d2⟩)
      obtain ⟨hz2, hc2, hf2⟩ := bcl d2 (by first | (simp; rfl) | rfl)
      have z0 : w.heap.size < v2.heap.size := by omega
      have z1 : w.heap.size + 1 < v2.heap.size := by omega
      have z2 : w.heap.size + 1 + 1 < v2.heap.size := by omega
      go_wp2_with fail
      refine wp_loop_rounds 7 ?_
      iterate 6
        rw [rounds_succ]
        go_wp2
        (refine wp_region_bl [0,1,2,3,4,5,6,7] [8,9] (by kernel_rfl) (by kernel_rfl) (by rfl) ?_
         simp only [pickI, pick, List.getElem?_cons_succ, List.getElem?_cons_zero]
         iterate 8 (first
           | (refine head_val (by rfl) (by rfl) ?_
              apply Exists.intro
              refine ⟨fun X hX => ?_, ?_⟩
              · (obtain ⟨qz, qc, qf⟩ := bcl hX.out (by first | (simp; rfl) | rfl)
                 go_simp
                 first | done | rfl | exact ⟨rfl, rfl⟩)
              simp only [Act.put, List.setIfInBounds_toArray, List.set_cons_zero, List.set_cons_succ])
           | (refine head_pass (by rfl) ?_
              simp only [Act.put, List.setIfInBounds_toArray, List.set_cons_zero, List.set_cons_succ]))
         refine head_nil ?_
         intro w' hw'
         have hb := hw'.out
         clear hw'
         obtain ⟨hz, hc, hf⟩ := bcl hb (by first | (simp; rfl) | rfl))
        have zq : v2.heap.size < w'.heap.size := by omega
        go_wp2
      rw [rounds_succ]
      go_wp2_with fail
      refine calls_letter ?_
      intro W3 hW3
      have k3 : Below w.heap.size w W3 := by
        rw [hW3]
        repeat (first | (with_reducible exact bl_refl _) | (with_reducible refine bl_alloc ?_ _) | (with_reducible refine bl_set' ?_ ?_; · (dsimp only; omega)) | (with_reducible refine bl_last (by assumption) ?_))
      have hD : Blk W3 v2.heap.size 23 #[.int .i64 (a + x), .int .i64 (b + y), .int .i64 (c + z), .int .i64 (d + p), .int .i64 (e + q), .int .i64 (f + r)] := by
        rw [hW3]
        repeat (first | (with_reducible apply Blk.new) | (with_reducible apply blk_s) | (with_reducible apply blk_up (hb := by assumption)))
        all_goals rfl
      have hR : Blk W3 (w.heap.size + 1 + 1) 23 #[.int .i64 0, .int .i64 0, .int .i64 0, .int .i64 0, .int .i64 0, .int .i64 0] := by
        rw [hW3]
        repeat (first | (with_reducible exact blkAt _ _ _ _ (by simp; done)) | (with_reducible apply blk_far (hne := by omega)) | (with_reducible apply blk_up (hb := by assumption)) | (with_reducible apply Blk.alloc))
      clear hW3
      have zD := hD.lt
      have zR := hR.lt
      have t0 := hD.cell 0
      have t1 := hD.cell 1
      have t2 := hD.cell 2
      have t3 := hD.cell 3
      have t4 := hD.cell 4
      have t5 := hD.cell 5
      have f0 := hR.cell 0
      have f1 := hR.cell 1
      have f2 := hR.cell 2
      have f3 := hR.cell 3
      have f4 := hR.cell 4
      have f5 := hR.cell 5
      have g0 := hR.frozen 0
      have g1 := hR.frozen 1
      have g2 := hR.frozen 2
      have g3 := hR.frozen 3
      have g4 := hR.frozen 4
      have g5 := hR.frozen 5
      simp only [List.getElem?_toArray, List.getElem?_cons_zero, List.getElem?_cons_succ] at t0 t1 t2 t3 t4 t5 f0 f1 f2 f3 f4 f5
      clear q1 q2 q3 q4 q5 q6 hz1 hc1 hf1 hz2 hc2 hf2 d1 d2 y0 y1 y2
      ((with_reducible refine (HC.out _).mono ?_); rintro en v3 ⟨rfl, d3⟩)
      obtain ⟨hz3, hc3, hf3⟩ := bcl d3 (by first | (simp; rfl) | rfl)
      have k4 := bl_last d3 k3
      have zz3 : v2.heap.size < v3.heap.size := by omega
      have zz4 : w.heap.size + 1 + 1 < v3.heap.size := by omega
      go_wp2_with fail
      first | (refine bodyPost_ret (v := .tuple #[.agg #[.int .i64 0, .int .i64 0, .int .i64 0, .int .i64 0, .int .i64 0, .int .i64 0], .int .i64 3]) (by simp only [results, Tryd.results24]; go_simp) rfl ⟨rfl, ?_⟩) | (refine bodyPost_ret (v := .tuple #[.agg #[.int .i64 (a + x), .int .i64 (b + y), .int .i64 (c + z), .int .i64 (d + p), .int .i64 (e + q), .int .i64 (f + r)], .int .i64 0]) (by simp only [results, Tryd.results24]; go_simp) rfl ⟨rfl, ?_⟩)
      repeat (first | (with_reducible exact k4) | (with_reducible refine bl_set' ?_ ?_; · (dsimp only; omega)))
theorem pV_neg' {a b c d e f B : Int} (h : pV a b c d e f B = true) : pV (-a) (-b) (-c) (-d) (-e) (-f) B = true := by
  obtain ⟨h1, h2, h3, h4, h5, h6⟩ := pV_of h
  have k1 := wi_of h1
  have k2 := wi_of h2
  have k3 := wi_of h3
  have k4 := wi_of h4
  have k5 := wi_of h5
  have k6 := wi_of h6
  unfold pV
  rw [wi_mk (by omega) (by omega), wi_mk (by omega) (by omega), wi_mk (by omega) (by omega), wi_mk (by omega) (by omega), wi_mk (by omega) (by omega), wi_mk (by omega) (by omega)]
  rfl
theorem cb_div {a b c d e f x y z p q r : Int} (hb : pV x y z p q r 576 = true) : cbV 1 a b c d e f (-x) (-y) (-z) (-p) (-q) (-r) = cbV (-1) a b c d e f x y z p q r := by
  have ee : ∀ x y : Int, x + 1 * -y = x + -1 * y := fun x y => by omega
  have hG : cbG a b c d e f (-x) (-y) (-z) (-p) (-q) (-r) = cbG a b c d e f x y z p q r := by
    unfold cbG
    rw [hb, pV_neg' hb]
  have hS : cbS 1 a b c d e f (-x) (-y) (-z) (-p) (-q) (-r) = cbS (-1) a b c d e f x y z p q r := by
    unfold cbS
    rw [ee, ee, ee, ee, ee, ee]
  have hE : cbE 1 a b c d e f (-x) (-y) (-z) (-p) (-q) (-r) = cbE (-1) a b c d e f x y z p q r := by
    unfold cbE
    rw [hG, hS]
  have hc : ∀ E x y : Int, cb 1 E x (-y) = cb (-1) E x y := fun E x y => by unfold cb; rw [ee]
  unfold cbV
  rw [hE]
  simp only [hc]
set_option maxRecDepth 100000 in
set_option maxHeartbeats 8000000 in
theorem RDiv_c (a b c d e f x y z p q r : Int) (w : World) : Calls Tryd.prog 26 #[.agg #[.int .i64 a, .int .i64 b, .int .i64 c, .int .i64 d, .int .i64 e, .int .i64 f], .agg #[.int .i64 x, .int .i64 y, .int .i64 z, .int .i64 p, .int .i64 q, .int .i64 r]] w (Ret (cbV (-1) a b c d e f x y z p q r) w) := by
  have hB := fun w => RPVld_c x y z p q r w
  cases hb : pV x y z p q r 576
  · have hg : cbG a b c d e f x y z p q r = false := by unfold cbG; rw [hb, Bool.and_false]
    rw [cbV_bad hg]
    rw [hb] at hB
    have HB := Lib.hid hB
    clear hb hB hg
    go_enter Tryd.func26, Tryd.ntmps26
    go_wp2_with (go_at_call 11; ((with_reducible refine (HB.out _).mono ?_); rintro e w' ⟨rfl, hb⟩; obtain ⟨hz, hc, hf⟩ := bcl hb (by first | (simp; rfl) | rfl)))
    (refine bodyPost_ret (v := .tuple #[.agg #[.int .i64 0, .int .i64 0, .int .i64 0, .int .i64 0, .int .i64 0, .int .i64 0], .int .i64 1]) (by simp only [results, Tryd.results26]; go_simp) rfl ⟨rfl, ?_⟩)
    (repeat (first | (with_reducible exact bl_refl _) | (with_reducible refine bl_drew ?_) | (with_reducible refine bl_alloc ?_ _) | (with_reducible refine bl_set' ?_ ?_; · (first | omega | (simp; done) | (simp; omega))) | (with_reducible refine bl_last (by assumption) ?_) | (with_reducible refine bl_drewN ?_ _)))
  · have hM := fun w => RMul_c a b c d e f (-x) (-y) (-z) (-p) (-q) (-r) w
    rw [cb_div hb] at hM
    rw [hb] at hB
    have HB := Lib.hid hB
    obtain ⟨k1, k2, k3, k4, k5, k6⟩ := pV_of hb
    have k1 := wi_of k1; have k2 := wi_of k2; have k3 := wi_of k3; have k4 := wi_of k4; have k5 := wi_of k5; have k6 := wi_of k6
    have q1 : IntKind.i64.wrap (-x) = -x := by rw [IntKind.wrap_i64]; omega
    have q2 : IntKind.i64.wrap (-y) = -y := by rw [IntKind.wrap_i64]; omega
    have q3 : IntKind.i64.wrap (-z) = -z := by rw [IntKind.wrap_i64]; omega
    have q4 : IntKind.i64.wrap (-p) = -p := by rw [IntKind.wrap_i64]; omega
    have q5 : IntKind.i64.wrap (-q) = -q := by rw [IntKind.wrap_i64]; omega
    have q6 : IntKind.i64.wrap (-r) = -r := by rw [IntKind.wrap_i64]; omega
    clear k1 k2 k3 k4 k5 k6 hb hB
    obtain ⟨m1, m2, m3, m4, m5, m6, E, hm⟩ : ∃ m1 m2 m3 m4 m5 m6 E : Int, cbV (-1) a b c d e f x y z p q r = .tuple #[.agg #[.int .i64 m1, .int .i64 m2, .int .i64 m3, .int .i64 m4, .int .i64 m5, .int .i64 m6], .int .i64 E] := ⟨_, _, _, _, _, _, _, rfl⟩
    rw [hm] at hM ⊢
    have HM := Lib.hid hM
    clear hM hm
    go_enter Tryd.func26, Tryd.ntmps26
    go_wp2_with (go_at_call 11; ((with_reducible refine (HB.out _).mono ?_); rintro e w' ⟨rfl, hb⟩; obtain ⟨hz, hc, hf⟩ := bcl hb (by first | (simp; rfl) | rfl)))
    refine wp_loop_rounds 7 ?_
    iterate 6 (rw [rounds_succ]; go_wp2)
    rw [rounds_succ]
    go_wp2_with (go_at_call 24; ((with_reducible refine (HM.out _).mono ?_); rintro e w' ⟨rfl, hb⟩; obtain ⟨hz, hc, hf⟩ := bcl hb (by first | (simp; rfl) | rfl)))
    (refine bodyPost_ret (v := .tuple #[.agg #[.int .i64 m1, .int .i64 m2, .int .i64 m3, .int .i64 m4, .int .i64 m5, .int .i64 m6], .int .i64 E]) (by simp only [results, Tryd.results26]; go_simp) rfl ⟨rfl, ?_⟩)
    (repeat (first | (with_reducible exact bl_refl _) | (with_reducible refine bl_drew ?_) | (with_reducible refine bl_alloc ?_ _) | (with_reducible refine bl_set' ?_ ?_; · (first | omega | (simp; done) | (simp; omega))) | (with_reducible refine bl_last (by assumption) ?_) | (with_reducible refine bl_drewN ?_ _)))
end Go.Proofs.YtgbiiaaeabflnaaDoor
