/- Pitch: Of, Whole, Fraction. -/
import Derived.Test.YtehifkdfbiebfaaDoorK22
namespace Go.Proofs.YtehifkdfbiebfaaDoor
open Go Go.RowKit

/-- An interval as a pitch. -/
def ofV (a b c d e f : Int) : Value := if pV a b c d e f 48 then .tuple #[.agg #[.int .i64 (a * 12), .int .i64 (b * 12), .int .i64 (c * 12), .int .i64 (d * 12), .int .i64 (e * 12), .int .i64 (f * 12)], .int .i64 0] else .tuple #[.agg #[.int .i64 0, .int .i64 0, .int .i64 0, .int .i64 0, .int .i64 0, .int .i64 0], .int .i64 1]
set_option maxRecDepth 100000 in
set_option maxHeartbeats 4000000 in
theorem POf_c (a b c d e f : Int) (w : World) : Calls Tryd.prog 34 #[.agg #[.int .i64 a, .int .i64 b, .int .i64 c, .int .i64 d, .int .i64 e, .int .i64 f]] w (Ret (ofV a b c d e f) w) := by
  have hI := fun w => PInt_c a b c d e f w
  unfold ofV
  cases hp : pV a b c d e f 48
  · rw [hp] at hI
    have HI := Lib.hid hI
    clear hp hI
    rw [if_neg (by decide)]
    go_enter Tryd.func34, Tryd.ntmps34
    go_wp2_with (go_at_call 15; ((with_reducible refine (HI.out _).mono ?_); rintro e w' ⟨rfl, hb⟩; obtain ⟨hz, hc, hf⟩ := bcl hb (by first | (simp; rfl) | rfl)))
    (refine bodyPost_ret (v := .tuple #[.agg #[.int .i64 0, .int .i64 0, .int .i64 0, .int .i64 0, .int .i64 0, .int .i64 0], .int .i64 1]) (by simp only [results, Tryd.results34]; go_simp) rfl ⟨rfl, ?_⟩)
    (repeat (first | (with_reducible exact bl_refl _) | (with_reducible refine bl_drew ?_) | (with_reducible refine bl_alloc ?_ _) | (with_reducible refine bl_set' ?_ ?_; · (first | omega | (simp; done) | (simp; omega))) | (with_reducible refine bl_last (by assumption) ?_) | (with_reducible refine bl_drewN ?_ _)))
  · rw [hp] at hI
    have HI := Lib.hid hI
    rw [if_pos rfl]
    obtain ⟨h1, h2, h3, h4, h5, h6⟩ := pV_of hp
    have h1 := wi_of h1; have h2 := wi_of h2; have h3 := wi_of h3; have h4 := wi_of h4; have h5 := wi_of h5; have h6 := wi_of h6
    clear hp hI
    have q1 : IntKind.i64.wrap (a * 12) = a * 12 := by rw [IntKind.wrap_i64]; omega
    have q2 : IntKind.i64.wrap (b * 12) = b * 12 := by rw [IntKind.wrap_i64]; omega
    have q3 : IntKind.i64.wrap (c * 12) = c * 12 := by rw [IntKind.wrap_i64]; omega
    have q4 : IntKind.i64.wrap (d * 12) = d * 12 := by rw [IntKind.wrap_i64]; omega
    have q5 : IntKind.i64.wrap (e * 12) = e * 12 := by rw [IntKind.wrap_i64]; omega
    have q6 : IntKind.i64.wrap (f * 12) = f * 12 := by rw [IntKind.wrap_i64]; omega
    clear h1 h2 h3 h4 h5 h6
    go_enter Tryd.func34, Tryd.ntmps34
    go_wp2_with (go_at_call 15; ((with_reducible refine (HI.out _).mono ?_); rintro e w' ⟨rfl, hb⟩; obtain ⟨hz, hc, hf⟩ := bcl hb (by first | (simp; rfl) | rfl)))
    refine wp_loop_rounds 7 ?_
    iterate 6 (rw [rounds_succ]; go_wp2)
    rw [rounds_succ]
    refine wp_named ?_
    intro W3 hW3
    have k3 : Below w.heap.size w W3 := by
      rw [hW3]
      repeat (first | (with_reducible exact bl_refl _) | (with_reducible refine bl_alloc ?_ _) | (with_reducible refine bl_set' ?_ ?_; · (dsimp only; omega)) | (with_reducible refine bl_last (by assumption) ?_))
    have hD : Blk W3 w.heap.size 27 #[.int .i64 (a * 12), .int .i64 (b * 12), .int .i64 (c * 12), .int .i64 (d * 12), .int .i64 (e * 12), .int .i64 (f * 12)] := by
      rw [hW3]
      repeat (first | (with_reducible apply Blk.new) | (with_reducible apply blk_s) | (with_reducible apply blk_up (hb := by assumption)) | (with_reducible apply Blk.alloc))
      all_goals rfl
    have hR : Blk W3 (w.heap.size + 1) 72 #[.int .i64 0, .int .i64 0, .int .i64 0, .int .i64 0, .int .i64 0, .int .i64 0] := by
      rw [hW3]
      repeat (first | (with_reducible apply Blk.new) | (with_reducible exact blkAt _ _ _ _ (by simp; done)) | (with_reducible apply blk_far (hne := by omega)) | (with_reducible apply blk_up (hb := by assumption)) | (with_reducible apply Blk.alloc))
    clear hW3
    have zD := hD.lt
    have zR := hR.lt
    have e0 := hD.cell 0
    have e1 := hD.cell 1
    have e2 := hD.cell 2
    have e3 := hD.cell 3
    have e4 := hD.cell 4
    have e5 := hD.cell 5
    have f0 := hR.cell 0
    have f1 := hR.cell 1
    have f2 := hR.cell 2
    have f3 := hR.cell 3
    have f4 := hR.cell 4
    have f5 := hR.cell 5
    have g0 := hR.frozen 0
    have g1 := hR.frozen 1
    have g2 := hR.frozen 2
    have g3 := hR.frozen 3
    have g4 := hR.frozen 4
    have g5 := hR.frozen 5
    simp only [List.getElem?_toArray, List.getElem?_cons_zero, List.getElem?_cons_succ] at e0 e1 e2 e3 e4 e5 f0 f1 f2 f3 f4 f5
    go_wp2
    (refine bodyPost_ret (v := .tuple #[.agg #[.int .i64 (a * 12), .int .i64 (b * 12), .int .i64 (c * 12), .int .i64 (d * 12), .int .i64 (e * 12), .int .i64 (f * 12)], .int .i64 0]) (by simp only [results, Tryd.results34]; go_simp) rfl ⟨rfl, ?_⟩)
    repeat (first | (with_reducible exact k3) | (with_reducible refine bl_set' ?_ ?_; · (dsimp only; omega)) | (with_reducible refine bl_last (by assumption) ?_))
/-- A pitch as an interval. -/
def whK (a : Int) : Bool := decide (a.tmod 12 = 0)
def whV (a b c d e f : Int) : Value := if pV a b c d e f 576 then (if whK a && whK b && whK c && whK d && whK e && whK f then .tuple #[.agg #[.int .i64 (a.tdiv 12), .int .i64 (b.tdiv 12), .int .i64 (c.tdiv 12), .int .i64 (d.tdiv 12), .int .i64 (e.tdiv 12), .int .i64 (f.tdiv 12)], .int .i64 0] else .tuple #[.agg #[.int .i64 0, .int .i64 0, .int .i64 0, .int .i64 0, .int .i64 0, .int .i64 0], .int .i64 9]) else .tuple #[.agg #[.int .i64 0, .int .i64 0, .int .i64 0, .int .i64 0, .int .i64 0, .int .i64 0], .int .i64 1]
set_option maxRecDepth 100000 in
set_option maxHeartbeats 8000000 in
theorem PWhole_c (a b c d e f : Int) (w : World) : Calls Tryd.prog 29 #[.agg #[.int .i64 a, .int .i64 b, .int .i64 c, .int .i64 d, .int .i64 e, .int .i64 f]] w (Ret (whV a b c d e f) w) := by
  have hA := fun w => PVld_c a b c d e f w
  cases h0 : pV a b c d e f 576
  · have hv : whV a b c d e f = .tuple #[.agg #[.int .i64 0, .int .i64 0, .int .i64 0, .int .i64 0, .int .i64 0, .int .i64 0], .int .i64 1] := by simp [whV, h0]
    rw [hv]
    rw [h0] at hA
    have HA := Lib.hid hA
    clear h0 hv hA
    go_enter Tryd.func29, Tryd.ntmps29
    go_wp2_with (go_at_call 80; ((with_reducible refine (HA.out _).mono ?_); rintro e w' ⟨rfl, hb⟩; obtain ⟨hz, hc, hf⟩ := bcl hb (by first | (simp; rfl) | rfl)))
    (refine bodyPost_ret (v := .tuple #[.agg #[.int .i64 0, .int .i64 0, .int .i64 0, .int .i64 0, .int .i64 0, .int .i64 0], .int .i64 1]) (by simp only [results, Tryd.results29]; go_simp) rfl ⟨rfl, ?_⟩)
    (repeat (first | (with_reducible exact bl_refl _) | (with_reducible refine bl_drew ?_) | (with_reducible refine bl_alloc ?_ _) | (with_reducible refine bl_set' ?_ ?_; · (first | omega | (simp; done) | (simp; omega))) | (with_reducible refine bl_last (by assumption) ?_) | (with_reducible refine bl_drewN ?_ _)))
  obtain ⟨h1, h2, h3, h4, h5, h6⟩ := pV_of h0
  rw [h0] at hA
  have HA := Lib.hid hA
  have h1 := wi_of h1
  have v1 := tdiv_bd (x := a) (d := 12) (by omega) (by omega)
  have y1 : IntKind.i64.wrap (a.tdiv 12) = a.tdiv 12 := by rw [IntKind.wrap_i64]; omega
  have h2 := wi_of h2
  have v2 := tdiv_bd (x := b) (d := 12) (by omega) (by omega)
  have y2 : IntKind.i64.wrap (b.tdiv 12) = b.tdiv 12 := by rw [IntKind.wrap_i64]; omega
  have h3 := wi_of h3
  have v3 := tdiv_bd (x := c) (d := 12) (by omega) (by omega)
  have y3 : IntKind.i64.wrap (c.tdiv 12) = c.tdiv 12 := by rw [IntKind.wrap_i64]; omega
  have h4 := wi_of h4
  have v4 := tdiv_bd (x := d) (d := 12) (by omega) (by omega)
  have y4 : IntKind.i64.wrap (d.tdiv 12) = d.tdiv 12 := by rw [IntKind.wrap_i64]; omega
  have h5 := wi_of h5
  have v5 := tdiv_bd (x := e) (d := 12) (by omega) (by omega)
  have y5 : IntKind.i64.wrap (e.tdiv 12) = e.tdiv 12 := by rw [IntKind.wrap_i64]; omega
  have h6 := wi_of h6
  have v6 := tdiv_bd (x := f) (d := 12) (by omega) (by omega)
  have y6 : IntKind.i64.wrap (f.tdiv 12) = f.tdiv 12 := by rw [IntKind.wrap_i64]; omega
  clear v1 v2 v3 v4 v5 v6 h1 h2 h3 h4 h5 h6 hA
  cases k0 : whK a
  · have hv : whV a b c d e f = .tuple #[.agg #[.int .i64 0, .int .i64 0, .int .i64 0, .int .i64 0, .int .i64 0, .int .i64 0], .int .i64 9] := by simp [whV, h0, k0]
    rw [hv]
    have t0 : ¬ a.tmod 12 = 0 := of_decide_eq_false k0
    have u0 : (a.tmod 12 != 0) = true := by simpa using t0
    clear hv h0 k0
    go_enter Tryd.func29, Tryd.ntmps29
    go_wp2_with (go_at_call 80; ((with_reducible refine (HA.out _).mono ?_); rintro e w' ⟨rfl, hb⟩; obtain ⟨hz, hc, hf⟩ := bcl hb (by first | (simp; rfl) | rfl)))
    refine wp_loop_rounds 7 ?_
    iterate 1 (rw [rounds_succ]; go_wp2)
    (refine bodyPost_ret (v := .tuple #[.agg #[.int .i64 0, .int .i64 0, .int .i64 0, .int .i64 0, .int .i64 0, .int .i64 0], .int .i64 9]) (by simp only [results, Tryd.results29]; go_simp) rfl ⟨rfl, ?_⟩)
    (repeat (first | (with_reducible exact bl_refl _) | (with_reducible refine bl_drew ?_) | (with_reducible refine bl_alloc ?_ _) | (with_reducible refine bl_set' ?_ ?_; · (first | omega | (simp; done) | (simp; omega))) | (with_reducible refine bl_last (by assumption) ?_) | (with_reducible refine bl_drewN ?_ _)))
  have t0 : a.tmod 12 = 0 := of_decide_eq_true k0
  cases k1 : whK b
  · have hv : whV a b c d e f = .tuple #[.agg #[.int .i64 0, .int .i64 0, .int .i64 0, .int .i64 0, .int .i64 0, .int .i64 0], .int .i64 9] := by simp [whV, h0, k0, k1]
    rw [hv]
    have t1 : ¬ b.tmod 12 = 0 := of_decide_eq_false k1
    have u1 : (b.tmod 12 != 0) = true := by simpa using t1
    clear hv h0 k1
    go_enter Tryd.func29, Tryd.ntmps29
    go_wp2_with (go_at_call 80; ((with_reducible refine (HA.out _).mono ?_); rintro e w' ⟨rfl, hb⟩; obtain ⟨hz, hc, hf⟩ := bcl hb (by first | (simp; rfl) | rfl)))
    refine wp_loop_rounds 7 ?_
    iterate 2 (rw [rounds_succ]; go_wp2)
    (refine bodyPost_ret (v := .tuple #[.agg #[.int .i64 0, .int .i64 0, .int .i64 0, .int .i64 0, .int .i64 0, .int .i64 0], .int .i64 9]) (by simp only [results, Tryd.results29]; go_simp) rfl ⟨rfl, ?_⟩)
    (repeat (first | (with_reducible exact bl_refl _) | (with_reducible refine bl_drew ?_) | (with_reducible refine bl_alloc ?_ _) | (with_reducible refine bl_set' ?_ ?_; · (first | omega | (simp; done) | (simp; omega))) | (with_reducible refine bl_last (by assumption) ?_) | (with_reducible refine bl_drewN ?_ _)))
  have t1 : b.tmod 12 = 0 := of_decide_eq_true k1
  cases k2 : whK c
  · have hv : whV a b c d e f = .tuple #[.agg #[.int .i64 0, .int .i64 0, .int .i64 0, .int .i64 0, .int .i64 0, .int .i64 0], .int .i64 9] := by simp [whV, h0, k0, k1, k2]
    rw [hv]
    have t2 : ¬ c.tmod 12 = 0 := of_decide_eq_false k2
    have u2 : (c.tmod 12 != 0) = true := by simpa using t2
    clear hv h0 k2
    go_enter Tryd.func29, Tryd.ntmps29
    go_wp2_with (go_at_call 80; ((with_reducible refine (HA.out _).mono ?_); rintro e w' ⟨rfl, hb⟩; obtain ⟨hz, hc, hf⟩ := bcl hb (by first | (simp; rfl) | rfl)))
    refine wp_loop_rounds 7 ?_
    iterate 3 (rw [rounds_succ]; go_wp2)
    (refine bodyPost_ret (v := .tuple #[.agg #[.int .i64 0, .int .i64 0, .int .i64 0, .int .i64 0, .int .i64 0, .int .i64 0], .int .i64 9]) (by simp only [results, Tryd.results29]; go_simp) rfl ⟨rfl, ?_⟩)
    (repeat (first | (with_reducible exact bl_refl _) | (with_reducible refine bl_drew ?_) | (with_reducible refine bl_alloc ?_ _) | (with_reducible refine bl_set' ?_ ?_; · (first | omega | (simp; done) | (simp; omega))) | (with_reducible refine bl_last (by assumption) ?_) | (with_reducible refine bl_drewN ?_ _)))
  have t2 : c.tmod 12 = 0 := of_decide_eq_true k2
  cases k3 : whK d
  · have hv : whV a b c d e f = .tuple #[.agg #[.int .i64 0, .int .i64 0, .int .i64 0, .int .i64 0, .int .i64 0, .int .i64 0], .int .i64 9] := by simp [whV, h0, k0, k1, k2, k3]
    rw [hv]
    have t3 : ¬ d.tmod 12 = 0 := of_decide_eq_false k3
    have u3 : (d.tmod 12 != 0) = true := by simpa using t3
    clear hv h0 k3
    go_enter Tryd.func29, Tryd.ntmps29
    go_wp2_with (go_at_call 80; ((with_reducible refine (HA.out _).mono ?_); rintro e w' ⟨rfl, hb⟩; obtain ⟨hz, hc, hf⟩ := bcl hb (by first | (simp; rfl) | rfl)))
    refine wp_loop_rounds 7 ?_
    iterate 4 (rw [rounds_succ]; go_wp2)
    (refine bodyPost_ret (v := .tuple #[.agg #[.int .i64 0, .int .i64 0, .int .i64 0, .int .i64 0, .int .i64 0, .int .i64 0], .int .i64 9]) (by simp only [results, Tryd.results29]; go_simp) rfl ⟨rfl, ?_⟩)
    (repeat (first | (with_reducible exact bl_refl _) | (with_reducible refine bl_drew ?_) | (with_reducible refine bl_alloc ?_ _) | (with_reducible refine bl_set' ?_ ?_; · (first | omega | (simp; done) | (simp; omega))) | (with_reducible refine bl_last (by assumption) ?_) | (with_reducible refine bl_drewN ?_ _)))
  have t3 : d.tmod 12 = 0 := of_decide_eq_true k3
  cases k4 : whK e
  · have hv : whV a b c d e f = .tuple #[.agg #[.int .i64 0, .int .i64 0, .int .i64 0, .int .i64 0, .int .i64 0, .int .i64 0], .int .i64 9] := by simp [whV, h0, k0, k1, k2, k3, k4]
    rw [hv]
    have t4 : ¬ e.tmod 12 = 0 := of_decide_eq_false k4
    have u4 : (e.tmod 12 != 0) = true := by simpa using t4
    clear hv h0 k4
    go_enter Tryd.func29, Tryd.ntmps29
    go_wp2_with (go_at_call 80; ((with_reducible refine (HA.out _).mono ?_); rintro e w' ⟨rfl, hb⟩; obtain ⟨hz, hc, hf⟩ := bcl hb (by first | (simp; rfl) | rfl)))
    refine wp_loop_rounds 7 ?_
    iterate 5 (rw [rounds_succ]; go_wp2)
    (refine bodyPost_ret (v := .tuple #[.agg #[.int .i64 0, .int .i64 0, .int .i64 0, .int .i64 0, .int .i64 0, .int .i64 0], .int .i64 9]) (by simp only [results, Tryd.results29]; go_simp) rfl ⟨rfl, ?_⟩)
    (repeat (first | (with_reducible exact bl_refl _) | (with_reducible refine bl_drew ?_) | (with_reducible refine bl_alloc ?_ _) | (with_reducible refine bl_set' ?_ ?_; · (first | omega | (simp; done) | (simp; omega))) | (with_reducible refine bl_last (by assumption) ?_) | (with_reducible refine bl_drewN ?_ _)))
  have t4 : e.tmod 12 = 0 := of_decide_eq_true k4
  cases k5 : whK f
  · have hv : whV a b c d e f = .tuple #[.agg #[.int .i64 0, .int .i64 0, .int .i64 0, .int .i64 0, .int .i64 0, .int .i64 0], .int .i64 9] := by simp [whV, h0, k0, k1, k2, k3, k4, k5]
    rw [hv]
    have t5 : ¬ f.tmod 12 = 0 := of_decide_eq_false k5
    have u5 : (f.tmod 12 != 0) = true := by simpa using t5
    clear hv h0 k5
    go_enter Tryd.func29, Tryd.ntmps29
    go_wp2_with (go_at_call 80; ((with_reducible refine (HA.out _).mono ?_); rintro e w' ⟨rfl, hb⟩; obtain ⟨hz, hc, hf⟩ := bcl hb (by first | (simp; rfl) | rfl)))
    refine wp_loop_rounds 7 ?_
    iterate 6 (rw [rounds_succ]; go_wp2)
    (refine bodyPost_ret (v := .tuple #[.agg #[.int .i64 0, .int .i64 0, .int .i64 0, .int .i64 0, .int .i64 0, .int .i64 0], .int .i64 9]) (by simp only [results, Tryd.results29]; go_simp) rfl ⟨rfl, ?_⟩)
    (repeat (first | (with_reducible exact bl_refl _) | (with_reducible refine bl_drew ?_) | (with_reducible refine bl_alloc ?_ _) | (with_reducible refine bl_set' ?_ ?_; · (first | omega | (simp; done) | (simp; omega))) | (with_reducible refine bl_last (by assumption) ?_) | (with_reducible refine bl_drewN ?_ _)))
  have t5 : f.tmod 12 = 0 := of_decide_eq_true k5
  · have hv : whV a b c d e f = .tuple #[.agg #[.int .i64 (a.tdiv 12), .int .i64 (b.tdiv 12), .int .i64 (c.tdiv 12), .int .i64 (d.tdiv 12), .int .i64 (e.tdiv 12), .int .i64 (f.tdiv 12)], .int .i64 0] := by simp [whV, h0, k0, k1, k2, k3, k4, k5]
    rw [hv]
    clear hv h0 k0 k1 k2 k3 k4 k5
    go_enter Tryd.func29, Tryd.ntmps29
    go_wp2_with (go_at_call 80; ((with_reducible refine (HA.out _).mono ?_); rintro e w' ⟨rfl, hb⟩; obtain ⟨hz, hc, hf⟩ := bcl hb (by first | (simp; rfl) | rfl)))
    refine wp_loop_rounds 7 ?_
    iterate 6 (rw [rounds_succ]; go_wp2)
    rw [rounds_succ]
    refine wp_named ?_
    intro W3 hW3
    have k3 : Below w.heap.size w W3 := by
      rw [hW3]
      repeat (first | (with_reducible exact bl_refl _) | (with_reducible refine bl_alloc ?_ _) | (with_reducible refine bl_set' ?_ ?_; · (dsimp only; omega)) | (with_reducible refine bl_last (by assumption) ?_))
    have hD : Blk W3 w.heap.size 72 #[.int .i64 (a.tdiv 12), .int .i64 (b.tdiv 12), .int .i64 (c.tdiv 12), .int .i64 (d.tdiv 12), .int .i64 (e.tdiv 12), .int .i64 (f.tdiv 12)] := by
      rw [hW3]
      repeat (first | (with_reducible apply Blk.new) | (with_reducible apply blk_s) | (with_reducible apply blk_up (hb := by assumption)) | (with_reducible apply Blk.alloc))
      all_goals rfl
    have hR : Blk W3 (w.heap.size + 1) 27 #[.int .i64 0, .int .i64 0, .int .i64 0, .int .i64 0, .int .i64 0, .int .i64 0] := by
      rw [hW3]
      repeat (first | (with_reducible apply Blk.new) | (with_reducible exact blkAt _ _ _ _ (by simp; done)) | (with_reducible apply blk_far (hne := by omega)) | (with_reducible apply blk_up (hb := by assumption)) | (with_reducible apply Blk.alloc))
    clear hW3
    have zD := hD.lt
    have zR := hR.lt
    have e0 := hD.cell 0
    have e1 := hD.cell 1
    have e2 := hD.cell 2
    have e3 := hD.cell 3
    have e4 := hD.cell 4
    have e5 := hD.cell 5
    have f0 := hR.cell 0
    have f1 := hR.cell 1
    have f2 := hR.cell 2
    have f3 := hR.cell 3
    have f4 := hR.cell 4
    have f5 := hR.cell 5
    have g0 := hR.frozen 0
    have g1 := hR.frozen 1
    have g2 := hR.frozen 2
    have g3 := hR.frozen 3
    have g4 := hR.frozen 4
    have g5 := hR.frozen 5
    simp only [List.getElem?_toArray, List.getElem?_cons_zero, List.getElem?_cons_succ] at e0 e1 e2 e3 e4 e5 f0 f1 f2 f3 f4 f5
    go_wp2
    (refine bodyPost_ret (v := .tuple #[.agg #[.int .i64 (a.tdiv 12), .int .i64 (b.tdiv 12), .int .i64 (c.tdiv 12), .int .i64 (d.tdiv 12), .int .i64 (e.tdiv 12), .int .i64 (f.tdiv 12)], .int .i64 0]) (by simp only [results, Tryd.results29]; go_simp) rfl ⟨rfl, ?_⟩)
    repeat (first | (with_reducible exact k3) | (with_reducible refine bl_set' ?_ ?_; · (dsimp only; omega)) | (with_reducible refine bl_last (by assumption) ?_))
/-- What Fraction leaves. -/
def FrE (a b c d e f : Int) (w : World) (en : Ending) (w' : World) : Prop := if pV a b c d e f 48 then (Below w.heap.size w w' ∧ ∃ q n q' n' : Nat, w.heap.size ≤ q ∧ w.heap.size ≤ q' ∧ en = .returned (.tuple #[.slice (some ⟨q, 0, none⟩) n n, .slice (some ⟨q', 0, none⟩) n' n', .int .i64 0]) ∧ Num w' w'.heap.size q n (upN a b c d e f) ∧ n ≤ 640 ∧ Num w' w'.heap.size q' n' (dnN a b c d e f) ∧ n' ≤ 640) else (Below w.heap.size w w' ∧ en = .returned (.tuple #[.slice none 0 0, .slice none 0 0, .int .i64 1]))
set_option maxRecDepth 100000 in
set_option maxHeartbeats 4000000 in
theorem PFraction_c (a b c d e f : Int) (w : World) (hP : PR w) : Calls Tryd.prog 30 #[.agg #[.int .i64 a, .int .i64 b, .int .i64 c, .int .i64 d, .int .i64 e, .int .i64 f]] w (FrE a b c d e f w) := by
  have hI := fun w => PInt_c a b c d e f w
  unfold FrE
  cases hp : pV a b c d e f 48
  · rw [hp] at hI
    have HI := Lib.hid hI
    clear hp hI hP
    simp only [Bool.false_eq_true, if_false]
    go_enter Tryd.func30, Tryd.ntmps30
    go_wp2_with (go_at_call 15; ((with_reducible refine (HI.out _).mono ?_); rintro e w' ⟨rfl, hb⟩; obtain ⟨hz, hc, hf⟩ := bcl hb (by first | (simp; rfl) | rfl)))
    refine bodyPost_ret (v := .tuple #[.slice none 0 0, .slice none 0 0, .int .i64 1]) (by simp only [results, Tryd.results30]; go_simp) rfl ⟨?_, rfl⟩
    (repeat (first | (with_reducible exact bl_refl _) | (with_reducible refine bl_drew ?_) | (with_reducible refine bl_alloc ?_ _) | (with_reducible refine bl_set' ?_ ?_; · (first | omega | (simp; done) | (simp; omega))) | (with_reducible refine bl_last (by assumption) ?_) | (with_reducible refine bl_drewN ?_ _)))
  · rw [hp] at hI
    have HI := Lib.hid hI
    simp only [if_true]
    obtain ⟨h1, h2, h3, h4, h5, h6⟩ := pV_of hp
    have h1 := wi_of h1; have h2 := wi_of h2; have h3 := wi_of h3; have h4 := wi_of h4; have h5 := wi_of h5; have h6 := wi_of h6
    have hp2 : pV a b c d e f 1152 = true := pV_mk (wi_mk (by omega) (by omega)) (wi_mk (by omega) (by omega)) (wi_mk (by omega) (by omega)) (wi_mk (by omega) (by omega)) (wi_mk (by omega) (by omega)) (wi_mk (by omega) (by omega))
    have HF := Lib.hid (fun W hW => fraction_c a b c d e f W hp2 hW)
    have HP := Lib.hid hP
    clear h1 h2 h3 h4 h5 h6 hp hp2 hI hP
    generalize upN a b c d e f = x at *
    generalize dnN a b c d e f = y at *
    go_enter Tryd.func30, Tryd.ntmps30
    go_wp2_with (first | (go_at_call 15; ((with_reducible refine (HI.out _).mono ?_); rintro e w' ⟨rfl, hb⟩; obtain ⟨hz, hc, hf⟩ := bcl hb (by first | (simp; rfl) | rfl))) | (go_at_call 82; ((with_reducible refine (HF.out _ (HP.out.up (by (repeat (first | (with_reducible exact bl_refl _) | (with_reducible refine bl_drew ?_) | (with_reducible refine bl_alloc ?_ _) | (with_reducible refine bl_set' ?_ ?_; · (first | omega | (simp; done) | (simp; omega))) | (with_reducible refine bl_last (by assumption) ?_) | (with_reducible refine bl_drewN ?_ _)))))).mono ?_); rintro en v4 ⟨hb4, q, n, q', n', hk, hk', rfl, hN, h6, hN', h6'⟩; obtain ⟨hz4, hc4, hf4⟩ := bcl hb4 (by first | (simp; rfl) | rfl))))
    refine bodyPost_ret (v := .tuple #[.slice (some ⟨q, 0, none⟩) n n, .slice (some ⟨q', 0, none⟩) n' n', .int .i64 0]) (by simp only [results, Tryd.results30]; go_simp) rfl ?_
    refine ⟨by (repeat (first | (with_reducible exact bl_refl _) | (with_reducible refine bl_drew ?_) | (with_reducible refine bl_alloc ?_ _) | (with_reducible refine bl_set' ?_ ?_; · (first | omega | (simp; done) | (simp; omega))) | (with_reducible refine bl_last (by assumption) ?_) | (with_reducible refine bl_drewN ?_ _))), q, n, q', n', by omega, by omega, rfl, hN, h6, hN', h6'⟩
end Go.Proofs.YtehifkdfbiebfaaDoor
