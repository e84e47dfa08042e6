/- Pitch: Cmp. -/
import Derived.Test.YtehifkdfbiebfaaDoorK21
namespace Go.Proofs.YtehifkdfbiebfaaDoor
open Go Go.RowKit

theorem NumC {W : World} {b n x : Nat} (h : Num W W.heap.size b n x) : Num W W.heap.size b n x := h
/-- What Cmp returns. -/
def pcN (a b c d e f x y z p q r : Int) : Int := if cbG a b c d e f x y z p q r then cmP a b c d e f x y z p q r else 0
def pcE (a b c d e f x y z p q r : Int) : Int := if cbG a b c d e f x y z p q r then 0 else 1
def pcV (a b c d e f x y z p q r : Int) : Value := .tuple #[.int .i64 (pcN a b c d e f x y z p q r), .int .i64 (pcE a b c d e f x y z p q r)]
set_option maxRecDepth 100000 in
set_option maxHeartbeats 8000000 in
theorem PCmp_c (a b c d e f x y z p q r : Int) (w : World) (hP : PR w) : Calls Tryd.prog 92 #[.agg #[.int .i64 a, .int .i64 b, .int .i64 c, .int .i64 d, .int .i64 e, .int .i64 f], .agg #[.int .i64 x, .int .i64 y, .int .i64 z, .int .i64 p, .int .i64 q, .int .i64 r]] w (Ret (pcV a b c d e f x y z p q r) w) := by
  have hA := fun w => PVld_c a b c d e f w
  have hB := fun w => PVld_c x y z p q r w
  unfold pcV
  cases ha : pV a b c d e f 576
  · have e1 : pcN a b c d e f x y z p q r = 0 := by simp [pcN, cbG, ha]
    have e2 : pcE a b c d e f x y z p q r = 1 := by simp [pcE, cbG, ha]
    rw [e1, e2]
    rw [ha] at hA
    have HA := Lib.hid hA
    have HB := Lib.hid hB
    clear ha hA hB e1 e2 hP
    generalize pV x y z p q r 576 = g at *
    go_enter Tryd.func92, Tryd.ntmps92
    go_wp2_with (first | (go_at_call 80; ((with_reducible refine (HA.out _).mono ?_); rintro e w' ⟨rfl, hb⟩; obtain ⟨hz, hc, hf⟩ := bcl hb (by first | (simp; rfl) | rfl))) | (go_at_call 80; ((with_reducible refine (HB.out _).mono ?_); rintro e w' ⟨rfl, hb⟩; obtain ⟨hz, hc, hf⟩ := bcl hb (by first | (simp; rfl) | rfl))))
    go_ret2
    exact ⟨rfl, by (repeat (first | (with_reducible exact bl_refl _) | (with_reducible refine bl_drew ?_) | (with_reducible refine bl_alloc ?_ _) | (with_reducible refine bl_set' ?_ ?_; · (first | omega | (simp; done) | (simp; omega))) | (with_reducible refine bl_last (by assumption) ?_) | (with_reducible refine bl_drewN ?_ _)))⟩
  cases hb : pV x y z p q r 576
  · have e1 : pcN a b c d e f x y z p q r = 0 := by simp [pcN, cbG, hb]
    have e2 : pcE a b c d e f x y z p q r = 1 := by simp [pcE, cbG, hb]
    rw [e1, e2]
    rw [ha] at hA
    rw [hb] at hB
    have HA := Lib.hid hA
    have HB := Lib.hid hB
    clear ha hb hA hB e1 e2 hP
    go_enter Tryd.func92, Tryd.ntmps92
    go_wp2_with (first | (go_at_call 80; ((with_reducible refine (HA.out _).mono ?_); rintro e w' ⟨rfl, hb⟩; obtain ⟨hz, hc, hf⟩ := bcl hb (by first | (simp; rfl) | rfl))) | (go_at_call 80; ((with_reducible refine (HB.out _).mono ?_); rintro e w' ⟨rfl, hb⟩; obtain ⟨hz, hc, hf⟩ := bcl hb (by first | (simp; rfl) | rfl))))
    go_ret2
    exact ⟨rfl, by (repeat (first | (with_reducible exact bl_refl _) | (with_reducible refine bl_drew ?_) | (with_reducible refine bl_alloc ?_ _) | (with_reducible refine bl_set' ?_ ?_; · (first | omega | (simp; done) | (simp; omega))) | (with_reducible refine bl_last (by assumption) ?_) | (with_reducible refine bl_drewN ?_ _)))⟩
  have e1 : pcN a b c d e f x y z p q r = cmP a b c d e f x y z p q r := by simp [pcN, cbG, ha, hb]
  have e2 : pcE a b c d e f x y z p q r = 0 := by simp [pcE, cbG, ha, hb]
  rw [e1, e2]
  obtain ⟨h1, h2, h3, h4, h5, h6⟩ := pV_of ha
  obtain ⟨k1, k2, k3, k4, k5, k6⟩ := pV_of hb
  have h1 := wi_of h1
  have k1 := wi_of k1
  have h2 := wi_of h2
  have k2 := wi_of k2
  have h3 := wi_of h3
  have k3 := wi_of k3
  have h4 := wi_of h4
  have k4 := wi_of k4
  have h5 := wi_of h5
  have k5 := wi_of k5
  have h6 := wi_of h6
  have k6 := wi_of k6
  have q1 : IntKind.i64.wrap (a - x) = a - x := by rw [IntKind.wrap_i64]; omega
  have q2 : IntKind.i64.wrap (b - y) = b - y := by rw [IntKind.wrap_i64]; omega
  have q3 : IntKind.i64.wrap (c - z) = c - z := by rw [IntKind.wrap_i64]; omega
  have q4 : IntKind.i64.wrap (d - p) = d - p := by rw [IntKind.wrap_i64]; omega
  have q5 : IntKind.i64.wrap (e - q) = e - q := by rw [IntKind.wrap_i64]; omega
  have q6 : IntKind.i64.wrap (f - r) = f - r := by rw [IntKind.wrap_i64]; omega
  have hp : pV (a - x) (b - y) (c - z) (d - p) (e - q) (f - r) 1152 = true := pV_mk (wi_mk (by omega) (by omega)) (wi_mk (by omega) (by omega)) (wi_mk (by omega) (by omega)) (wi_mk (by omega) (by omega)) (wi_mk (by omega) (by omega)) (wi_mk (by omega) (by omega))
  rw [ha] at hA
  rw [hb] at hB
  have HA := Lib.hid hA
  have HB := Lib.hid hB
  have HF := Lib.hid (fun W hW => fraction_c (a - x) (b - y) (c - z) (d - p) (e - q) (f - r) W hp hW)
  have HP := Lib.hid hP
  unfold cmP
  generalize upN (a - x) (b - y) (c - z) (d - p) (e - q) (f - r) = U at *
  generalize dnN (a - x) (b - y) (c - z) (d - p) (e - q) (f - r) = V at *
  clear h1 h2 h3 h4 h5 h6 k1 k2 k3 k4 k5 k6 ha hb hA hB hp hP e1 e2
  go_enter Tryd.func92, Tryd.ntmps92
  go_wp2_with fail
  ((with_reducible refine (HA.out _).mono ?_); rintro en v1 ⟨rfl, e1⟩)
  obtain ⟨hz1, hc1, hf1⟩ := bcl e1 (by first | (simp; rfl) | rfl)
  have z1 : w.heap.size < v1.heap.size := by omega
  have z2 : w.heap.size + 1 < v1.heap.size := by omega
  go_wp2_with fail
  ((with_reducible refine (HB.out _).mono ?_); rintro en v2 ⟨rfl, e2⟩)
  obtain ⟨hz2, hc2, hf2⟩ := bcl e2 (by first | (simp; rfl) | rfl)
  have y1 : w.heap.size < v2.heap.size := by omega
  have y2 : w.heap.size + 1 < v2.heap.size := by omega
  go_wp2_with fail
  refine wp_loop_rounds 7 ?_
  iterate 6 (rw [rounds_succ]; go_wp2)
  refine rounds_letter ?_
  intro W3 hW3
  have k3 : Below w.heap.size w W3 := by
    rw [hW3]
    repeat (first | (with_reducible exact bl_refl _) | (with_reducible refine bl_alloc ?_ _) | (with_reducible refine bl_set' ?_ ?_; · (dsimp only; omega)) | (with_reducible refine bl_last (by assumption) ?_))
  have hD : Blk W3 w.heap.size 72 #[.int .i64 (a - x), .int .i64 (b - y), .int .i64 (c - z), .int .i64 (d - p), .int .i64 (e - q), .int .i64 (f - r)] := by
    rw [hW3]
    repeat (first | (with_reducible apply Blk.new) | (with_reducible apply blk_s) | (with_reducible apply blk_up (hb := by assumption)) | (with_reducible apply Blk.alloc))
    all_goals rfl
  clear hW3 e1 e2 hz1 hc1 hf1 hz2 hc2 hf2 z1 z2 y1 y2
  have zD := hD.lt
  have t0 := hD.cell 0
  have t1 := hD.cell 1
  have t2 := hD.cell 2
  have t3 := hD.cell 3
  have t4 := hD.cell 4
  have t5 := hD.cell 5
  simp only [List.getElem?_toArray, List.getElem?_cons_zero, List.getElem?_cons_succ] at t0 t1 t2 t3 t4 t5
  have HP3 := Lib.hid (HP.out.up k3)
  rw [rounds_succ]
  go_wp2_with fail
  ((with_reducible refine (HF.out _ HP3.out).mono ?_); rintro en v4 ⟨hb4, b, n, b', n', hk, hk', rfl, hN, h6, hN', h6'⟩)
  obtain ⟨hz4, hc4, hf4⟩ := bcl hb4 (by first | (simp; rfl) | rfl)
  go_wp2_with (go_at_call 32; ((with_reducible refine (Ncmp_c _ _ _ _ U V _ _ _ hN hN' h6 h6').mono ?_); rintro en v5 ⟨rfl, hb5⟩; obtain ⟨hz5, hc5, hf5⟩ := bcl hb5 (by first | (simp; rfl) | rfl)))
  go_ret2
  exact ⟨rfl, bl_trans (bl_trans k3 hb4) hb5⟩
end Go.Proofs.YtehifkdfbiebfaaDoor
