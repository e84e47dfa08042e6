/- Pitch: the reference Power (genrefp.py prints it). -/
import Derived.Test.YtgbiiaaeabflnaaDoorRefPA
namespace Go.Proofs.YtgbiiaaeabflnaaDoor
open Go Go.RowKit

set_option maxRecDepth 100000 in
set_option maxHeartbeats 8000000 in
theorem RPower_c (a b c d e f n d' : Int) (w : World) : Calls Tryd.prog 27 #[.agg #[.int .i64 a, .int .i64 b, .int .i64 c, .int .i64 d, .int .i64 e, .int .i64 f], .int .i64 n, .int .i64 d'] w (Ret (pwV a b c d e f n d') w) := by
  have hA := fun w => RPVld_c a b c d e f w
  have hC := fun w => RPVld_c (pq a n d') (pq b n d') (pq c n d') (pq d n d') (pq e n d') (pq f n d') w
  cases hg : pwG a b c d e f n d'
  · have hv : pwV a b c d e f n d' = .tuple #[.agg #[.int .i64 0, .int .i64 0, .int .i64 0, .int .i64 0, .int .i64 0, .int .i64 0], .int .i64 1] := by simp [pwV, pw, pwE, hg]
    rw [hv]
    rcases pwG_ways hg with h1 | ⟨h1, h2⟩ | ⟨h1, h2, h3⟩ | ⟨h1, h2, h3, h4⟩ | ⟨h1, h2, h3, h4, h5⟩
    all_goals
      rw [h1] at hA
      have HA := Lib.hid hA
      clear hg hv hA hC h1
      go_enter Tryd.func27, Tryd.ntmps27
      go_wp2_with (go_at_call 11; ((with_reducible refine (HA.out _).mono ?_); rintro e w' ⟨rfl, hb⟩; obtain ⟨hz, hc, hf⟩ := bcl hb (by first | (simp; rfl) | rfl)))
      (refine bodyPost_ret (v := .tuple #[.agg #[.int .i64 0, .int .i64 0, .int .i64 0, .int .i64 0, .int .i64 0, .int .i64 0], .int .i64 1]) (by simp only [results, Tryd.results27]; go_simp) rfl ⟨rfl, ?_⟩)
      (repeat (first | (with_reducible exact bl_refl _) | (with_reducible refine bl_drew ?_) | (with_reducible refine bl_alloc ?_ _) | (with_reducible refine bl_set' ?_ ?_; · (first | omega | (simp; done) | (simp; omega))) | (with_reducible refine bl_last (by assumption) ?_) | (with_reducible refine bl_drewN ?_ _)))
  obtain ⟨h0, n1, n2, d1, d2⟩ := pwG_of hg
  obtain ⟨h1, h2, h3, h4, h5, h6⟩ := pV_of h0
  rw [h0] at hA
  have HA := Lib.hid hA
  have hd0 : d' ≠ 0 := by omega
  have h1 := wi_of h1
  have m1 := mul_bd h1.1 h1.2 n1 n2
  have v1 := tdiv_bd (d := d') m1.1 m1.2
  have w1 : IntKind.i64.wrap (a * n) = a * n := by rw [IntKind.wrap_i64]; omega
  have y1 : IntKind.i64.wrap (pq a n d') = pq a n d' := by unfold pq; rw [IntKind.wrap_i64]; omega
  have h2 := wi_of h2
  have m2 := mul_bd h2.1 h2.2 n1 n2
  have v2 := tdiv_bd (d := d') m2.1 m2.2
  have w2 : IntKind.i64.wrap (b * n) = b * n := by rw [IntKind.wrap_i64]; omega
  have y2 : IntKind.i64.wrap (pq b n d') = pq b n d' := by unfold pq; rw [IntKind.wrap_i64]; omega
  have h3 := wi_of h3
  have m3 := mul_bd h3.1 h3.2 n1 n2
  have v3 := tdiv_bd (d := d') m3.1 m3.2
  have w3 : IntKind.i64.wrap (c * n) = c * n := by rw [IntKind.wrap_i64]; omega
  have y3 : IntKind.i64.wrap (pq c n d') = pq c n d' := by unfold pq; rw [IntKind.wrap_i64]; omega
  have h4 := wi_of h4
  have m4 := mul_bd h4.1 h4.2 n1 n2
  have v4 := tdiv_bd (d := d') m4.1 m4.2
  have w4 : IntKind.i64.wrap (d * n) = d * n := by rw [IntKind.wrap_i64]; omega
  have y4 : IntKind.i64.wrap (pq d n d') = pq d n d' := by unfold pq; rw [IntKind.wrap_i64]; omega
  have h5 := wi_of h5
  have m5 := mul_bd h5.1 h5.2 n1 n2
  have v5 := tdiv_bd (d := d') m5.1 m5.2
  have w5 : IntKind.i64.wrap (e * n) = e * n := by rw [IntKind.wrap_i64]; omega
  have y5 : IntKind.i64.wrap (pq e n d') = pq e n d' := by unfold pq; rw [IntKind.wrap_i64]; omega
  have h6 := wi_of h6
  have m6 := mul_bd h6.1 h6.2 n1 n2
  have v6 := tdiv_bd (d := d') m6.1 m6.2
  have w6 : IntKind.i64.wrap (f * n) = f * n := by rw [IntKind.wrap_i64]; omega
  have y6 : IntKind.i64.wrap (pq f n d') = pq f n d' := by unfold pq; rw [IntKind.wrap_i64]; omega
  clear m1 m2 m3 m4 m5 m6 v1 v2 v3 v4 v5 v6 h1 h2 h3 h4 h5 h6 h0 hA
  unfold pq at y1 y2 y3 y4 y5 y6
  cases k0 : pwK a n d'
  · have hv : pwV a b c d e f n d' = .tuple #[.agg #[.int .i64 0, .int .i64 0, .int .i64 0, .int .i64 0, .int .i64 0, .int .i64 0], .int .i64 9] := by simp [pwV, pw, pwE, pwA, hg, k0]
    rw [hv]
    have t0 : ¬ (a * n).tmod d' = 0 := of_decide_eq_false k0
    have u0 : ((a * n).tmod d' != 0) = true := by simpa using t0
    clear hv hg hC k0
    go_enter Tryd.func27, Tryd.ntmps27
    go_wp2_with (go_at_call 11; ((with_reducible refine (HA.out _).mono ?_); rintro e w' ⟨rfl, hb⟩; obtain ⟨hz, hc, hf⟩ := bcl hb (by first | (simp; rfl) | rfl)))
    refine wp_loop_rounds 7 ?_
    iterate 1 (rw [rounds_succ]; go_wp2)
    (refine bodyPost_ret (v := .tuple #[.agg #[.int .i64 0, .int .i64 0, .int .i64 0, .int .i64 0, .int .i64 0, .int .i64 0], .int .i64 9]) (by simp only [results, Tryd.results27]; go_simp) rfl ⟨rfl, ?_⟩)
    (repeat (first | (with_reducible exact bl_refl _) | (with_reducible refine bl_drew ?_) | (with_reducible refine bl_alloc ?_ _) | (with_reducible refine bl_set' ?_ ?_; · (first | omega | (simp; done) | (simp; omega))) | (with_reducible refine bl_last (by assumption) ?_) | (with_reducible refine bl_drewN ?_ _)))
  have t0 : (a * n).tmod d' = 0 := of_decide_eq_true k0
  cases k1 : pwK b n d'
  · have hv : pwV a b c d e f n d' = .tuple #[.agg #[.int .i64 0, .int .i64 0, .int .i64 0, .int .i64 0, .int .i64 0, .int .i64 0], .int .i64 9] := by simp [pwV, pw, pwE, pwA, hg, k0, k1]
    rw [hv]
    have t1 : ¬ (b * n).tmod d' = 0 := of_decide_eq_false k1
    have u1 : ((b * n).tmod d' != 0) = true := by simpa using t1
    clear hv hg hC k1
    go_enter Tryd.func27, Tryd.ntmps27
    go_wp2_with (go_at_call 11; ((with_reducible refine (HA.out _).mono ?_); rintro e w' ⟨rfl, hb⟩; obtain ⟨hz, hc, hf⟩ := bcl hb (by first | (simp; rfl) | rfl)))
    refine wp_loop_rounds 7 ?_
    iterate 2 (rw [rounds_succ]; go_wp2)
    (refine bodyPost_ret (v := .tuple #[.agg #[.int .i64 0, .int .i64 0, .int .i64 0, .int .i64 0, .int .i64 0, .int .i64 0], .int .i64 9]) (by simp only [results, Tryd.results27]; go_simp) rfl ⟨rfl, ?_⟩)
    (repeat (first | (with_reducible exact bl_refl _) | (with_reducible refine bl_drew ?_) | (with_reducible refine bl_alloc ?_ _) | (with_reducible refine bl_set' ?_ ?_; · (first | omega | (simp; done) | (simp; omega))) | (with_reducible refine bl_last (by assumption) ?_) | (with_reducible refine bl_drewN ?_ _)))
  have t1 : (b * n).tmod d' = 0 := of_decide_eq_true k1
  cases k2 : pwK c n d'
  · have hv : pwV a b c d e f n d' = .tuple #[.agg #[.int .i64 0, .int .i64 0, .int .i64 0, .int .i64 0, .int .i64 0, .int .i64 0], .int .i64 9] := by simp [pwV, pw, pwE, pwA, hg, k0, k1, k2]
    rw [hv]
    have t2 : ¬ (c * n).tmod d' = 0 := of_decide_eq_false k2
    have u2 : ((c * n).tmod d' != 0) = true := by simpa using t2
    clear hv hg hC k2
    go_enter Tryd.func27, Tryd.ntmps27
    go_wp2_with (go_at_call 11; ((with_reducible refine (HA.out _).mono ?_); rintro e w' ⟨rfl, hb⟩; obtain ⟨hz, hc, hf⟩ := bcl hb (by first | (simp; rfl) | rfl)))
    refine wp_loop_rounds 7 ?_
    iterate 3 (rw [rounds_succ]; go_wp2)
    (refine bodyPost_ret (v := .tuple #[.agg #[.int .i64 0, .int .i64 0, .int .i64 0, .int .i64 0, .int .i64 0, .int .i64 0], .int .i64 9]) (by simp only [results, Tryd.results27]; go_simp) rfl ⟨rfl, ?_⟩)
    (repeat (first | (with_reducible exact bl_refl _) | (with_reducible refine bl_drew ?_) | (with_reducible refine bl_alloc ?_ _) | (with_reducible refine bl_set' ?_ ?_; · (first | omega | (simp; done) | (simp; omega))) | (with_reducible refine bl_last (by assumption) ?_) | (with_reducible refine bl_drewN ?_ _)))
  have t2 : (c * n).tmod d' = 0 := of_decide_eq_true k2
  cases k3 : pwK d n d'
  · have hv : pwV a b c d e f n d' = .tuple #[.agg #[.int .i64 0, .int .i64 0, .int .i64 0, .int .i64 0, .int .i64 0, .int .i64 0], .int .i64 9] := by simp [pwV, pw, pwE, pwA, hg, k0, k1, k2, k3]
    rw [hv]
    have t3 : ¬ (d * n).tmod d' = 0 := of_decide_eq_false k3
    have u3 : ((d * n).tmod d' != 0) = true := by simpa using t3
    clear hv hg hC k3
    go_enter Tryd.func27, Tryd.ntmps27
    go_wp2_with (go_at_call 11; ((with_reducible refine (HA.out _).mono ?_); rintro e w' ⟨rfl, hb⟩; obtain ⟨hz, hc, hf⟩ := bcl hb (by first | (simp; rfl) | rfl)))
    refine wp_loop_rounds 7 ?_
    iterate 4 (rw [rounds_succ]; go_wp2)
    (refine bodyPost_ret (v := .tuple #[.agg #[.int .i64 0, .int .i64 0, .int .i64 0, .int .i64 0, .int .i64 0, .int .i64 0], .int .i64 9]) (by simp only [results, Tryd.results27]; go_simp) rfl ⟨rfl, ?_⟩)
    (repeat (first | (with_reducible exact bl_refl _) | (with_reducible refine bl_drew ?_) | (with_reducible refine bl_alloc ?_ _) | (with_reducible refine bl_set' ?_ ?_; · (first | omega | (simp; done) | (simp; omega))) | (with_reducible refine bl_last (by assumption) ?_) | (with_reducible refine bl_drewN ?_ _)))
  have t3 : (d * n).tmod d' = 0 := of_decide_eq_true k3
  cases k4 : pwK e n d'
  · have hv : pwV a b c d e f n d' = .tuple #[.agg #[.int .i64 0, .int .i64 0, .int .i64 0, .int .i64 0, .int .i64 0, .int .i64 0], .int .i64 9] := by simp [pwV, pw, pwE, pwA, hg, k0, k1, k2, k3, k4]
    rw [hv]
    have t4 : ¬ (e * n).tmod d' = 0 := of_decide_eq_false k4
    have u4 : ((e * n).tmod d' != 0) = true := by simpa using t4
    clear hv hg hC k4
    go_enter Tryd.func27, Tryd.ntmps27
    go_wp2_with (go_at_call 11; ((with_reducible refine (HA.out _).mono ?_); rintro e w' ⟨rfl, hb⟩; obtain ⟨hz, hc, hf⟩ := bcl hb (by first | (simp; rfl) | rfl)))
    refine wp_loop_rounds 7 ?_
    iterate 5 (rw [rounds_succ]; go_wp2)
    (refine bodyPost_ret (v := .tuple #[.agg #[.int .i64 0, .int .i64 0, .int .i64 0, .int .i64 0, .int .i64 0, .int .i64 0], .int .i64 9]) (by simp only [results, Tryd.results27]; go_simp) rfl ⟨rfl, ?_⟩)
    (repeat (first | (with_reducible exact bl_refl _) | (with_reducible refine bl_drew ?_) | (with_reducible refine bl_alloc ?_ _) | (with_reducible refine bl_set' ?_ ?_; · (first | omega | (simp; done) | (simp; omega))) | (with_reducible refine bl_last (by assumption) ?_) | (with_reducible refine bl_drewN ?_ _)))
  have t4 : (e * n).tmod d' = 0 := of_decide_eq_true k4
  cases k5 : pwK f n d'
  · have hv : pwV a b c d e f n d' = .tuple #[.agg #[.int .i64 0, .int .i64 0, .int .i64 0, .int .i64 0, .int .i64 0, .int .i64 0], .int .i64 9] := by simp [pwV, pw, pwE, pwA, hg, k0, k1, k2, k3, k4, k5]
    rw [hv]
    have t5 : ¬ (f * n).tmod d' = 0 := of_decide_eq_false k5
    have u5 : ((f * n).tmod d' != 0) = true := by simpa using t5
    clear hv hg hC k5
    go_enter Tryd.func27, Tryd.ntmps27
    go_wp2_with (go_at_call 11; ((with_reducible refine (HA.out _).mono ?_); rintro e w' ⟨rfl, hb⟩; obtain ⟨hz, hc, hf⟩ := bcl hb (by first | (simp; rfl) | rfl)))
    refine wp_loop_rounds 7 ?_
    iterate 6 (rw [rounds_succ]; go_wp2)
    (refine bodyPost_ret (v := .tuple #[.agg #[.int .i64 0, .int .i64 0, .int .i64 0, .int .i64 0, .int .i64 0, .int .i64 0], .int .i64 9]) (by simp only [results, Tryd.results27]; go_simp) rfl ⟨rfl, ?_⟩)
    (repeat (first | (with_reducible exact bl_refl _) | (with_reducible refine bl_drew ?_) | (with_reducible refine bl_alloc ?_ _) | (with_reducible refine bl_set' ?_ ?_; · (first | omega | (simp; done) | (simp; omega))) | (with_reducible refine bl_last (by assumption) ?_) | (with_reducible refine bl_drewN ?_ _)))
  have t5 : (f * n).tmod d' = 0 := of_decide_eq_true k5
  cases hs : pwS a b c d e f n d'
  all_goals
    have hE := hs
    unfold pwS at hs
    rw [hs] at hC
    have HC := Lib.hid hC
  · have hv : pwV a b c d e f n d' = .tuple #[.agg #[.int .i64 0, .int .i64 0, .int .i64 0, .int .i64 0, .int .i64 0, .int .i64 0], .int .i64 3] := by simp [pwV, pw, pwE, pwA, pq, hg, hE, k0, k1, k2, k3, k4, k5]
    rw [hv]
    clear hv hg hC hs hE k0 k1 k2 k3 k4 k5
    unfold pq at HC
    go_enter Tryd.func27, Tryd.ntmps27
    go_wp2_with (go_at_call 11; ((with_reducible refine (HA.out _).mono ?_); rintro e w' ⟨rfl, hb⟩; obtain ⟨hz, hc, hf⟩ := bcl hb (by first | (simp; rfl) | rfl)))
    refine wp_loop_rounds 7 ?_
    iterate 6 (rw [rounds_succ]; go_wp2)
    rw [rounds_succ]
    go_wp2_with (go_at_call 11; ((with_reducible refine (HC.out _).mono ?_); rintro e w' ⟨rfl, hb⟩; obtain ⟨hz, hc, hf⟩ := bcl hb (by first | (simp; rfl) | rfl)))
    (refine bodyPost_ret (v := .tuple #[.agg #[.int .i64 0, .int .i64 0, .int .i64 0, .int .i64 0, .int .i64 0, .int .i64 0], .int .i64 3]) (by simp only [results, Tryd.results27]; go_simp) rfl ⟨rfl, ?_⟩)
    (repeat (first | (with_reducible exact bl_refl _) | (with_reducible refine bl_drew ?_) | (with_reducible refine bl_alloc ?_ _) | (with_reducible refine bl_set' ?_ ?_; · (first | omega | (simp; done) | (simp; omega))) | (with_reducible refine bl_last (by assumption) ?_) | (with_reducible refine bl_drewN ?_ _)))
  · have hv : pwV a b c d e f n d' = .tuple #[.agg #[.int .i64 ((a * n).tdiv d'), .int .i64 ((b * n).tdiv d'), .int .i64 ((c * n).tdiv d'), .int .i64 ((d * n).tdiv d'), .int .i64 ((e * n).tdiv d'), .int .i64 ((f * n).tdiv d')], .int .i64 0] := by simp [pwV, pw, pwE, pwA, pq, hg, hE, k0, k1, k2, k3, k4, k5]
    rw [hv]
    clear hv hg hC hs hE k0 k1 k2 k3 k4 k5
    unfold pq at HC
    go_enter Tryd.func27, Tryd.ntmps27
    go_wp2_with (go_at_call 11; ((with_reducible refine (HA.out _).mono ?_); rintro e w' ⟨rfl, hb⟩; obtain ⟨hz, hc, hf⟩ := bcl hb (by first | (simp; rfl) | rfl)))
    refine wp_loop_rounds 7 ?_
    iterate 6 (rw [rounds_succ]; go_wp2)
    rw [rounds_succ]
    go_wp2_with (go_at_call 11; ((with_reducible refine (HC.out _).mono ?_); rintro e w' ⟨rfl, hb⟩; obtain ⟨hz, hc, hf⟩ := bcl hb (by first | (simp; rfl) | rfl)))
    (refine bodyPost_ret (v := .tuple #[.agg #[.int .i64 ((a * n).tdiv d'), .int .i64 ((b * n).tdiv d'), .int .i64 ((c * n).tdiv d'), .int .i64 ((d * n).tdiv d'), .int .i64 ((e * n).tdiv d'), .int .i64 ((f * n).tdiv d')], .int .i64 0]) (by simp only [results, Tryd.results27]; go_simp) rfl ⟨rfl, ?_⟩)
    (repeat (first | (with_reducible exact bl_refl _) | (with_reducible refine bl_drew ?_) | (with_reducible refine bl_alloc ?_ _) | (with_reducible refine bl_set' ?_ ?_; · (first | omega | (simp; done) | (simp; omega))) | (with_reducible refine bl_last (by assumption) ?_) | (with_reducible refine bl_drewN ?_ _)))
end Go.Proofs.YtgbiiaaeabflnaaDoor
