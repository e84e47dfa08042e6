/- BeatBands: the plain law and the walk. -/
import Derived.Test.YthlnfjllkmielaaLawCnt
import Derived.Test.YthlnfjllkmielaaBeatU
namespace Go.Proofs.Ythlnfjllkmielaa
open Go Go.RowKit

set_option maxHeartbeats 1000000 in
/-- A number lies in a band. -/
theorem in_c (ln ld hn hd an ad : Int) (w : World) : Calls Try.prog 31 #[.agg #[.int .i64 ln, .int .i64 ld, .int .i64 hn, .int .i64 hd], .agg #[.int .i64 an, .int .i64 ad]] w (Ret (.bool (riB ln ld an ad && riB an ad hn hd)) w) := by
  have hC := fun w => RCmp_c ln ld an ad w
  have hD := fun w => RCmp_c an ad hn hd w
  rcases ri_ways ln ld an ad with ⟨_, h1, h2⟩ | ⟨_, h2, h1⟩ | ⟨_, h2, x, hx, h1⟩ <;> rcases ri_ways an ad hn hd with ⟨_, h3, h4⟩ | ⟨_, h4, h3⟩ | ⟨_, h4, y, hy, h3⟩
  all_goals
    rw [h2, h4]
    rw [h1] at hC
    rw [h3] at hD
    have HC := Lib.hid hC
    have HD := Lib.hid hD
    clear h1 h2 h3 h4 hC hD
    try have hx' : decide (x ≤ 0) = true := decide_eq_true hx
    try have hy' : decide (y ≤ 0) = true := decide_eq_true hy
    try clear hx
    try clear hy
    go_enter Try.func31, Try.ntmps31
    go_wp2_with (first | (go_at_call 30; ((with_reducible refine (HC.out _).mono ?_); rintro e w' ⟨rfl, hb⟩; obtain ⟨hz, hc, hf⟩ := bcl hb (by first | (simp; rfl) | rfl))) | (go_at_call 30; ((with_reducible refine (HD.out _).mono ?_); rintro e w' ⟨rfl, hb⟩; obtain ⟨hz, hc, hf⟩ := bcl hb (by first | (simp; rfl) | rfl))))
    go_ret
    exact ⟨rfl, by (repeat (first | (with_reducible exact bl_refl _) | (with_reducible refine bl_drew ?_) | (with_reducible refine bl_alloc ?_ _) | (with_reducible refine bl_set' ?_ ?_; · (first | omega | (simp; done) | (simp; omega))) | (with_reducible refine bl_last (by assumption) ?_) | (with_reducible refine bl_drewN ?_ _)))⟩
theorem ri_of {an ad bn bd : Int} (h : riB an ad bn bd = true) : (vR an ad = true ∧ vR bn bd = true) ∧ an * bd ≤ bn * ad := by
  unfold riB at h
  simpa using h
theorem ri_mk {an ad bn bd : Int} (h1 : vR an ad = true) (h2 : vR bn bd = true) (h : an * bd ≤ bn * ad) : riB an ad bn bd = true := by
  unfold riB
  rw [h1, h2]
  simpa using h
/-- Set is monotone. -/
theorem set_mono {fn fd gn gd p q rn rd sn sd : Int} {above : Bool} (h1 : seE fn fd p q rn rd above = 0) (h2 : seE gn gd p q sn sd above = 0) (hf : fn * gd ≤ gn * fd) (hr : if above then rn * sd ≤ sn * rd else sn * rd ≤ rn * sd) :
    riB (seX fn fd p q rn rd above) (seY fn fd p q rn rd above) (seX gn gd p q sn sd above) (seY gn gd p q sn sd above) = true := by
  obtain ⟨g1, v1, e1⟩ := se_spec h1
  obtain ⟨g2, v2, e2⟩ := se_spec h2
  obtain ⟨f1, r1, p1, q1⟩ := seG_of g1
  obtain ⟨f2, r2, _, _⟩ := seG_of g2
  have b1 := (rt_of (sd_of f1).1).2.2.1
  have b2 := (rt_of (sd_of f2).1).2.2.1
  have b3 := (rt_of r1).2.2.1
  have b4 := (rt_of r2).2.2.1
  have b5 := (pt_of p1).1
  have b6 := (pt_of q1).1
  refine ri_mk (rt_v (sd_of v1).1) (rt_v (sd_of v2).1) ?_
  have y1 := den_pos (rt_v (sd_of v1).1)
  have y2 := den_pos (rt_v (sd_of v2).1)
  have hN : seN fn fd p rn rd above * (gd * sd) ≤ seN gn gd p sn sd above * (fd * rd) := by
    have a1 := Int.mul_le_mul_of_nonneg_right hf (show 0 ≤ p * rd * sd from Int.mul_nonneg (Int.mul_nonneg (by omega) (by omega)) (by omega))
    have hK : 0 ≤ fd * gd := Int.mul_nonneg (by omega) (by omega)
    unfold seN
    cases above
    · simp only [Bool.false_eq_true, if_false] at hr ⊢
      have a2 := Int.mul_le_mul_of_nonneg_right hr hK
      have i1 : (p * fn * rd + -(rn * fd)) * (gd * sd) = fn * gd * (p * rd * sd) - rn * sd * (fd * gd) := by grind
      have i2 : (p * gn * sd + -(sn * gd)) * (fd * rd) = gn * fd * (p * rd * sd) - sn * rd * (fd * gd) := by grind
      rw [i1, i2]
      omega
    · simp only [if_true] at hr ⊢
      have a2 := Int.mul_le_mul_of_nonneg_right hr hK
      have i1 : (p * fn * rd + rn * fd) * (gd * sd) = fn * gd * (p * rd * sd) + rn * sd * (fd * gd) := by grind
      have i2 : (p * gn * sd + sn * gd) * (fd * rd) = gn * fd * (p * rd * sd) + sn * rd * (fd * gd) := by grind
      rw [i1, i2]
      omega
  generalize seX fn fd p q rn rd above = X1 at *
  generalize seY fn fd p q rn rd above = Y1 at *
  generalize seX gn gd p q sn sd above = X2 at *
  generalize seY gn gd p q sn sd above = Y2 at *
  generalize seN fn fd p rn rd above = N1 at *
  generalize seN gn gd p sn sd above = N2 at *
  have hq : 0 < q := by omega
  have hfd : 0 < fd := by omega
  have hgd : 0 < gd := by omega
  have hrd : 0 < rd := by omega
  have hsd : 0 < sd := by omega
  have k1 : 0 < q * fd * rd := Int.mul_pos (Int.mul_pos hq hfd) hrd
  have k2 : 0 < q * gd * sd := Int.mul_pos (Int.mul_pos hq hgd) hsd
  have hle := Int.mul_le_mul_of_nonneg_right hN (show 0 ≤ q * Y1 * Y2 from Int.le_of_lt (Int.mul_pos (Int.mul_pos hq y1) y2))
  have i1 : X1 * Y2 * (q * fd * rd * (q * gd * sd)) = N1 * (gd * sd) * (q * Y1 * Y2) := by
    have : X1 * Y2 * (q * fd * rd * (q * gd * sd)) = X1 * (q * fd * rd) * (Y2 * (q * gd * sd)) := by grind
    rw [this, e1]
    grind
  have i2 : X2 * Y1 * (q * fd * rd * (q * gd * sd)) = N2 * (fd * rd) * (q * Y1 * Y2) := by
    have : X2 * Y1 * (q * fd * rd * (q * gd * sd)) = X2 * (q * gd * sd) * (Y1 * (q * fd * rd)) := by grind
    rw [this, e2]
    grind
  rw [← i1, ← i2] at hle
  exact Int.le_of_mul_le_mul_right hle (Int.mul_pos k1 k2)
theorem mv_ok {an ad bn bd p q rn rd sn sd : Int} {above : Bool} (h : mvK an ad bn bd p q rn rd sn sd above = 0) : mvO an ad bn bd p q rn rd sn sd above = true ∧ riB an ad bn bd = true ∧ riB rn rd sn sd = true ∧ seE an ad p q (mvA above rn sn) (mvA above rd sd) above = 0 ∧ seE bn bd p q (mvA above sn rn) (mvA above sd rd) above = 0 := by
  unfold mvK at h
  split at h
  · rename_i ho
    refine ⟨ho, ?_⟩
    unfold mvO mvG at ho
    simp only [Bool.and_eq_true, decide_eq_true_eq] at ho
    exact ⟨ho.1.2.2.1, ho.1.2.2.2.1, ho.2.1, ho.2.2⟩
  · split at h <;> cases h
theorem mv_bad {an ad bn bd p q rn rd sn sd : Int} {above : Bool} (h : ¬ mvK an ad bn bd p q rn rd sn sd above = 0) : mvO an ad bn bd p q rn rd sn sd above = false := by
  cases ho : mvO an ad bn bd p q rn rd sn sd above
  · rfl
  · exact absurd (by unfold mvK; rw [if_pos ho]) h
theorem band_law {an ad bn bd p q rn rd sn sd : Int} {above : Bool} (h : mvK an ad bn bd p q rn rd sn sd above = 0) :
    (vR (seX an ad p q (mvA above rn sn) (mvA above rd sd) above) (seY an ad p q (mvA above rn sn) (mvA above rd sd) above) = true ∧ vR (seX bn bd p q (mvA above sn rn) (mvA above sd rd) above) (seY bn bd p q (mvA above sn rn) (mvA above sd rd) above) = true) ∧
      riB (seX an ad p q (mvA above rn sn) (mvA above rd sd) above) (seY an ad p q (mvA above rn sn) (mvA above rd sd) above) (seX bn bd p q (mvA above sn rn) (mvA above sd rd) above) (seY bn bd p q (mvA above sn rn) (mvA above sd rd) above) = true ∧
      (∀ fn fd tn td, seE fn fd p q tn td above = 0 → riB an ad fn fd = true → riB fn fd bn bd = true → riB rn rd tn td = true → riB tn td sn sd = true →
        riB (seX an ad p q (mvA above rn sn) (mvA above rd sd) above) (seY an ad p q (mvA above rn sn) (mvA above rd sd) above) (seX fn fd p q tn td above) (seY fn fd p q tn td above) = true ∧
        riB (seX fn fd p q tn td above) (seY fn fd p q tn td above) (seX bn bd p q (mvA above sn rn) (mvA above sd rd) above) (seY bn bd p q (mvA above sn rn) (mvA above sd rd) above) = true) := by
  obtain ⟨_, h1, h2, e1, e2⟩ := mv_ok h
  have hA := (ri_of h1).2
  have hB := (ri_of h2).2
  refine ⟨⟨rt_v (sd_of (se_spec e1).2.1).1, rt_v (sd_of (se_spec e2).2.1).1⟩, set_mono e1 e2 hA (by cases above <;> exact hB), fun fn fd tn td e3 g1 g2 g3 g4 => ?_⟩
  have c1 := (ri_of g1).2
  have c2 := (ri_of g2).2
  have c3 := (ri_of g3).2
  have c4 := (ri_of g4).2
  exact ⟨set_mono e1 e3 c1 (by cases above <;> assumption), set_mono e3 e2 c2 (by cases above <;> assumption)⟩
set_option maxRecDepth 100000 in
set_option maxHeartbeats 8000000 in
theorem walk_BeatBands (an ad bn bd p q rn rd sn sd : Int) (above : Bool) (fn fd tn td : Int) (w : World) (_ : (Lit.int .i64 an).wf = true) (_ : (Lit.int .i64 ad).wf = true) (_ : (Lit.int .i64 bn).wf = true) (_ : (Lit.int .i64 bd).wf = true) (_ : (Lit.int .i64 p).wf = true) (_ : (Lit.int .i64 q).wf = true) (_ : (Lit.int .i64 rn).wf = true) (_ : (Lit.int .i64 rd).wf = true) (_ : (Lit.int .i64 sn).wf = true) (_ : (Lit.int .i64 sd).wf = true) (_ : (Lit.int .i64 fn).wf = true) (_ : (Lit.int .i64 fd).wf = true) (_ : (Lit.int .i64 tn).wf = true) (_ : (Lit.int .i64 td).wf = true) :
    Calls Try.prog 8 #[.agg #[.int .i64 an, .int .i64 ad, .int .i64 bn, .int .i64 bd], .int .i64 p, .int .i64 q, .agg #[.int .i64 rn, .int .i64 rd, .int .i64 sn, .int .i64 sd], .bool above, .agg #[.int .i64 fn, .int .i64 fd], .agg #[.int .i64 tn, .int .i64 td]] w (Ret (.bool true) w) := by
  have HH := Lib.hid (fun w => head17_c w)
  have hM := fun w => Move_c an ad bn bd p q rn rd sn sd above w
  unfold mvV at hM
  by_cases hK : mvK an ad bn bd p q rn rd sn sd above = 0
  case neg =>
    have ho := mv_bad hK
    simp only [ho, Bool.false_eq_true, if_false] at hM
    have hK' : (mvK an ad bn bd p q rn rd sn sd above != 0) = true := by simpa using hK
    clear hK ho
    generalize mvK an ad bn bd p q rn rd sn sd above = K at *
    have HM := Lib.hid hM
    clear hM
    go_enter Try.func8, Try.ntmps8
    go_wp2_with (first | (go_at_call 11; ((with_reducible refine (HH.out _).mono ?_); rintro e w' ⟨rfl, hb⟩; obtain ⟨hz, hc, hf⟩ := bcl hb (by first | (simp; rfl) | rfl))) | (go_at_call 22; ((with_reducible refine (HM.out _).mono ?_); rintro e w' ⟨rfl, hb⟩; obtain ⟨hz, hc, hf⟩ := bcl hb (by first | (simp; rfl) | rfl))))
    go_ret
    refine ⟨rfl, ?_⟩
    (repeat (first | (with_reducible exact bl_refl _) | (with_reducible refine bl_drew ?_) | (with_reducible refine bl_alloc ?_ _) | (with_reducible refine bl_set' ?_ ?_; · (first | omega | (simp; done) | (simp; omega))) | (with_reducible refine bl_last (by assumption) ?_) | (with_reducible refine bl_drewN ?_ _)))
  obtain ⟨ho, _, _, e1, e2⟩ := mv_ok hK
  obtain ⟨⟨l1, l2⟩, l3, l4⟩ := band_law hK
  simp only [ho, if_true, hK] at hM
  have hS1 := fun w => Set_c an ad p q (mvA above rn sn) (mvA above rd sd) above w
  have hS2 := fun w => Set_c bn bd p q (mvA above sn rn) (mvA above sd rd) above w
  have hS3 := fun w => Set_c fn fd p q tn td above w
  simp only [seV_eq, e1, e2] at hS1 hS2 hS3
  have hl := l4 fn fd tn td
  clear l4 e1 e2 hK ho
  have hI1 := fun w => in_c (seX an ad p q (mvA above rn sn) (mvA above rd sd) above) (seY an ad p q (mvA above rn sn) (mvA above rd sd) above) (seX bn bd p q (mvA above sn rn) (mvA above sd rd) above) (seY bn bd p q (mvA above sn rn) (mvA above sd rd) above) (seX an ad p q (mvA above rn sn) (mvA above rd sd) above) (seY an ad p q (mvA above rn sn) (mvA above rd sd) above) w
  have hI2 := fun w => in_c (seX an ad p q (mvA above rn sn) (mvA above rd sd) above) (seY an ad p q (mvA above rn sn) (mvA above rd sd) above) (seX bn bd p q (mvA above sn rn) (mvA above sd rd) above) (seY bn bd p q (mvA above sn rn) (mvA above sd rd) above) (seX bn bd p q (mvA above sn rn) (mvA above sd rd) above) (seY bn bd p q (mvA above sn rn) (mvA above sd rd) above) w
  have hI3 := fun w => in_c an ad bn bd fn fd w
  have hI4 := fun w => in_c rn rd sn sd tn td w
  have hI5 := fun w => in_c (seX an ad p q (mvA above rn sn) (mvA above rd sd) above) (seY an ad p q (mvA above rn sn) (mvA above rd sd) above) (seX bn bd p q (mvA above sn rn) (mvA above sd rd) above) (seY bn bd p q (mvA above sn rn) (mvA above sd rd) above) (seX fn fd p q tn td above) (seY fn fd p q tn td above) w
  have i1 := ri_mk l1 l1 (Int.le_refl _)
  have i2 := ri_mk l2 l2 (Int.le_refl _)
  generalize seX an ad p q (mvA above rn sn) (mvA above rd sd) above = x1 at *
  generalize seY an ad p q (mvA above rn sn) (mvA above rd sd) above = y1 at *
  generalize seX bn bd p q (mvA above sn rn) (mvA above sd rd) above = x2 at *
  generalize seY bn bd p q (mvA above sn rn) (mvA above sd rd) above = y2 at *
  generalize seX fn fd p q tn td above = x3 at *
  generalize seY fn fd p q tn td above = y3 at *
  generalize seE fn fd p q tn td above = E at *
  simp only [i1, i2, l3, Bool.and_self] at hI1 hI2
  clear l1 l2 l3 i1 i2
  have hw : (E != 0) = true ∨ (E = 0 ∧ (riB an ad fn fd && riB fn fd bn bd) = false) ∨ (E = 0 ∧ (riB an ad fn fd && riB fn fd bn bd) = true ∧ (riB rn rd tn td && riB tn td sn sd) = false) ∨ (E = 0 ∧ (riB an ad fn fd && riB fn fd bn bd) = true ∧ (riB rn rd tn td && riB tn td sn sd) = true ∧ (riB x1 y1 x3 y3 && riB x3 y3 x2 y2) = true) := by
    by_cases g1 : E = 0
    · cases g2 : (riB an ad fn fd && riB fn fd bn bd)
      · exact Or.inr (Or.inl ⟨g1, rfl⟩)
      · cases g3 : (riB rn rd tn td && riB tn td sn sd)
        · exact Or.inr (Or.inr (Or.inl ⟨g1, rfl, rfl⟩))
        · simp only [Bool.and_eq_true] at g2 g3
          obtain ⟨k1, k2⟩ := hl g1 g2.1 g2.2 g3.1 g3.2
          exact Or.inr (Or.inr (Or.inr ⟨g1, rfl, rfl, by rw [k1, k2]; rfl⟩))
    · exact Or.inl (by simpa using g1)
  clear hl
  have HM := Lib.hid hM
  have HI1 := Lib.hid hI1
  have HI2 := Lib.hid hI2
  clear hM hI1 hI2
  rcases hw with g1 | ⟨rfl, g2⟩ | ⟨rfl, g2, g3⟩ | ⟨rfl, g2, g3, g4⟩
  all_goals
    try rw [g2] at hI3
    try rw [g3] at hI4
    try rw [g4] at hI5
    try clear g2
    try clear g3
    try clear g4
    have HI3 := Lib.hid hI3
    have HI4 := Lib.hid hI4
    have HI5 := Lib.hid hI5
    have HS3 := Lib.hid hS3
    clear hI3 hI4 hI5 hS3
    cases above
    · simp only [mvA, Bool.false_eq_true, if_false] at hS1 hS2
      have HS1 := Lib.hid hS1
      have HS2 := Lib.hid hS2
      clear hS1 hS2
      go_enter Try.func8, Try.ntmps8
      go_wp2_with (first | (go_at_call 11; ((with_reducible refine (HH.out _).mono ?_); rintro e w1 ⟨rfl, hb1⟩; obtain ⟨hz1, hc1, hf1⟩ := bcl hb1 (by first | (simp; rfl) | rfl); have q1_w_0 : w.heap.size < w1.heap.size := (by omega); have q1_w_0_0 : w.heap.size ≤ w1.heap.size := (by omega); have q1_w_1 : w.heap.size + 1 < w1.heap.size := (by omega); have q1_w_2 : w.heap.size + 1 + 1 < w1.heap.size := (by omega); have q1_w_3 : w.heap.size + 1 + 1 + 1 < w1.heap.size := (by omega))) | (go_at_call 22; ((with_reducible refine (HM.out _).mono ?_); rintro e w2 ⟨rfl, hb2⟩; obtain ⟨hz2, hc2, hf2⟩ := bcl hb2 (by first | (simp; rfl) | rfl); have q2_w_0 : w.heap.size < w2.heap.size := (by omega); have q2_w_0_0 : w.heap.size ≤ w2.heap.size := (by omega); have q2_w_0_1 : w.heap.size ≤ w2.heap.size + 1 := (by omega); have q2_w_0_2 : w.heap.size ≤ w2.heap.size + 1 + 1 := (by omega); have q2_w_0_3 : w.heap.size < w2.heap.size + 1 := (by omega); have q2_w_0_4 : w.heap.size < w2.heap.size + 1 + 1 := (by omega); have q2_w_1 : w.heap.size + 1 < w2.heap.size := (by omega); have q2_w_1_0 : w.heap.size + 1 ≤ w2.heap.size := (by omega); have q2_w_1_1 : w.heap.size + 1 ≤ w2.heap.size + 1 := (by omega); have q2_w_1_2 : w.heap.size + 1 ≤ w2.heap.size + 1 + 1 := (by omega); have q2_w_1_3 : w.heap.size + 1 < w2.heap.size + 1 := (by omega); have q2_w_1_4 : w.heap.size + 1 < w2.heap.size + 1 + 1 := (by omega); have q2_w_2 : w.heap.size + 1 + 1 < w2.heap.size := (by omega); have q2_w_2_0 : w.heap.size + 1 + 1 ≤ w2.heap.size := (by omega); have q2_w_2_1 : w.heap.size + 1 + 1 ≤ w2.heap.size + 1 := (by omega); have q2_w_2_2 : w.heap.size + 1 + 1 ≤ w2.heap.size + 1 + 1 := (by omega); have q2_w_2_3 : w.heap.size + 1 + 1 < w2.heap.size + 1 := (by omega); have q2_w_2_4 : w.heap.size + 1 + 1 < w2.heap.size + 1 + 1 := (by omega); have q2_w_3 : w.heap.size + 1 + 1 + 1 < w2.heap.size := (by omega); have q2_w_3_0 : w.heap.size + 1 + 1 + 1 ≤ w2.heap.size := (by omega); have q2_w_3_1 : w.heap.size + 1 + 1 + 1 ≤ w2.heap.size + 1 := (by omega); have q2_w_3_2 : w.heap.size + 1 + 1 + 1 ≤ w2.heap.size + 1 + 1 := (by omega); have q2_w_3_3 : w.heap.size + 1 + 1 + 1 < w2.heap.size + 1 := (by omega); have q2_w_3_4 : w.heap.size + 1 + 1 + 1 < w2.heap.size + 1 + 1 := (by omega))) | (go_at_call 14; ((with_reducible refine (HS1.out _).mono ?_); rintro e w3 ⟨rfl, hb3⟩; obtain ⟨hz3, hc3, hf3⟩ := bcl hb3 (by first | (simp; rfl) | rfl); have q3_w_0 : w.heap.size < w3.heap.size := (by omega); have q3_w_0_0 : w.heap.size ≤ w3.heap.size := (by omega); have q3_w_1 : w.heap.size + 1 < w3.heap.size := (by omega); have q3_w_2 : w.heap.size + 1 + 1 < w3.heap.size := (by omega); have q3_w_3 : w.heap.size + 1 + 1 + 1 < w3.heap.size := (by omega); have q3_w2_0 : w2.heap.size < w3.heap.size := (by omega); have q3_w2_0_0 : w2.heap.size ≤ w3.heap.size := (by omega); have q3_w2_1 : w2.heap.size + 1 < w3.heap.size := (by omega); have q3_w2_2 : w2.heap.size + 1 + 1 < w3.heap.size := (by omega))) | (go_at_call 14; ((with_reducible refine (HS2.out _).mono ?_); rintro e w4 ⟨rfl, hb4⟩; obtain ⟨hz4, hc4, hf4⟩ := bcl hb4 (by first | (simp; rfl) | rfl); have q4_w_0 : w.heap.size < w4.heap.size := (by omega); have q4_w_0_0 : w.heap.size ≤ w4.heap.size := (by omega); have q4_w_1 : w.heap.size + 1 < w4.heap.size := (by omega); have q4_w_2 : w.heap.size + 1 + 1 < w4.heap.size := (by omega); have q4_w_3 : w.heap.size + 1 + 1 + 1 < w4.heap.size := (by omega); have q4_w2_0 : w2.heap.size < w4.heap.size := (by omega); have q4_w2_0_0 : w2.heap.size ≤ w4.heap.size := (by omega); have q4_w2_1 : w2.heap.size + 1 < w4.heap.size := (by omega); have q4_w2_2 : w2.heap.size + 1 + 1 < w4.heap.size := (by omega); have q4_w3_0 : w3.heap.size < w4.heap.size := (by omega); have q4_w3_0_0 : w3.heap.size ≤ w4.heap.size := (by omega))) | (go_at_call 31; ((with_reducible refine (HI1.out _).mono ?_); rintro e w5 ⟨rfl, hb5⟩; obtain ⟨hz5, hc5, hf5⟩ := bcl hb5 (by first | (simp; rfl) | rfl); have q5_w_0 : w.heap.size < w5.heap.size := (by omega); have q5_w_0_0 : w.heap.size ≤ w5.heap.size := (by omega); have q5_w_1 : w.heap.size + 1 < w5.heap.size := (by omega); have q5_w_2 : w.heap.size + 1 + 1 < w5.heap.size := (by omega); have q5_w_3 : w.heap.size + 1 + 1 + 1 < w5.heap.size := (by omega); have q5_w2_0 : w2.heap.size < w5.heap.size := (by omega); have q5_w2_0_0 : w2.heap.size ≤ w5.heap.size := (by omega); have q5_w2_1 : w2.heap.size + 1 < w5.heap.size := (by omega); have q5_w2_2 : w2.heap.size + 1 + 1 < w5.heap.size := (by omega); have q5_w3_0 : w3.heap.size < w5.heap.size := (by omega); have q5_w3_0_0 : w3.heap.size ≤ w5.heap.size := (by omega); have q5_w4_0 : w4.heap.size < w5.heap.size := (by omega); have q5_w4_0_0 : w4.heap.size ≤ w5.heap.size := (by omega))) | (go_at_call 31; ((with_reducible refine (HI2.out _).mono ?_); rintro e w6 ⟨rfl, hb6⟩; obtain ⟨hz6, hc6, hf6⟩ := bcl hb6 (by first | (simp; rfl) | rfl); have q6_w_0 : w.heap.size < w6.heap.size := (by omega); have q6_w_0_0 : w.heap.size ≤ w6.heap.size := (by omega); have q6_w_1 : w.heap.size + 1 < w6.heap.size := (by omega); have q6_w_2 : w.heap.size + 1 + 1 < w6.heap.size := (by omega); have q6_w_3 : w.heap.size + 1 + 1 + 1 < w6.heap.size := (by omega); have q6_w2_0 : w2.heap.size < w6.heap.size := (by omega); have q6_w2_0_0 : w2.heap.size ≤ w6.heap.size := (by omega); have q6_w2_1 : w2.heap.size + 1 < w6.heap.size := (by omega); have q6_w2_2 : w2.heap.size + 1 + 1 < w6.heap.size := (by omega); have q6_w3_0 : w3.heap.size < w6.heap.size := (by omega); have q6_w3_0_0 : w3.heap.size ≤ w6.heap.size := (by omega); have q6_w4_0 : w4.heap.size < w6.heap.size := (by omega); have q6_w4_0_0 : w4.heap.size ≤ w6.heap.size := (by omega))) | (go_at_call 14; ((with_reducible refine (HS3.out _).mono ?_); rintro e w7 ⟨rfl, hb7⟩; obtain ⟨hz7, hc7, hf7⟩ := bcl hb7 (by first | (simp; rfl) | rfl); have q7_w_0 : w.heap.size < w7.heap.size := (by omega); have q7_w_0_0 : w.heap.size ≤ w7.heap.size := (by omega); have q7_w_1 : w.heap.size + 1 < w7.heap.size := (by omega); have q7_w_2 : w.heap.size + 1 + 1 < w7.heap.size := (by omega); have q7_w_3 : w.heap.size + 1 + 1 + 1 < w7.heap.size := (by omega); have q7_w2_0 : w2.heap.size < w7.heap.size := (by omega); have q7_w2_0_0 : w2.heap.size ≤ w7.heap.size := (by omega); have q7_w2_1 : w2.heap.size + 1 < w7.heap.size := (by omega); have q7_w2_2 : w2.heap.size + 1 + 1 < w7.heap.size := (by omega); have q7_w3_0 : w3.heap.size < w7.heap.size := (by omega); have q7_w3_0_0 : w3.heap.size ≤ w7.heap.size := (by omega); have q7_w4_0 : w4.heap.size < w7.heap.size := (by omega); have q7_w4_0_0 : w4.heap.size ≤ w7.heap.size := (by omega))) | (go_at_call 31; ((with_reducible refine (HI3.out _).mono ?_); rintro e w8 ⟨rfl, hb8⟩; obtain ⟨hz8, hc8, hf8⟩ := bcl hb8 (by first | (simp; rfl) | rfl); have q8_w_0 : w.heap.size < w8.heap.size := (by omega); have q8_w_0_0 : w.heap.size ≤ w8.heap.size := (by omega); have q8_w_1 : w.heap.size + 1 < w8.heap.size := (by omega); have q8_w_2 : w.heap.size + 1 + 1 < w8.heap.size := (by omega); have q8_w_3 : w.heap.size + 1 + 1 + 1 < w8.heap.size := (by omega); have q8_w2_0 : w2.heap.size < w8.heap.size := (by omega); have q8_w2_0_0 : w2.heap.size ≤ w8.heap.size := (by omega); have q8_w2_1 : w2.heap.size + 1 < w8.heap.size := (by omega); have q8_w2_2 : w2.heap.size + 1 + 1 < w8.heap.size := (by omega); have q8_w3_0 : w3.heap.size < w8.heap.size := (by omega); have q8_w3_0_0 : w3.heap.size ≤ w8.heap.size := (by omega); have q8_w4_0 : w4.heap.size < w8.heap.size := (by omega); have q8_w4_0_0 : w4.heap.size ≤ w8.heap.size := (by omega); have q8_w7_0 : w7.heap.size < w8.heap.size := (by omega); have q8_w7_0_0 : w7.heap.size ≤ w8.heap.size := (by omega))) | (go_at_call 31; ((with_reducible refine (HI4.out _).mono ?_); rintro e w9 ⟨rfl, hb9⟩; obtain ⟨hz9, hc9, hf9⟩ := bcl hb9 (by first | (simp; rfl) | rfl); have q9_w_0 : w.heap.size < w9.heap.size := (by omega); have q9_w_0_0 : w.heap.size ≤ w9.heap.size := (by omega); have q9_w_1 : w.heap.size + 1 < w9.heap.size := (by omega); have q9_w_2 : w.heap.size + 1 + 1 < w9.heap.size := (by omega); have q9_w_3 : w.heap.size + 1 + 1 + 1 < w9.heap.size := (by omega); have q9_w2_0 : w2.heap.size < w9.heap.size := (by omega); have q9_w2_0_0 : w2.heap.size ≤ w9.heap.size := (by omega); have q9_w2_1 : w2.heap.size + 1 < w9.heap.size := (by omega); have q9_w2_2 : w2.heap.size + 1 + 1 < w9.heap.size := (by omega); have q9_w3_0 : w3.heap.size < w9.heap.size := (by omega); have q9_w3_0_0 : w3.heap.size ≤ w9.heap.size := (by omega); have q9_w4_0 : w4.heap.size < w9.heap.size := (by omega); have q9_w4_0_0 : w4.heap.size ≤ w9.heap.size := (by omega); have q9_w7_0 : w7.heap.size < w9.heap.size := (by omega); have q9_w7_0_0 : w7.heap.size ≤ w9.heap.size := (by omega))) | (go_at_call 31; ((with_reducible refine (HI5.out _).mono ?_); rintro e w10 ⟨rfl, hb10⟩; obtain ⟨hz10, hc10, hf10⟩ := bcl hb10 (by first | (simp; rfl) | rfl); have q10_w_0 : w.heap.size < w10.heap.size := (by omega); have q10_w_0_0 : w.heap.size ≤ w10.heap.size := (by omega); have q10_w_1 : w.heap.size + 1 < w10.heap.size := (by omega); have q10_w_2 : w.heap.size + 1 + 1 < w10.heap.size := (by omega); have q10_w_3 : w.heap.size + 1 + 1 + 1 < w10.heap.size := (by omega); have q10_w2_0 : w2.heap.size < w10.heap.size := (by omega); have q10_w2_0_0 : w2.heap.size ≤ w10.heap.size := (by omega); have q10_w2_1 : w2.heap.size + 1 < w10.heap.size := (by omega); have q10_w2_2 : w2.heap.size + 1 + 1 < w10.heap.size := (by omega); have q10_w3_0 : w3.heap.size < w10.heap.size := (by omega); have q10_w3_0_0 : w3.heap.size ≤ w10.heap.size := (by omega); have q10_w4_0 : w4.heap.size < w10.heap.size := (by omega); have q10_w4_0_0 : w4.heap.size ≤ w10.heap.size := (by omega); have q10_w7_0 : w7.heap.size < w10.heap.size := (by omega); have q10_w7_0_0 : w7.heap.size ≤ w10.heap.size := (by omega))))
      go_ret
      refine ⟨rfl, ?_⟩
      (repeat (first | (with_reducible exact bl_refl _) | (with_reducible refine bl_drew ?_) | (with_reducible refine bl_alloc ?_ _) | (with_reducible refine bl_set' ?_ ?_; · (first | omega | (simp; done) | (simp; omega))) | (with_reducible refine bl_last (by assumption) ?_) | (with_reducible refine bl_drewN ?_ _)))
    · simp only [mvA, if_true] at hS1 hS2
      have HS1 := Lib.hid hS1
      have HS2 := Lib.hid hS2
      clear hS1 hS2
      go_enter Try.func8, Try.ntmps8
      go_wp2_with (first | (go_at_call 11; ((with_reducible refine (HH.out _).mono ?_); rintro e w1 ⟨rfl, hb1⟩; obtain ⟨hz1, hc1, hf1⟩ := bcl hb1 (by first | (simp; rfl) | rfl); have q1_w_0 : w.heap.size < w1.heap.size := (by omega); have q1_w_0_0 : w.heap.size ≤ w1.heap.size := (by omega); have q1_w_1 : w.heap.size + 1 < w1.heap.size := (by omega); have q1_w_2 : w.heap.size + 1 + 1 < w1.heap.size := (by omega); have q1_w_3 : w.heap.size + 1 + 1 + 1 < w1.heap.size := (by omega))) | (go_at_call 22; ((with_reducible refine (HM.out _).mono ?_); rintro e w2 ⟨rfl, hb2⟩; obtain ⟨hz2, hc2, hf2⟩ := bcl hb2 (by first | (simp; rfl) | rfl); have q2_w_0 : w.heap.size < w2.heap.size := (by omega); have q2_w_0_0 : w.heap.size ≤ w2.heap.size := (by omega); have q2_w_0_1 : w.heap.size ≤ w2.heap.size + 1 := (by omega); have q2_w_0_2 : w.heap.size ≤ w2.heap.size + 1 + 1 := (by omega); have q2_w_0_3 : w.heap.size < w2.heap.size + 1 := (by omega); have q2_w_0_4 : w.heap.size < w2.heap.size + 1 + 1 := (by omega); have q2_w_1 : w.heap.size + 1 < w2.heap.size := (by omega); have q2_w_1_0 : w.heap.size + 1 ≤ w2.heap.size := (by omega); have q2_w_1_1 : w.heap.size + 1 ≤ w2.heap.size + 1 := (by omega); have q2_w_1_2 : w.heap.size + 1 ≤ w2.heap.size + 1 + 1 := (by omega); have q2_w_1_3 : w.heap.size + 1 < w2.heap.size + 1 := (by omega); have q2_w_1_4 : w.heap.size + 1 < w2.heap.size + 1 + 1 := (by omega); have q2_w_2 : w.heap.size + 1 + 1 < w2.heap.size := (by omega); have q2_w_2_0 : w.heap.size + 1 + 1 ≤ w2.heap.size := (by omega); have q2_w_2_1 : w.heap.size + 1 + 1 ≤ w2.heap.size + 1 := (by omega); have q2_w_2_2 : w.heap.size + 1 + 1 ≤ w2.heap.size + 1 + 1 := (by omega); have q2_w_2_3 : w.heap.size + 1 + 1 < w2.heap.size + 1 := (by omega); have q2_w_2_4 : w.heap.size + 1 + 1 < w2.heap.size + 1 + 1 := (by omega); have q2_w_3 : w.heap.size + 1 + 1 + 1 < w2.heap.size := (by omega); have q2_w_3_0 : w.heap.size + 1 + 1 + 1 ≤ w2.heap.size := (by omega); have q2_w_3_1 : w.heap.size + 1 + 1 + 1 ≤ w2.heap.size + 1 := (by omega); have q2_w_3_2 : w.heap.size + 1 + 1 + 1 ≤ w2.heap.size + 1 + 1 := (by omega); have q2_w_3_3 : w.heap.size + 1 + 1 + 1 < w2.heap.size + 1 := (by omega); have q2_w_3_4 : w.heap.size + 1 + 1 + 1 < w2.heap.size + 1 + 1 := (by omega))) | (go_at_call 14; ((with_reducible refine (HS1.out _).mono ?_); rintro e w3 ⟨rfl, hb3⟩; obtain ⟨hz3, hc3, hf3⟩ := bcl hb3 (by first | (simp; rfl) | rfl); have q3_w_0 : w.heap.size < w3.heap.size := (by omega); have q3_w_0_0 : w.heap.size ≤ w3.heap.size := (by omega); have q3_w_1 : w.heap.size + 1 < w3.heap.size := (by omega); have q3_w_2 : w.heap.size + 1 + 1 < w3.heap.size := (by omega); have q3_w_3 : w.heap.size + 1 + 1 + 1 < w3.heap.size := (by omega); have q3_w2_0 : w2.heap.size < w3.heap.size := (by omega); have q3_w2_0_0 : w2.heap.size ≤ w3.heap.size := (by omega); have q3_w2_1 : w2.heap.size + 1 < w3.heap.size := (by omega); have q3_w2_2 : w2.heap.size + 1 + 1 < w3.heap.size := (by omega))) | (go_at_call 14; ((with_reducible refine (HS2.out _).mono ?_); rintro e w4 ⟨rfl, hb4⟩; obtain ⟨hz4, hc4, hf4⟩ := bcl hb4 (by first | (simp; rfl) | rfl); have q4_w_0 : w.heap.size < w4.heap.size := (by omega); have q4_w_0_0 : w.heap.size ≤ w4.heap.size := (by omega); have q4_w_1 : w.heap.size + 1 < w4.heap.size := (by omega); have q4_w_2 : w.heap.size + 1 + 1 < w4.heap.size := (by omega); have q4_w_3 : w.heap.size + 1 + 1 + 1 < w4.heap.size := (by omega); have q4_w2_0 : w2.heap.size < w4.heap.size := (by omega); have q4_w2_0_0 : w2.heap.size ≤ w4.heap.size := (by omega); have q4_w2_1 : w2.heap.size + 1 < w4.heap.size := (by omega); have q4_w2_2 : w2.heap.size + 1 + 1 < w4.heap.size := (by omega); have q4_w3_0 : w3.heap.size < w4.heap.size := (by omega); have q4_w3_0_0 : w3.heap.size ≤ w4.heap.size := (by omega))) | (go_at_call 31; ((with_reducible refine (HI1.out _).mono ?_); rintro e w5 ⟨rfl, hb5⟩; obtain ⟨hz5, hc5, hf5⟩ := bcl hb5 (by first | (simp; rfl) | rfl); have q5_w_0 : w.heap.size < w5.heap.size := (by omega); have q5_w_0_0 : w.heap.size ≤ w5.heap.size := (by omega); have q5_w_1 : w.heap.size + 1 < w5.heap.size := (by omega); have q5_w_2 : w.heap.size + 1 + 1 < w5.heap.size := (by omega); have q5_w_3 : w.heap.size + 1 + 1 + 1 < w5.heap.size := (by omega); have q5_w2_0 : w2.heap.size < w5.heap.size := (by omega); have q5_w2_0_0 : w2.heap.size ≤ w5.heap.size := (by omega); have q5_w2_1 : w2.heap.size + 1 < w5.heap.size := (by omega); have q5_w2_2 : w2.heap.size + 1 + 1 < w5.heap.size := (by omega); have q5_w3_0 : w3.heap.size < w5.heap.size := (by omega); have q5_w3_0_0 : w3.heap.size ≤ w5.heap.size := (by omega); have q5_w4_0 : w4.heap.size < w5.heap.size := (by omega); have q5_w4_0_0 : w4.heap.size ≤ w5.heap.size := (by omega))) | (go_at_call 31; ((with_reducible refine (HI2.out _).mono ?_); rintro e w6 ⟨rfl, hb6⟩; obtain ⟨hz6, hc6, hf6⟩ := bcl hb6 (by first | (simp; rfl) | rfl); have q6_w_0 : w.heap.size < w6.heap.size := (by omega); have q6_w_0_0 : w.heap.size ≤ w6.heap.size := (by omega); have q6_w_1 : w.heap.size + 1 < w6.heap.size := (by omega); have q6_w_2 : w.heap.size + 1 + 1 < w6.heap.size := (by omega); have q6_w_3 : w.heap.size + 1 + 1 + 1 < w6.heap.size := (by omega); have q6_w2_0 : w2.heap.size < w6.heap.size := (by omega); have q6_w2_0_0 : w2.heap.size ≤ w6.heap.size := (by omega); have q6_w2_1 : w2.heap.size + 1 < w6.heap.size := (by omega); have q6_w2_2 : w2.heap.size + 1 + 1 < w6.heap.size := (by omega); have q6_w3_0 : w3.heap.size < w6.heap.size := (by omega); have q6_w3_0_0 : w3.heap.size ≤ w6.heap.size := (by omega); have q6_w4_0 : w4.heap.size < w6.heap.size := (by omega); have q6_w4_0_0 : w4.heap.size ≤ w6.heap.size := (by omega))) | (go_at_call 14; ((with_reducible refine (HS3.out _).mono ?_); rintro e w7 ⟨rfl, hb7⟩; obtain ⟨hz7, hc7, hf7⟩ := bcl hb7 (by first | (simp; rfl) | rfl); have q7_w_0 : w.heap.size < w7.heap.size := (by omega); have q7_w_0_0 : w.heap.size ≤ w7.heap.size := (by omega); have q7_w_1 : w.heap.size + 1 < w7.heap.size := (by omega); have q7_w_2 : w.heap.size + 1 + 1 < w7.heap.size := (by omega); have q7_w_3 : w.heap.size + 1 + 1 + 1 < w7.heap.size := (by omega); have q7_w2_0 : w2.heap.size < w7.heap.size := (by omega); have q7_w2_0_0 : w2.heap.size ≤ w7.heap.size := (by omega); have q7_w2_1 : w2.heap.size + 1 < w7.heap.size := (by omega); have q7_w2_2 : w2.heap.size + 1 + 1 < w7.heap.size := (by omega); have q7_w3_0 : w3.heap.size < w7.heap.size := (by omega); have q7_w3_0_0 : w3.heap.size ≤ w7.heap.size := (by omega); have q7_w4_0 : w4.heap.size < w7.heap.size := (by omega); have q7_w4_0_0 : w4.heap.size ≤ w7.heap.size := (by omega))) | (go_at_call 31; ((with_reducible refine (HI3.out _).mono ?_); rintro e w8 ⟨rfl, hb8⟩; obtain ⟨hz8, hc8, hf8⟩ := bcl hb8 (by first | (simp; rfl) | rfl); have q8_w_0 : w.heap.size < w8.heap.size := (by omega); have q8_w_0_0 : w.heap.size ≤ w8.heap.size := (by omega); have q8_w_1 : w.heap.size + 1 < w8.heap.size := (by omega); have q8_w_2 : w.heap.size + 1 + 1 < w8.heap.size := (by omega); have q8_w_3 : w.heap.size + 1 + 1 + 1 < w8.heap.size := (by omega); have q8_w2_0 : w2.heap.size < w8.heap.size := (by omega); have q8_w2_0_0 : w2.heap.size ≤ w8.heap.size := (by omega); have q8_w2_1 : w2.heap.size + 1 < w8.heap.size := (by omega); have q8_w2_2 : w2.heap.size + 1 + 1 < w8.heap.size := (by omega); have q8_w3_0 : w3.heap.size < w8.heap.size := (by omega); have q8_w3_0_0 : w3.heap.size ≤ w8.heap.size := (by omega); have q8_w4_0 : w4.heap.size < w8.heap.size := (by omega); have q8_w4_0_0 : w4.heap.size ≤ w8.heap.size := (by omega); have q8_w7_0 : w7.heap.size < w8.heap.size := (by omega); have q8_w7_0_0 : w7.heap.size ≤ w8.heap.size := (by omega))) | (go_at_call 31; ((with_reducible refine (HI4.out _).mono ?_); rintro e w9 ⟨rfl, hb9⟩; obtain ⟨hz9, hc9, hf9⟩ := bcl hb9 (by first | (simp; rfl) | rfl); have q9_w_0 : w.heap.size < w9.heap.size := (by omega); have q9_w_0_0 : w.heap.size ≤ w9.heap.size := (by omega); have q9_w_1 : w.heap.size + 1 < w9.heap.size := (by omega); have q9_w_2 : w.heap.size + 1 + 1 < w9.heap.size := (by omega); have q9_w_3 : w.heap.size + 1 + 1 + 1 < w9.heap.size := (by omega); have q9_w2_0 : w2.heap.size < w9.heap.size := (by omega); have q9_w2_0_0 : w2.heap.size ≤ w9.heap.size := (by omega); have q9_w2_1 : w2.heap.size + 1 < w9.heap.size := (by omega); have q9_w2_2 : w2.heap.size + 1 + 1 < w9.heap.size := (by omega); have q9_w3_0 : w3.heap.size < w9.heap.size := (by omega); have q9_w3_0_0 : w3.heap.size ≤ w9.heap.size := (by omega); have q9_w4_0 : w4.heap.size < w9.heap.size := (by omega); have q9_w4_0_0 : w4.heap.size ≤ w9.heap.size := (by omega); have q9_w7_0 : w7.heap.size < w9.heap.size := (by omega); have q9_w7_0_0 : w7.heap.size ≤ w9.heap.size := (by omega))) | (go_at_call 31; ((with_reducible refine (HI5.out _).mono ?_); rintro e w10 ⟨rfl, hb10⟩; obtain ⟨hz10, hc10, hf10⟩ := bcl hb10 (by first | (simp; rfl) | rfl); have q10_w_0 : w.heap.size < w10.heap.size := (by omega); have q10_w_0_0 : w.heap.size ≤ w10.heap.size := (by omega); have q10_w_1 : w.heap.size + 1 < w10.heap.size := (by omega); have q10_w_2 : w.heap.size + 1 + 1 < w10.heap.size := (by omega); have q10_w_3 : w.heap.size + 1 + 1 + 1 < w10.heap.size := (by omega); have q10_w2_0 : w2.heap.size < w10.heap.size := (by omega); have q10_w2_0_0 : w2.heap.size ≤ w10.heap.size := (by omega); have q10_w2_1 : w2.heap.size + 1 < w10.heap.size := (by omega); have q10_w2_2 : w2.heap.size + 1 + 1 < w10.heap.size := (by omega); have q10_w3_0 : w3.heap.size < w10.heap.size := (by omega); have q10_w3_0_0 : w3.heap.size ≤ w10.heap.size := (by omega); have q10_w4_0 : w4.heap.size < w10.heap.size := (by omega); have q10_w4_0_0 : w4.heap.size ≤ w10.heap.size := (by omega); have q10_w7_0 : w7.heap.size < w10.heap.size := (by omega); have q10_w7_0_0 : w7.heap.size ≤ w10.heap.size := (by omega))))
      go_ret
      refine ⟨rfl, ?_⟩
      (repeat (first | (with_reducible exact bl_refl _) | (with_reducible refine bl_drew ?_) | (with_reducible refine bl_alloc ?_ _) | (with_reducible refine bl_set' ?_ ?_; · (first | omega | (simp; done) | (simp; omega))) | (with_reducible refine bl_last (by assumption) ?_) | (with_reducible refine bl_drewN ?_ _)))
end Go.Proofs.Ythlnfjllkmielaa
