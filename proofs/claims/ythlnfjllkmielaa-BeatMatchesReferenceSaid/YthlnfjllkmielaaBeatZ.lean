/- Beat: the reference's Band, Rates, Move. -/
import Derived.Test.YthlnfjllkmielaaBeatY
namespace Go.Proofs.Ythlnfjllkmielaa
open Go.RowKit

set_option maxRecDepth 100000 in
set_option maxHeartbeats 4000000 in
theorem RBand_c (c tn td : Int) (w : World) (hcw : I64 c) : Calls Try.prog 21 #[.int .i64 c, .agg #[.int .i64 tn, .int .i64 td]] w (Ret (baV c tn td) w) := by
  have hF := fun w => Freq_c tn td w
  cases h : baG c tn td
  · have hV : baV c tn td = .tuple #[.agg #[.int .i64 0, .int .i64 0, .int .i64 0, .int .i64 0], .int .i64 1] := by simp [baV, baK, baO, h]
    rw [hV]
    clear hV
    rcases ba_ways h with h1 | ⟨h1, h2⟩ | ⟨h1, h2, h3⟩
    all_goals
      rw [h1] at hF
      clear h h1
      have HF := Lib.hid hF
      clear hF
      go_enter Try.func21, Try.ntmps21
      go_wp2_with (first | (go_at_call 29; ((with_reducible refine (HF.out _).mono ?_); rintro e w' ⟨rfl, hb⟩; obtain ⟨hz, hc, hf⟩ := bcl hb (by first | (simp; rfl) | rfl))))
      (refine bodyPost_ret (v := .tuple #[.agg #[.int .i64 0, .int .i64 0, .int .i64 0, .int .i64 0], .int .i64 1]) (by simp only [results, Try.results21]; go_simp) rfl ⟨rfl, ?_⟩)
      (repeat (first | (with_reducible exact bl_refl _) | (with_reducible refine bl_drew ?_) | (with_reducible refine bl_alloc ?_ _) | (with_reducible refine bl_set' ?_ ?_; · (first | omega | (simp; done) | (simp; omega))) | (with_reducible refine bl_last (by assumption) ?_) | (with_reducible refine bl_drewN ?_ _)))
  · have h' : sdV tn td = true ∧ 0 ≤ c ∧ c ≤ 1000000 := by simpa [baG] using h
    obtain ⟨h1, h2, h3⟩ := h'
    rw [h1] at hF
    have HF := Lib.hid hF
    clear hF
    obtain ⟨g1, g2⟩ := sd_of h1
    obtain ⟨a1, a2, a3, a4⟩ := rt_of g1
    clear h1 g1
    have hHe : baH c td = (c + 1) * td := rfl
    have p1 := mul2_bd (A := 1000001) (B := 100000000) (x := c + 1) (y := td) (by omega) (by omega) (by omega) (by omega)
    obtain ⟨m, hm⟩ : ∃ m : Int, m = c - 1 := ⟨_, rfl⟩
    have hLw : (m < 0 ∧ baL c td = 0) ∨ (m = 0 ∧ baL c td = 0) ∨ (0 < m ∧ baL c td = m * td) := by
      have hLe : baL c td = max c 1 * td - td := rfl
      rcases Int.lt_or_le c 1 with g | g
      · refine Or.inl ⟨by omega, ?_⟩
        rw [hLe, show max c 1 = 1 by omega, Int.one_mul, Int.sub_self]
      · have hm1 : max c 1 = m + 1 := by omega
        have e : baL c td = m * td := by rw [hLe, hm1, Int.add_mul, Int.one_mul]; omega
        rcases Int.lt_or_le 0 m with g' | g'
        · exact Or.inr (Or.inr ⟨g', e⟩)
        · have m0 : m = 0 := by omega
          exact Or.inr (Or.inl ⟨m0, by rw [e, m0, Int.zero_mul]⟩)
    have hLb : 0 ≤ baL c td ∧ baL c td ≤ 100000000000000 := by
      rcases hLw with ⟨_, e⟩ | ⟨_, e⟩ | ⟨e1, e⟩
      · rw [e]; omega
      · rw [e]; omega
      · rw [e]
        have := mul2_bd (A := 1000000) (B := 100000000) (x := m) (y := td) (by omega) (by omega) (by omega) (by omega)
        omega
    have HL := fun w => Rmade_c (baL c td) tn w (by constructor <;> omega) (by constructor <;> omega)
    have HH := fun w => Rmade_c (baH c td) tn w (by rw [hHe]; constructor <;> omega) (by constructor <;> omega)
    have hV : baV c tn td = .tuple #[.agg #[.int .i64 (if maE rtV (baL c td) tn && maE rtV (baH c td) tn then mkN (baL c td) tn else 0), .int .i64 (if maE rtV (baL c td) tn && maE rtV (baH c td) tn then mkD (baL c td) tn else 0), .int .i64 (if maE rtV (baL c td) tn && maE rtV (baH c td) tn then mkN (baH c td) tn else 0), .int .i64 (if maE rtV (baL c td) tn && maE rtV (baH c td) tn then mkD (baH c td) tn else 0)], .int .i64 (if maE rtV (baL c td) tn && maE rtV (baH c td) tn then 0 else 3)] := by
      simp only [baV, baK, baO, h, Bool.true_and, if_true]
    rw [hV]
    clear hV h
    unfold maV at HL HH
    have q0 : IntKind.i64.wrap (c - 1) = m := by rw [← hm, IntKind.wrap_i64]; omega
    have q1 : IntKind.i64.wrap (c + 1) = c + 1 := by rw [IntKind.wrap_i64]; omega
    obtain ⟨U, hU⟩ : ∃ U : Int, U = (c + 1) * td := ⟨_, rfl⟩
    have q2 : IntKind.i64.wrap ((c + 1) * td) = U := by rw [hU, IntKind.wrap_i64]; omega
    have q7 : IntKind.i64.wrap 0 = 0 := by decide
    rw [hHe, ← hU] at HH ⊢
    obtain ⟨L, hL⟩ : ∃ L : Int, L = baL c td := ⟨_, rfl⟩
    rw [← hL] at HL hLb hLw ⊢
    have q8 : IntKind.i64.wrap L = L := by rw [IntKind.wrap_i64]; omega
    have hc0 : ¬ c < 0 := by omega
    have hc1 : ¬ 1000000 < c := by omega
    clear hL hU hHe hm p1 hLb h2 h3 a1 a2 a3 a4 g2
    generalize mkN L tn = x1 at *
    generalize mkD L tn = x2 at *
    generalize mkN U tn = y1 at *
    generalize mkD U tn = y2 at *
    generalize maE rtV L tn = t1 at *
    generalize maE rtV U tn = t2 at *
    cases t1 <;> cases t2
    all_goals
      simp only [Bool.false_eq_true, if_false, if_true] at HL HH
      simp only [Bool.and_true, Bool.and_false, Bool.false_eq_true, if_false, if_true]
      have HL := Lib.hid HL
      have HH := Lib.hid HH
      rcases hLw with ⟨g, rfl⟩ | ⟨rfl, rfl⟩ | ⟨g, rfl⟩
      all_goals
        go_enter Try.func21, Try.ntmps21
        go_wp2_with (first | (go_at_call 29; ((with_reducible refine (HF.out _).mono ?_); rintro e w' ⟨rfl, hb⟩; obtain ⟨hz, hc, hf⟩ := bcl hb (by first | (simp; rfl) | rfl))) | (go_at_call 41; ((with_reducible refine (HL.out _).mono ?_); rintro e w' ⟨rfl, hb⟩; obtain ⟨hz, hc, hf⟩ := bcl hb (by first | (simp; rfl) | rfl))) | (go_at_call 41; ((with_reducible refine (HH.out _).mono ?_); rintro e w' ⟨rfl, hb⟩; obtain ⟨hz, hc, hf⟩ := bcl hb (by first | (simp; rfl) | rfl))))
        first | (refine bodyPost_ret (v := .tuple #[.agg #[.int .i64 0, .int .i64 0, .int .i64 0, .int .i64 0], .int .i64 3]) (by simp only [results, Try.results21]; go_simp) rfl ⟨rfl, ?_⟩) | (refine bodyPost_ret (v := .tuple #[.agg #[.int .i64 x1, .int .i64 x2, .int .i64 y1, .int .i64 y2], .int .i64 0]) (by simp only [results, Try.results21]; go_simp) rfl ⟨rfl, ?_⟩)
        (repeat (first | (with_reducible exact bl_refl _) | (with_reducible refine bl_drew ?_) | (with_reducible refine bl_alloc ?_ _) | (with_reducible refine bl_set' ?_ ?_; · (first | omega | (simp; done) | (simp; omega))) | (with_reducible refine bl_last (by assumption) ?_) | (with_reducible refine bl_drewN ?_ _)))
/-- A band of rates. -/
def rbV (an ad bn bd : Int) : Bool := rtV an ad && (rtV bn bd && riB an ad bn bd)
theorem rt_vR {n d : Int} (h : rtV n d = true) : vR n d = true := by
  unfold rtV at h
  simp only [Bool.and_eq_true] at h
  exact h.1
set_option maxHeartbeats 1000000 in
theorem RRates_c (an ad bn bd : Int) (w : World) : Calls Try.prog 48 #[.agg #[.int .i64 an, .int .i64 ad, .int .i64 bn, .int .i64 bd]] w (Ret (.bool (rbV an ad bn bd)) w) := by
  have hF1 := fun w => Rated_c an ad w
  have hF2 := fun w => Rated_c bn bd w
  have hC := fun w => RCmp_c an ad bn bd w
  unfold rbV
  have hw : (rtV an ad = false) ∨ (rtV an ad = true ∧ rtV bn bd = false) ∨ (rtV an ad = true ∧ rtV bn bd = true ∧ riB an ad bn bd = false ∧ cmpV an ad bn bd = .tuple #[.int .i64 1, .int .i64 0]) ∨ (rtV an ad = true ∧ rtV bn bd = true ∧ riB an ad bn bd = true ∧ ∃ x : Int, x ≤ 0 ∧ cmpV an ad bn bd = .tuple #[.int .i64 x, .int .i64 0]) := by
    cases h1 : rtV an ad
    · exact Or.inl rfl
    · cases h2 : rtV bn bd
      · exact Or.inr (Or.inl ⟨rfl, rfl⟩)
      · rcases ri_ways an ad bn bd with ⟨h, _⟩ | ⟨_, h3, h4⟩ | ⟨_, h3, h4⟩
        · rw [rt_vR h1, rt_vR h2] at h; cases h
        · exact Or.inr (Or.inr (Or.inl ⟨rfl, rfl, h3, h4⟩))
        · exact Or.inr (Or.inr (Or.inr ⟨rfl, rfl, h3, h4⟩))
  obtain ⟨n, k, hnk⟩ : ∃ n k : Int, cmpV an ad bn bd = .tuple #[.int .i64 n, .int .i64 k] := ⟨_, _, rfl⟩
  rcases hw with h1 | ⟨h1, h2⟩ | ⟨h1, h2, h3, h4⟩ | ⟨h1, h2, h3, x, hx, h4⟩
  all_goals
    try rw [h3]
    try rw [h2]
    rw [h1]
    rw [h1] at hF1
    try rw [h2] at hF2
    first | rw [h4] at hC | rw [hnk] at hC
    clear hnk
    have HF1 := Lib.hid hF1
    have HF2 := Lib.hid hF2
    have HC := Lib.hid hC
    clear hF1 hF2 hC h1
    try clear h2
    try clear h3 h4
    try have hx' : decide (x ≤ 0) = true := decide_eq_true hx
    try clear hx
    go_enter Try.func48, Try.ntmps48
    go_wp2_with (first | (go_at_call 42; ((with_reducible refine (HF1.out _).mono ?_); rintro e w' ⟨rfl, hb⟩; obtain ⟨hz, hc, hf⟩ := bcl hb (by first | (simp; rfl) | rfl))) | (go_at_call 42; ((with_reducible refine (HF2.out _).mono ?_); rintro e w' ⟨rfl, hb⟩; obtain ⟨hz, hc, hf⟩ := bcl hb (by first | (simp; rfl) | rfl))) | (go_at_call 30; ((with_reducible refine (HC.out _).mono ?_); rintro e w' ⟨rfl, hb⟩; obtain ⟨hz, hc, hf⟩ := bcl hb (by first | (simp; rfl) | rfl))))
    go_ret
    exact ⟨rfl, by (repeat (first | (with_reducible exact bl_refl _) | (with_reducible refine bl_drew ?_) | (with_reducible refine bl_alloc ?_ _) | (with_reducible refine bl_set' ?_ ?_; · (first | omega | (simp; done) | (simp; omega))) | (with_reducible refine bl_last (by assumption) ?_) | (with_reducible refine bl_drewN ?_ _)))⟩
theorem mvG_eq (an ad bn bd p q rn rd sn sd : Int) : mvG an ad bn bd p q rn rd sn sd = (rbV an ad bn bd && (rbV rn rd sn sd && (ptV p && (ptV q && !(an == 0))))) := by
  have key : (sdV an ad && (sdV bn bd && riB an ad bn bd)) = (rbV an ad bn bd && !(an == 0)) := by
    unfold rbV
    cases h1 : rtV an ad
    · have : sdV an ad = false := by unfold sdV; rw [h1]; rfl
      rw [this]
      rfl
    · cases h2 : rtV bn bd
      · have : sdV bn bd = false := by unfold sdV; rw [h2]; rfl
        rw [this]
        simp
      · cases h3 : riB an ad bn bd
        · simp
        · have r1 := rt_of h1
          have r2 := rt_of h2
          have h4 : an * bd ≤ bn * ad := by
            unfold riB at h3
            simp only [Bool.and_eq_true, decide_eq_true_eq] at h3
            exact h3.2
          unfold sdV
          rw [h1, h2]
          by_cases h0 : an = 0
          · subst h0
            rfl
          · have a1 : 0 < an := by have := r1.1; omega
            have a2 : 0 < bn := by
              have hb := r2.2.2.1
              have hp := Int.mul_pos a1 (show 0 < bd by omega)
              rcases Int.lt_or_le 0 bn with h | h
              · exact h
              · have := Int.mul_nonpos_of_nonpos_of_nonneg h (show 0 ≤ ad by have := r1.2.2.1; omega)
                omega
            rw [decide_eq_true a1, decide_eq_true a2]
            simp [h0]
  have key2 : (rtV rn rd && (rtV sn sd && riB rn rd sn sd)) = rbV rn rd sn sd := rfl
  unfold mvG
  rw [← key2]
  have e : ((sdV an ad && sdV bn bd) && ((rtV rn rd && rtV sn sd) && (riB an ad bn bd && (riB rn rd sn sd && (ptV p && ptV q))))) = ((sdV an ad && (sdV bn bd && riB an ad bn bd)) && ((rtV rn rd && (rtV sn sd && riB rn rd sn sd)) && (ptV p && ptV q))) := by
    cases sdV an ad <;> cases sdV bn bd <;> cases rtV rn rd <;> cases rtV sn sd <;> cases riB an ad bn bd <;> cases riB rn rd sn sd <;> cases ptV p <;> cases ptV q <;> rfl
  rw [e, key]
  cases rbV an ad bn bd <;> cases (an == 0) <;> cases (rtV rn rd && (rtV sn sd && riB rn rd sn sd)) <;> cases ptV p <;> cases ptV q <;> rfl
set_option maxRecDepth 100000 in
set_option maxHeartbeats 8000000 in
theorem RMove_c (an ad bn bd p q rn rd sn sd : Int) (above : Bool) (w : World) : Calls Try.prog 23 #[.agg #[.int .i64 an, .int .i64 ad, .int .i64 bn, .int .i64 bd], .int .i64 p, .int .i64 q, .agg #[.int .i64 rn, .int .i64 rd, .int .i64 sn, .int .i64 sd], .bool above] w (Ret (mvV an ad bn bd p q rn rd sn sd above) w) := by
  have hB := fun w => RRates_c an ad bn bd w
  have hR := fun w => RRates_c rn rd sn sd w
  have hP := fun w => Part_c p w
  have hQ := fun w => Part_c q w
  cases h : mvG an ad bn bd p q rn rd sn sd
  · have hV : mvV an ad bn bd p q rn rd sn sd above = .tuple #[.agg #[.int .i64 0, .int .i64 0, .int .i64 0, .int .i64 0], .int .i64 1] := by simp [mvV, mvK, mvO, h]
    rw [hV]
    clear hV
    rw [mvG_eq] at h
    have hw : rbV an ad bn bd = false ∨ (rbV an ad bn bd = true ∧ rbV rn rd sn sd = false) ∨ (rbV an ad bn bd = true ∧ rbV rn rd sn sd = true ∧ ptV p = false) ∨ (rbV an ad bn bd = true ∧ rbV rn rd sn sd = true ∧ ptV p = true ∧ ptV q = false) ∨ (rbV an ad bn bd = true ∧ rbV rn rd sn sd = true ∧ ptV p = true ∧ ptV q = true ∧ (an == 0) = true) := by
      cases h1 : rbV an ad bn bd <;> cases h2 : rbV rn rd sn sd <;> cases h3 : ptV p <;> cases h4 : ptV q <;> cases h5 : (an == 0) <;> simp_all
    clear h
    rcases hw with h1 | ⟨h1, h2⟩ | ⟨h1, h2, h3⟩ | ⟨h1, h2, h3, h4⟩ | ⟨h1, h2, h3, h4, h5⟩
    all_goals
      rw [h1] at hB
      try rw [h2] at hR
      try rw [h3] at hP
      try rw [h4] at hQ
      clear h1
      try clear h2
      try clear h3
      try clear h4
      have HB := Lib.hid hB
      have HR := Lib.hid hR
      have HP := Lib.hid hP
      have HQ := Lib.hid hQ
      clear hB hR hP hQ
      go_enter Try.func23, Try.ntmps23
      go_wp2_with (first | (go_at_call 48; ((with_reducible refine (HB.out _).mono ?_); rintro e w' ⟨rfl, hb⟩; obtain ⟨hz, hc, hf⟩ := bcl hb (by first | (simp; rfl) | rfl))) | (go_at_call 48; ((with_reducible refine (HR.out _).mono ?_); rintro e w' ⟨rfl, hb⟩; obtain ⟨hz, hc, hf⟩ := bcl hb (by first | (simp; rfl) | rfl))) | (go_at_call 40; ((with_reducible refine (HP.out _).mono ?_); rintro e w' ⟨rfl, rfl⟩)) | (go_at_call 40; ((with_reducible refine (HQ.out _).mono ?_); rintro e w' ⟨rfl, rfl⟩)))
      (refine bodyPost_ret (v := .tuple #[.agg #[.int .i64 0, .int .i64 0, .int .i64 0, .int .i64 0], .int .i64 1]) (by simp only [results, Try.results23]; go_simp) rfl ⟨rfl, ?_⟩)
      (repeat (first | (with_reducible exact bl_refl _) | (with_reducible refine bl_drew ?_) | (with_reducible refine bl_alloc ?_ _) | (with_reducible refine bl_set' ?_ ?_; · (first | omega | (simp; done) | (simp; omega))) | (with_reducible refine bl_last (by assumption) ?_) | (with_reducible refine bl_drewN ?_ _)))
  · have hG := h
    rw [mvG_eq] at h
    simp only [Bool.and_eq_true, Bool.not_eq_true'] at h
    obtain ⟨h1, h2, h3, h4, h5⟩ := h
    rw [h1] at hB
    rw [h2] at hR
    rw [h3] at hP
    rw [h4] at hQ
    clear h1 h2 h3 h4
    have HB := Lib.hid hB
    have HR := Lib.hid hR
    have HP := Lib.hid hP
    have HQ := Lib.hid hQ
    clear hB hR hP hQ
    have hS1 := fun w => RSet_c an ad p q (mvA above rn sn) (mvA above rd sd) above w
    have hS2 := fun w => RSet_c bn bd p q (mvA above sn rn) (mvA above sd rd) above w
    simp only [seV_eq] at hS1 hS2
    unfold mvV mvK mvO
    rw [hG]
    clear hG
    generalize seX an ad p q (mvA above rn sn) (mvA above rd sd) above = x1 at *
    generalize seY an ad p q (mvA above rn sn) (mvA above rd sd) above = y1 at *
    generalize seE an ad p q (mvA above rn sn) (mvA above rd sd) above = e1 at *
    generalize seX bn bd p q (mvA above sn rn) (mvA above sd rd) above = x2 at *
    generalize seY bn bd p q (mvA above sn rn) (mvA above sd rd) above = y2 at *
    generalize seE bn bd p q (mvA above sn rn) (mvA above sd rd) above = e2 at *
    have hw : (decide (e1 = 0) = false ∧ (e1 != 0) = true) ∨ (decide (e1 = 0) = true ∧ e1 = 0 ∧ decide (e2 = 0) = false ∧ (e2 != 0) = true) ∨ (decide (e1 = 0) = true ∧ e1 = 0 ∧ decide (e2 = 0) = true ∧ e2 = 0) := by
      by_cases g1 : e1 = 0
      · by_cases g2 : e2 = 0
        · exact Or.inr (Or.inr ⟨by simp [g1], g1, by simp [g2], g2⟩)
        · exact Or.inr (Or.inl ⟨by simp [g1], g1, by simp [g2], by simpa using g2⟩)
      · exact Or.inl ⟨by simp [g1], by simpa using g1⟩
    rcases hw with ⟨d1, g1⟩ | ⟨d1, g1, d2, g2⟩ | ⟨d1, g1, d2, g2⟩
    all_goals
      rw [d1]
      try rw [d2]
      simp only [Bool.and_true, Bool.and_false, Bool.false_and, Bool.true_and, Bool.false_eq_true, if_false, if_true]
      clear d1
      try clear d2
      first | (subst g1 g2) | (subst g1) | skip
      cases above
      all_goals
        simp only [mvA, Bool.false_eq_true, if_false, if_true] at hS1 hS2
        have HS1 := Lib.hid hS1
        have HS2 := Lib.hid hS2
        clear hS1 hS2
        go_enter Try.func23, Try.ntmps23
        go_wp2_with (first | (go_at_call 48; ((with_reducible refine (HB.out _).mono ?_); rintro e w1 ⟨rfl, hb1⟩; obtain ⟨hz1, hc1, hf1⟩ := bcl hb1 (by first | (simp; rfl) | rfl); have q1_w_0 : w.heap.size < w1.heap.size := (by omega); have q1_w_0_0 : w.heap.size ≤ w1.heap.size := (by omega); have q1_w_1 : w.heap.size + 1 < w1.heap.size := (by omega); have q1_w_2 : w.heap.size + 1 + 1 < w1.heap.size := (by omega))) | (go_at_call 48; ((with_reducible refine (HR.out _).mono ?_); rintro e w2 ⟨rfl, hb2⟩; obtain ⟨hz2, hc2, hf2⟩ := bcl hb2 (by first | (simp; rfl) | rfl); have q2_w_0 : w.heap.size < w2.heap.size := (by omega); have q2_w_0_0 : w.heap.size ≤ w2.heap.size := (by omega); have q2_w_0_1 : w.heap.size ≤ w2.heap.size + 1 := (by omega); have q2_w_0_2 : w.heap.size ≤ w2.heap.size + 1 + 1 := (by omega); have q2_w_0_3 : w.heap.size < w2.heap.size + 1 := (by omega); have q2_w_0_4 : w.heap.size < w2.heap.size + 1 + 1 := (by omega); have q2_w_1 : w.heap.size + 1 < w2.heap.size := (by omega); have q2_w_1_0 : w.heap.size + 1 ≤ w2.heap.size := (by omega); have q2_w_1_1 : w.heap.size + 1 ≤ w2.heap.size + 1 := (by omega); have q2_w_1_2 : w.heap.size + 1 ≤ w2.heap.size + 1 + 1 := (by omega); have q2_w_1_3 : w.heap.size + 1 < w2.heap.size + 1 := (by omega); have q2_w_1_4 : w.heap.size + 1 < w2.heap.size + 1 + 1 := (by omega); have q2_w_2 : w.heap.size + 1 + 1 < w2.heap.size := (by omega); have q2_w_2_0 : w.heap.size + 1 + 1 ≤ w2.heap.size := (by omega); have q2_w_2_1 : w.heap.size + 1 + 1 ≤ w2.heap.size + 1 := (by omega); have q2_w_2_2 : w.heap.size + 1 + 1 ≤ w2.heap.size + 1 + 1 := (by omega); have q2_w_2_3 : w.heap.size + 1 + 1 < w2.heap.size + 1 := (by omega); have q2_w_2_4 : w.heap.size + 1 + 1 < w2.heap.size + 1 + 1 := (by omega))) | (go_at_call 15; ((with_reducible refine (HS1.out _).mono ?_); rintro e w3 ⟨rfl, hb3⟩; obtain ⟨hz3, hc3, hf3⟩ := bcl hb3 (by first | (simp; rfl) | rfl); have q3_w_0 : w.heap.size < w3.heap.size := (by omega); have q3_w_0_0 : w.heap.size ≤ w3.heap.size := (by omega); have q3_w_1 : w.heap.size + 1 < w3.heap.size := (by omega); have q3_w_2 : w.heap.size + 1 + 1 < w3.heap.size := (by omega); have q3_w2_0 : w2.heap.size < w3.heap.size := (by omega); have q3_w2_0_0 : w2.heap.size ≤ w3.heap.size := (by omega); have q3_w2_1 : w2.heap.size + 1 < w3.heap.size := (by omega))) | (go_at_call 15; ((with_reducible refine (HS2.out _).mono ?_); rintro e w4 ⟨rfl, hb4⟩; obtain ⟨hz4, hc4, hf4⟩ := bcl hb4 (by first | (simp; rfl) | rfl); have q4_w_0 : w.heap.size < w4.heap.size := (by omega); have q4_w_0_0 : w.heap.size ≤ w4.heap.size := (by omega); have q4_w_1 : w.heap.size + 1 < w4.heap.size := (by omega); have q4_w_2 : w.heap.size + 1 + 1 < w4.heap.size := (by omega); have q4_w2_0 : w2.heap.size < w4.heap.size := (by omega); have q4_w2_0_0 : w2.heap.size ≤ w4.heap.size := (by omega); have q4_w2_1 : w2.heap.size + 1 < w4.heap.size := (by omega); have q4_w3_0 : w3.heap.size < w4.heap.size := (by omega); have q4_w3_0_0 : w3.heap.size ≤ w4.heap.size := (by omega))) | (go_at_call 40; ((with_reducible refine (HP.out _).mono ?_); rintro e w' ⟨rfl, rfl⟩)) | (go_at_call 40; ((with_reducible refine (HQ.out _).mono ?_); rintro e w' ⟨rfl, rfl⟩)))
        first | (refine bodyPost_ret (v := .tuple #[.agg #[.int .i64 0, .int .i64 0, .int .i64 0, .int .i64 0], .int .i64 3]) (by simp only [results, Try.results23]; go_simp) rfl ⟨rfl, ?_⟩) | (refine bodyPost_ret (v := .tuple #[.agg #[.int .i64 x1, .int .i64 y1, .int .i64 x2, .int .i64 y2], .int .i64 0]) (by simp only [results, Try.results23]; go_simp) rfl ⟨rfl, ?_⟩)
        (repeat (first | (with_reducible exact bl_refl _) | (with_reducible refine bl_drew ?_) | (with_reducible refine bl_alloc ?_ _) | (with_reducible refine bl_set' ?_ ?_; · (first | omega | (simp; done) | (simp; omega))) | (with_reducible refine bl_last (by assumption) ?_) | (with_reducible refine bl_drewN ?_ _)))
end Go.Proofs.Ythlnfjllkmielaa
