/- Beat: Move. -/
import Derived.Test.YtehifkdfbiebfaaDoorK12
namespace Go.Proofs.YtehifkdfbiebfaaDoor
open Go.RowKit

/-- A band is not falling. -/
def riB (an ad bn bd : Int) : Bool := (vR an ad && vR bn bd) && decide (an * bd ≤ bn * ad)
theorem ri_ways (an ad bn bd : Int) : ((vR an ad && vR bn bd) = false ∧ cmpV an ad bn bd = .tuple #[.int .i64 0, .int .i64 1] ∧ riB an ad bn bd = false) ∨
    ((vR an ad && vR bn bd) = true ∧ riB an ad bn bd = false ∧ cmpV an ad bn bd = .tuple #[.int .i64 1, .int .i64 0]) ∨
    ((vR an ad && vR bn bd) = true ∧ riB an ad bn bd = true ∧ ∃ x : Int, x ≤ 0 ∧ cmpV an ad bn bd = .tuple #[.int .i64 x, .int .i64 0]) := by
  unfold riB
  cases h : (vR an ad && vR bn bd)
  · exact Or.inl ⟨rfl, cmp_bad h, rfl⟩
  · rw [cmp_good h]
    rcases sg_ways (an * bd - bn * ad) with ⟨h1, h2⟩ | ⟨h1, h2⟩ | ⟨h1, h2⟩
    · exact Or.inr (Or.inr ⟨rfl, by rw [Bool.true_and]; exact decide_eq_true (by omega), _, by omega, rfl⟩)
    · exact Or.inr (Or.inl ⟨rfl, by rw [Bool.true_and]; exact decide_eq_false (by omega), by rw [h2]⟩)
    · exact Or.inr (Or.inr ⟨rfl, by rw [Bool.true_and]; exact decide_eq_true (by omega), _, by omega, rfl⟩)
set_option maxHeartbeats 1000000 in
theorem rising_c (an ad bn bd : Int) (w : World) : Calls Tryd.prog 74 #[.agg #[.int .i64 an, .int .i64 ad, .int .i64 bn, .int .i64 bd]] w (Ret (.bool (riB an ad bn bd)) w) := by
  have hC := fun w => Cmp_c an ad bn bd w
  rcases ri_ways an ad bn bd with ⟨_, h1, h2⟩ | ⟨_, h2, h1⟩ | ⟨_, h2, x, hx, h1⟩
  all_goals
    rw [h2]
    rw [h1] at hC
    have HC := Lib.hid hC
    clear h1 h2 hC
    go_enter Tryd.func74, Tryd.ntmps74
    go_wp2_with (go_at_call 20; ((with_reducible refine (HC.out _).mono ?_); rintro e w' ⟨rfl, hb⟩; obtain ⟨hz, hc, hf⟩ := bcl hb (by first | (simp; rfl) | rfl)))
    go_ret
    exact ⟨rfl, by (repeat (first | (with_reducible exact bl_refl _) | (with_reducible refine bl_drew ?_) | (with_reducible refine bl_alloc ?_ _) | (with_reducible refine bl_set' ?_ ?_; · (first | omega | (simp; done) | (simp; omega))) | (with_reducible refine bl_last (by assumption) ?_) | (with_reducible refine bl_drewN ?_ _)))⟩
def mvG (an ad bn bd p q rn rd sn sd : Int) : Bool := (sdV an ad && sdV bn bd) && ((rtV rn rd && rtV sn sd) && (riB an ad bn bd && (riB rn rd sn sd && (ptV p && ptV q))))
/-- The rates at both ends. -/
def mvA (above : Bool) (x y : Int) : Int := if above then x else y
def mvO (an ad bn bd p q rn rd sn sd : Int) (above : Bool) : Bool := mvG an ad bn bd p q rn rd sn sd && (decide (seE an ad p q (mvA above rn sn) (mvA above rd sd) above = 0) && decide (seE bn bd p q (mvA above sn rn) (mvA above sd rd) above = 0))
def mvK (an ad bn bd p q rn rd sn sd : Int) (above : Bool) : Int := if mvO an ad bn bd p q rn rd sn sd above then 0 else if mvG an ad bn bd p q rn rd sn sd then 3 else 1
def mvV (an ad bn bd p q rn rd sn sd : Int) (above : Bool) : Value := .tuple #[.agg #[.int .i64 (if mvO an ad bn bd p q rn rd sn sd above then seX an ad p q (mvA above rn sn) (mvA above rd sd) above else 0), .int .i64 (if mvO an ad bn bd p q rn rd sn sd above then seY an ad p q (mvA above rn sn) (mvA above rd sd) above else 0), .int .i64 (if mvO an ad bn bd p q rn rd sn sd above then seX bn bd p q (mvA above sn rn) (mvA above sd rd) above else 0), .int .i64 (if mvO an ad bn bd p q rn rd sn sd above then seY bn bd p q (mvA above sn rn) (mvA above sd rd) above else 0)], .int .i64 (mvK an ad bn bd p q rn rd sn sd above)]
set_option maxRecDepth 100000 in
set_option maxHeartbeats 8000000 in
theorem Move_c (an ad bn bd p q rn rd sn sd : Int) (above : Bool) (w : World) : Calls Tryd.prog 25 #[.agg #[.int .i64 an, .int .i64 ad, .int .i64 bn, .int .i64 bd], .int .i64 p, .int .i64 q, .agg #[.int .i64 rn, .int .i64 rd, .int .i64 sn, .int .i64 sd], .bool above] w (Ret (mvV an ad bn bd p q rn rd sn sd above) w) := by
  cases h : mvG an ad bn bd p q rn rd sn sd
  · have hV : mvV an ad bn bd p q rn rd sn sd above = .tuple #[.agg #[.int .i64 0, .int .i64 0, .int .i64 0, .int .i64 0], .int .i64 1] := by simp [mvV, mvK, mvO, h]
    rw [hV]
    clear hV
    unfold mvG at h
    have hw : (sdV an ad && sdV bn bd) = false ∨ ((sdV an ad && sdV bn bd) = true ∧ (rtV rn rd && rtV sn sd) = false) ∨ ((sdV an ad && sdV bn bd) = true ∧ (rtV rn rd && rtV sn sd) = true ∧ riB an ad bn bd = false) ∨
        ((sdV an ad && sdV bn bd) = true ∧ (rtV rn rd && rtV sn sd) = true ∧ riB an ad bn bd = true ∧ riB rn rd sn sd = false) ∨ ((sdV an ad && sdV bn bd) = true ∧ (rtV rn rd && rtV sn sd) = true ∧ riB an ad bn bd = true ∧ riB rn rd sn sd = true ∧ (ptV p && ptV q) = false) := by
      rcases vv_false h with h1 | ⟨h1, h⟩
      · exact Or.inl h1
      rcases vv_false h with h2 | ⟨h2, h⟩
      · exact Or.inr (Or.inl ⟨h1, h2⟩)
      rcases vv_false h with h3 | ⟨h3, h⟩
      · exact Or.inr (Or.inr (Or.inl ⟨h1, h2, h3⟩))
      rcases vv_false h with h4 | ⟨h4, h5⟩
      · exact Or.inr (Or.inr (Or.inr (Or.inl ⟨h1, h2, h3, h4⟩)))
      · exact Or.inr (Or.inr (Or.inr (Or.inr ⟨h1, h2, h3, h4, h5⟩)))
    clear h
    have A1 := fun b w => all2_sd an ad bn bd b w
    have A2 := fun b w => all2_rt rn rd sn sd b w
    have A3 := fun w => rising_c an ad bn bd w
    have A4 := fun w => rising_c rn rd sn sd w
    have A5 := fun b w => partials2_c p q b w
    rcases hw with h1 | ⟨h1, h2⟩ | ⟨h1, h2, h3⟩ | ⟨h1, h2, h3, h4⟩ | ⟨h1, h2, h3, h4, h5⟩
    all_goals
      rw [h1] at A1
      try rw [h2] at A2
      try rw [h3] at A3
      try rw [h4] at A4
      try rw [h5] at A5
      clear h1
      try clear h2
      try clear h3
      try clear h4
      try clear h5
      have H1 := Lib.hid A1
      have H2 := Lib.hid A2
      have H3 := Lib.hid A3
      have H4 := Lib.hid A4
      have H5 := Lib.hid A5
      clear A1 A2 A3 A4 A5
      go_enter Tryd.func25, Tryd.ntmps25
      go_wp2_with (first | (go_at_call 68; ((with_reducible refine (H1.out _ _ (by go_simp) (by go_simp) (by go_simp) (by go_simp)).mono ?_); rintro e w' ⟨rfl, hb⟩; obtain ⟨hz, hc, hf⟩ := bcl hb (by first | (simp; rfl) | rfl))) | (go_at_call 68; ((with_reducible refine (H2.out _ _ (by go_simp) (by go_simp) (by go_simp) (by go_simp)).mono ?_); rintro e w' ⟨rfl, hb⟩; obtain ⟨hz, hc, hf⟩ := bcl hb (by first | (simp; rfl) | rfl))) | (go_at_call 74; ((with_reducible refine (H3.out _).mono ?_); rintro e w' ⟨rfl, hb⟩; obtain ⟨hz, hc, hf⟩ := bcl hb (by first | (simp; rfl) | rfl))) | (go_at_call 74; ((with_reducible refine (H4.out _).mono ?_); rintro e w' ⟨rfl, hb⟩; obtain ⟨hz, hc, hf⟩ := bcl hb (by first | (simp; rfl) | rfl))) | (go_at_call 70; ((with_reducible refine (H5.out _ _ (by go_simp) (by go_simp)).mono ?_); rintro e w' ⟨rfl, hb⟩; obtain ⟨hz, hc, hf⟩ := bcl hb (by first | (simp; rfl) | rfl))))
      (refine bodyPost_ret (v := .tuple #[.agg #[.int .i64 0, .int .i64 0, .int .i64 0, .int .i64 0], .int .i64 1]) (by simp only [results, Tryd.results25]; go_simp) rfl ⟨rfl, ?_⟩)
      (repeat (first | (with_reducible exact bl_refl _) | (with_reducible refine bl_drew ?_) | (with_reducible refine bl_alloc ?_ _) | (with_reducible refine bl_set' ?_ ?_; · (first | omega | (simp; done) | (simp; omega))) | (with_reducible refine bl_last (by assumption) ?_) | (with_reducible refine bl_drewN ?_ _)))
  · have h' : (sdV an ad && sdV bn bd) = true ∧ (rtV rn rd && rtV sn sd) = true ∧ riB an ad bn bd = true ∧ riB rn rd sn sd = true ∧ (ptV p && ptV q) = true := by
      unfold mvG at h
      simp only [Bool.and_eq_true] at h ⊢
      exact h
    obtain ⟨h1, h2, h3, h4, h5⟩ := h'
    have A1 := fun b w => all2_sd an ad bn bd b w
    have A2 := fun b w => all2_rt rn rd sn sd b w
    have A3 := fun w => rising_c an ad bn bd w
    have A4 := fun w => rising_c rn rd sn sd w
    have A5 := fun b w => partials2_c p q b w
    rw [h1] at A1
    rw [h2] at A2
    rw [h3] at A3
    rw [h4] at A4
    rw [h5] at A5
    have H1 := Lib.hid A1
    have H2 := Lib.hid A2
    have H3 := Lib.hid A3
    have H4 := Lib.hid A4
    have H5 := Lib.hid A5
    have S1 := fun w => Set_c an ad p q (mvA above rn sn) (mvA above rd sd) above w
    have S2 := fun w => Set_c bn bd p q (mvA above sn rn) (mvA above sd rd) above w
    simp only [seV_eq] at S1 S2
    have hO : mvO an ad bn bd p q rn rd sn sd above = (decide (seE an ad p q (mvA above rn sn) (mvA above rd sd) above = 0) && decide (seE bn bd p q (mvA above sn rn) (mvA above sd rd) above = 0)) := by unfold mvO; rw [h, Bool.true_and]
    have hV : mvV an ad bn bd p q rn rd sn sd above = if mvO an ad bn bd p q rn rd sn sd above then .tuple #[.agg #[.int .i64 (seX an ad p q (mvA above rn sn) (mvA above rd sd) above), .int .i64 (seY an ad p q (mvA above rn sn) (mvA above rd sd) above), .int .i64 (seX bn bd p q (mvA above sn rn) (mvA above sd rd) above), .int .i64 (seY bn bd p q (mvA above sn rn) (mvA above sd rd) above)], .int .i64 0] else .tuple #[.agg #[.int .i64 0, .int .i64 0, .int .i64 0, .int .i64 0], .int .i64 3] := by
      unfold mvV mvK
      rw [h]
      split <;> simp_all
    rw [hV, hO]
    clear hV hO h h1 h2 h3 h4 h5 A1 A2 A3 A4 A5
    generalize seX an ad p q (mvA above rn sn) (mvA above rd sd) above = x1 at *
    generalize seY an ad p q (mvA above rn sn) (mvA above rd sd) above = y1 at *
    generalize seE an ad p q (mvA above rn sn) (mvA above rd sd) above = e1 at *
    generalize seX bn bd p q (mvA above sn rn) (mvA above sd rd) above = x2 at *
    generalize seY bn bd p q (mvA above sn rn) (mvA above sd rd) above = y2 at *
    generalize seE bn bd p q (mvA above sn rn) (mvA above sd rd) above = e2 at *
    have hw : ((e1 != 0) = true ∧ (decide (e1 = 0) && decide (e2 = 0)) = false) ∨ (e1 = 0 ∧ (e2 != 0) = true ∧ (decide (e1 = 0) && decide (e2 = 0)) = false) ∨ (e1 = 0 ∧ e2 = 0 ∧ (decide (e1 = 0) && decide (e2 = 0)) = true) := by
      by_cases h1 : e1 = 0
      · by_cases h2 : e2 = 0
        · exact Or.inr (Or.inr ⟨h1, h2, by simp [h1, h2]⟩)
        · exact Or.inr (Or.inl ⟨h1, by simpa using h2, by simp [h2]⟩)
      · exact Or.inl ⟨by simpa using h1, by simp [h1]⟩
    have T1 := Lib.hid S1
    have T2 := Lib.hid S2
    clear S1 S2
    rcases hw with ⟨k1, k2⟩ | ⟨rfl, k1, k2⟩ | ⟨rfl, rfl, k2⟩ <;> cases above
    all_goals
      rw [k2]
      clear k2
      simp only [mvA, if_true, Bool.false_eq_true, if_false] at T1 T2 ⊢
      have T1 := Lib.hid T1.out
      have T2 := Lib.hid T2.out
      go_enter Tryd.func25, Tryd.ntmps25
      go_wp2_with (first | (go_at_call 68; ((with_reducible refine (H1.out _ _ (by go_simp) (by go_simp) (by go_simp) (by go_simp)).mono ?_); rintro e w' ⟨rfl, hb⟩; obtain ⟨hz, hc, hf⟩ := bcl hb (by first | (simp; rfl) | rfl))) | (go_at_call 68; ((with_reducible refine (H2.out _ _ (by go_simp) (by go_simp) (by go_simp) (by go_simp)).mono ?_); rintro e w' ⟨rfl, hb⟩; obtain ⟨hz, hc, hf⟩ := bcl hb (by first | (simp; rfl) | rfl))) | (go_at_call 74; ((with_reducible refine (H3.out _).mono ?_); rintro e w' ⟨rfl, hb⟩; obtain ⟨hz, hc, hf⟩ := bcl hb (by first | (simp; rfl) | rfl))) | (go_at_call 74; ((with_reducible refine (H4.out _).mono ?_); rintro e w' ⟨rfl, hb⟩; obtain ⟨hz, hc, hf⟩ := bcl hb (by first | (simp; rfl) | rfl))) | (go_at_call 70; ((with_reducible refine (H5.out _ _ (by go_simp) (by go_simp)).mono ?_); rintro e w' ⟨rfl, hb⟩; obtain ⟨hz, hc, hf⟩ := bcl hb (by first | (simp; rfl) | rfl))) | (go_at_call 75; ((with_reducible refine (T1.out _).mono ?_); rintro e w' ⟨rfl, hb⟩; obtain ⟨hz, hc, hf⟩ := bcl hb (by first | (simp; rfl) | rfl))) | (go_at_call 75; ((with_reducible refine (T2.out _).mono ?_); rintro e w' ⟨rfl, hb⟩; obtain ⟨hz, hc, hf⟩ := bcl hb (by first | (simp; rfl) | rfl))))
      first | (refine bodyPost_ret (v := .tuple #[.agg #[.int .i64 0, .int .i64 0, .int .i64 0, .int .i64 0], .int .i64 3]) (by simp only [results, Tryd.results25]; go_simp) rfl ⟨rfl, ?_⟩) | (refine bodyPost_ret (v := .tuple #[.agg #[.int .i64 x1, .int .i64 y1, .int .i64 x2, .int .i64 y2], .int .i64 0]) (by simp only [results, Tryd.results25]; go_simp) rfl ⟨rfl, ?_⟩)
      (repeat (first | (with_reducible exact bl_refl _) | (with_reducible refine bl_drew ?_) | (with_reducible refine bl_alloc ?_ _) | (with_reducible refine bl_set' ?_ ?_; · (first | omega | (simp; done) | (simp; omega))) | (with_reducible refine bl_last (by assumption) ?_) | (with_reducible refine bl_drewN ?_ _)))
end Go.Proofs.YtehifkdfbiebfaaDoor
