/- RationalProducts: the walk of the law. -/
import Derived.Test.YtmjbcoapceoakaaDoorRatU
import Derived.Deep.Cut
namespace Go.Proofs.YtmjbcoapceoakaaDoor
open Go.RowKit

theorem ne_true' {e : Int} (h : ¬ e = 0) : (e != 0) = true := by simpa using h
theorem eq_false' {e : Int} (h : ¬ e = 0) : (e == 0) = false := by simpa using h
set_option maxRecDepth 100000 in
set_option maxHeartbeats 8000000 in
theorem walk_RationalProducts (an ad bn bd cn cd : Int) (w : World) (_ : (Lit.int .i64 an).wf = true) (_ : (Lit.int .i64 ad).wf = true) (_ : (Lit.int .i64 bn).wf = true) (_ : (Lit.int .i64 bd).wf = true) (_ : (Lit.int .i64 cn).wf = true) (_ : (Lit.int .i64 cd).wf = true) (ht : PW w) :
    Calls Tryd.prog 8 #[.agg #[.int .i64 an, .int .i64 ad], .agg #[.int .i64 bn, .int .i64 bd], .agg #[.int .i64 cn, .int .i64 cd]] w (Ret (.bool true) w) := by
  have HH := Lib.hid (fun w h => head02_c w h)
  have HT := Lib.hid ht
  clear ht
  have A1 := fun w => Mul_c an ad bn bd w
  have A2 := fun w => Mul_c bn bd an ad w
  simp only [mulV_eq] at A1 A2
  obtain ⟨c1, c2, c3⟩ := mu_comm bn bd an ad
  simp only [c1, c2, c3] at A2
  clear c1 c2 c3
  by_cases hE : muE an ad bn bd = 0
  case neg =>
    generalize muN an ad bn bd = N1 at *
    generalize muD an ad bn bd = D1 at *
    generalize muE an ad bn bd = E1 at *
    have hE' := ne_true' hE
    have H1 := Lib.hid A1
    have H2 := Lib.hid A2
    clear A1 A2
    go_enter Tryd.func8, Tryd.ntmps8
    go_wp2_with (first | (go_at_call 11; ((with_reducible refine (HH.out _ (tab_up HT.out (by (repeat (first | (with_reducible exact bl_refl _) | (with_reducible refine bl_drew ?_) | (with_reducible refine bl_alloc ?_ _) | (with_reducible refine bl_set' ?_ ?_; · (first | omega | (simp; done) | (simp; omega))) | (with_reducible refine bl_last (by assumption) ?_) | (with_reducible refine bl_drewN ?_ _)))))).mono ?_); rintro e w' ⟨rfl, hb⟩; obtain ⟨hz, hc, hf⟩ := bcl hb (by first | (simp; rfl) | rfl))) | (go_at_call 22; ((with_reducible refine (H1.out _).mono ?_); rintro e w' ⟨rfl, hb⟩; obtain ⟨hz, hc, hf⟩ := bcl hb (by first | (simp; rfl) | rfl))) | (go_at_call 22; ((with_reducible refine (H2.out _).mono ?_); rintro e w' ⟨rfl, hb⟩; obtain ⟨hz, hc, hf⟩ := bcl hb (by first | (simp; rfl) | rfl))))
    go_ret
    refine ⟨rfl, ?_⟩
    (repeat (first | (with_reducible exact bl_refl _) | (with_reducible refine bl_drew ?_) | (with_reducible refine bl_alloc ?_ _) | (with_reducible refine bl_set' ?_ ?_; · (first | omega | (simp; done) | (simp; omega))) | (with_reducible refine bl_last (by assumption) ?_) | (with_reducible refine bl_drewN ?_ _)))
  have A3 := fun hb w => (show ∀ w, _ from by
    obtain ⟨s1, s2, s3⟩ := div_mul hE hb
    have A3 := fun w => Div_c (muN an ad bn bd) (muD an ad bn bd) bn bd w
    simp only [divV_eq, s1, s2, s3] at A3
    exact A3) w
  have A4 := fun w => Mul_c bn bd cn cd w
  have A5 := fun w => Mul_c (muN an ad bn bd) (muD an ad bn bd) cn cd w
  have A6 := fun w => Mul_c an ad (muN bn bd cn cd) (muD bn bd cn cd) w
  have A7 := fun w => Add_c bn bd cn cd w
  have A8 := fun w => Mul_c an ad (adN bn bd cn cd) (adD bn bd cn cd) w
  have A9 := fun w => Mul_c an ad cn cd w
  have A10 := fun w => Add_c (muN an ad bn bd) (muD an ad bn bd) (muN an ad cn cd) (muD an ad cn cd) w
  simp only [addV_eq, mulV_eq] at A4 A5 A6 A7 A8 A9 A10
  have hass := fun h2 h3 h4 => mul_assoc' (an := an) (ad := ad) (bn := bn) (bd := bd) (cn := cn) (cd := cd) hE h2 h3 h4
  have hdis := fun h2 h3 h4 h5 => distrib' (an := an) (ad := ad) (bn := bn) (bd := bd) (cn := cn) (cd := cd) hE h2 h3 h4 h5
  rw [hE] at A1 A2
  clear hE
  generalize muN (muN an ad bn bd) (muD an ad bn bd) cn cd = N5 at *
  generalize muD (muN an ad bn bd) (muD an ad bn bd) cn cd = D5 at *
  generalize muE (muN an ad bn bd) (muD an ad bn bd) cn cd = E5 at *
  generalize muN an ad (muN bn bd cn cd) (muD bn bd cn cd) = N6 at *
  generalize muD an ad (muN bn bd cn cd) (muD bn bd cn cd) = D6 at *
  generalize muE an ad (muN bn bd cn cd) (muD bn bd cn cd) = E6 at *
  generalize muN an ad (adN bn bd cn cd) (adD bn bd cn cd) = N8 at *
  generalize muD an ad (adN bn bd cn cd) (adD bn bd cn cd) = D8 at *
  generalize muE an ad (adN bn bd cn cd) (adD bn bd cn cd) = E8 at *
  generalize adN (muN an ad bn bd) (muD an ad bn bd) (muN an ad cn cd) (muD an ad cn cd) = N10 at *
  generalize adD (muN an ad bn bd) (muD an ad bn bd) (muN an ad cn cd) (muD an ad cn cd) = D10 at *
  generalize adE (muN an ad bn bd) (muD an ad bn bd) (muN an ad cn cd) (muD an ad cn cd) = E10 at *
  generalize adN bn bd cn cd = N7 at *
  generalize adD bn bd cn cd = D7 at *
  generalize adE bn bd cn cd = E7 at *
  generalize muN an ad cn cd = N9 at *
  generalize muD an ad cn cd = D9 at *
  generalize muE an ad cn cd = E9 at *
  generalize muN bn bd cn cd = N4 at *
  generalize muD bn bd cn cd = D4 at *
  generalize muE bn bd cn cd = E4 at *
  generalize muN an ad bn bd = N1 at *
  generalize muD an ad bn bd = D1 at *
  have hways : ((E4 == 0) = false) ∨ (E4 = 0 ∧ (E5 == 0) = false) ∨ (E4 = 0 ∧ E5 = 0 ∧ (E6 == 0) = false) ∨ (E4 = 0 ∧ E5 = 0 ∧ E6 = 0 ∧ N5 = N6 ∧ D5 = D6) := by
    by_cases h4 : E4 = 0
    · by_cases h5 : E5 = 0
      · by_cases h6 : E6 = 0
        · exact Or.inr (Or.inr (Or.inr ⟨h4, h5, h6, hass h4 h5 h6⟩))
        · exact Or.inr (Or.inr (Or.inl ⟨h4, h5, eq_false' h6⟩))
      · exact Or.inr (Or.inl ⟨h4, eq_false' h5⟩)
    · exact Or.inl (eq_false' h4)
  have hways2 : ((E7 != 0) = true) ∨ (E7 = 0 ∧ (E8 != 0) = true) ∨ (E7 = 0 ∧ E8 = 0 ∧ (E9 != 0) = true) ∨ (E7 = 0 ∧ E8 = 0 ∧ E9 = 0 ∧ (E10 != 0) = true) ∨ (E7 = 0 ∧ E8 = 0 ∧ E9 = 0 ∧ E10 = 0 ∧ N8 = N10 ∧ D8 = D10) := by
    by_cases h7 : E7 = 0
    · by_cases h8 : E8 = 0
      · by_cases h9 : E9 = 0
        · by_cases h10 : E10 = 0
          · exact Or.inr (Or.inr (Or.inr (Or.inr ⟨h7, h8, h9, h10, hdis h7 h8 h9 h10⟩)))
          · exact Or.inr (Or.inr (Or.inr (Or.inl ⟨h7, h8, h9, ne_true' h10⟩)))
        · exact Or.inr (Or.inr (Or.inl ⟨h7, h8, ne_true' h9⟩))
      · exact Or.inr (Or.inl ⟨h7, ne_true' h8⟩)
    · exact Or.inl (ne_true' h7)
  clear hass hdis
  have HW1 := Lib.hid hways
  have HW2 := Lib.hid hways2
  clear hways hways2
  have H1 := Lib.hid A1
  have H2 := Lib.hid A2
  have H3 := Lib.hid A3
  have H4 := Lib.hid A4
  have H5 := Lib.hid A5
  have H6 := Lib.hid A6
  have H7 := Lib.hid A7
  have H8 := Lib.hid A8
  have H9 := Lib.hid A9
  have H10 := Lib.hid A10
  clear A1 A2 A3 A4 A5 A6 A7 A8 A9 A10
  by_cases hb0 : bn = 0
  case pos =>
    subst hb0
    clear H3
    go_enter Tryd.func8, Tryd.ntmps8
    go_upto_region 13 with (first | (go_at_call 11; ((with_reducible refine (HH.out _ (tab_up HT.out (by (repeat (first | (with_reducible exact bl_refl _) | (with_reducible refine bl_drew ?_) | (with_reducible refine bl_alloc ?_ _) | (with_reducible refine bl_set' ?_ ?_; · (first | omega | (simp; done) | (simp; omega))) | (with_reducible refine bl_last (by assumption) ?_) | (with_reducible refine bl_drewN ?_ _)))))).mono ?_); rintro e w' ⟨rfl, hb⟩; obtain ⟨hz, hc, hf⟩ := bcl hb (by first | (simp; rfl) | rfl))) | (go_at_call 22; ((with_reducible refine (H1.out _).mono ?_); rintro e w' ⟨rfl, hb⟩; obtain ⟨hz, hc, hf⟩ := bcl hb (by first | (simp; rfl) | rfl))) | (go_at_call 22; ((with_reducible refine (H2.out _).mono ?_); rintro e w' ⟨rfl, hb⟩; obtain ⟨hz, hc, hf⟩ := bcl hb (by first | (simp; rfl) | rfl))) | (go_at_call 22; ((with_reducible refine (H4.out _).mono ?_); rintro e w' ⟨rfl, hb⟩; obtain ⟨hz, hc, hf⟩ := bcl hb (by first | (simp; rfl) | rfl))) | (go_at_call 22; ((with_reducible refine (H5.out _).mono ?_); rintro e w' ⟨rfl, hb⟩; obtain ⟨hz, hc, hf⟩ := bcl hb (by first | (simp; rfl) | rfl))) | (go_at_call 22; ((with_reducible refine (H6.out _).mono ?_); rintro e w' ⟨rfl, hb⟩; obtain ⟨hz, hc, hf⟩ := bcl hb (by first | (simp; rfl) | rfl))))
    have hways := HW1.out
    rcases hways with h4 | ⟨rfl, h5⟩ | ⟨rfl, rfl, h6⟩ | ⟨rfl, rfl, rfl, rfl, rfl⟩
    all_goals
      go_upto_region 19 with (first | (go_at_call 19; ((with_reducible refine (H7.out _).mono ?_); rintro e w' ⟨rfl, hb⟩; obtain ⟨hz, hc, hf⟩ := bcl hb (by first | (simp; rfl) | rfl))) | (go_at_call 22; ((with_reducible refine (H8.out _).mono ?_); rintro e w' ⟨rfl, hb⟩; obtain ⟨hz, hc, hf⟩ := bcl hb (by first | (simp; rfl) | rfl))) | (go_at_call 22; ((with_reducible refine (H9.out _).mono ?_); rintro e w' ⟨rfl, hb⟩; obtain ⟨hz, hc, hf⟩ := bcl hb (by first | (simp; rfl) | rfl))) | (go_at_call 19; ((with_reducible refine (H10.out _).mono ?_); rintro e w' ⟨rfl, hb⟩; obtain ⟨hz, hc, hf⟩ := bcl hb (by first | (simp; rfl) | rfl))))
      have hways2 := HW2.out
      rcases hways2 with h7 | ⟨rfl, h8⟩ | ⟨rfl, rfl, h9⟩ | ⟨rfl, rfl, rfl, h10⟩ | ⟨rfl, rfl, rfl, rfl, rfl, rfl⟩
      all_goals
        go_wp2
        go_ret
        refine ⟨rfl, ?_⟩
        (repeat (first | (with_reducible exact bl_refl _) | (with_reducible refine bl_drew ?_) | (with_reducible refine bl_alloc ?_ _) | (with_reducible refine bl_set' ?_ ?_; · (first | omega | (simp; done) | (simp; omega))) | (with_reducible refine bl_last (by assumption) ?_) | (with_reducible refine bl_drewN ?_ _)))
  case neg =>
    have hb1 := ne_true' hb0
    have H3 := Lib.hid (H3.out hb0)
    go_enter Tryd.func8, Tryd.ntmps8
    go_upto_region 13 with (first | (go_at_call 11; ((with_reducible refine (HH.out _ (tab_up HT.out (by (repeat (first | (with_reducible exact bl_refl _) | (with_reducible refine bl_drew ?_) | (with_reducible refine bl_alloc ?_ _) | (with_reducible refine bl_set' ?_ ?_; · (first | omega | (simp; done) | (simp; omega))) | (with_reducible refine bl_last (by assumption) ?_) | (with_reducible refine bl_drewN ?_ _)))))).mono ?_); rintro e w' ⟨rfl, hb⟩; obtain ⟨hz, hc, hf⟩ := bcl hb (by first | (simp; rfl) | rfl))) | (go_at_call 22; ((with_reducible refine (H1.out _).mono ?_); rintro e w' ⟨rfl, hb⟩; obtain ⟨hz, hc, hf⟩ := bcl hb (by first | (simp; rfl) | rfl))) | (go_at_call 22; ((with_reducible refine (H2.out _).mono ?_); rintro e w' ⟨rfl, hb⟩; obtain ⟨hz, hc, hf⟩ := bcl hb (by first | (simp; rfl) | rfl))) | (go_at_call 23; ((with_reducible refine (H3.out _).mono ?_); rintro e w' ⟨rfl, hb⟩; obtain ⟨hz, hc, hf⟩ := bcl hb (by first | (simp; rfl) | rfl))) | (go_at_call 22; ((with_reducible refine (H4.out _).mono ?_); rintro e w' ⟨rfl, hb⟩; obtain ⟨hz, hc, hf⟩ := bcl hb (by first | (simp; rfl) | rfl))) | (go_at_call 22; ((with_reducible refine (H5.out _).mono ?_); rintro e w' ⟨rfl, hb⟩; obtain ⟨hz, hc, hf⟩ := bcl hb (by first | (simp; rfl) | rfl))) | (go_at_call 22; ((with_reducible refine (H6.out _).mono ?_); rintro e w' ⟨rfl, hb⟩; obtain ⟨hz, hc, hf⟩ := bcl hb (by first | (simp; rfl) | rfl))))
    have hways := HW1.out
    rcases hways with h4 | ⟨rfl, h5⟩ | ⟨rfl, rfl, h6⟩ | ⟨rfl, rfl, rfl, rfl, rfl⟩
    all_goals
      go_upto_region 19 with (first | (go_at_call 19; ((with_reducible refine (H7.out _).mono ?_); rintro e w' ⟨rfl, hb⟩; obtain ⟨hz, hc, hf⟩ := bcl hb (by first | (simp; rfl) | rfl))) | (go_at_call 22; ((with_reducible refine (H8.out _).mono ?_); rintro e w' ⟨rfl, hb⟩; obtain ⟨hz, hc, hf⟩ := bcl hb (by first | (simp; rfl) | rfl))) | (go_at_call 22; ((with_reducible refine (H9.out _).mono ?_); rintro e w' ⟨rfl, hb⟩; obtain ⟨hz, hc, hf⟩ := bcl hb (by first | (simp; rfl) | rfl))) | (go_at_call 19; ((with_reducible refine (H10.out _).mono ?_); rintro e w' ⟨rfl, hb⟩; obtain ⟨hz, hc, hf⟩ := bcl hb (by first | (simp; rfl) | rfl))))
      have hways2 := HW2.out
      rcases hways2 with h7 | ⟨rfl, h8⟩ | ⟨rfl, rfl, h9⟩ | ⟨rfl, rfl, rfl, h10⟩ | ⟨rfl, rfl, rfl, rfl, rfl, rfl⟩
      all_goals
        go_wp2
        go_ret
        refine ⟨rfl, ?_⟩
        (repeat (first | (with_reducible exact bl_refl _) | (with_reducible refine bl_drew ?_) | (with_reducible refine bl_alloc ?_ _) | (with_reducible refine bl_set' ?_ ?_; · (first | omega | (simp; done) | (simp; omega))) | (with_reducible refine bl_last (by assumption) ?_) | (with_reducible refine bl_drewN ?_ _)))
end Go.Proofs.YtmjbcoapceoakaaDoor
