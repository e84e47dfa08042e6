/- RationalSums: the walk of the law. -/
import Derived.Test.YtmjbcoapceoakaaDoorRatU
namespace Go.Proofs.YtmjbcoapceoakaaDoor
open Go.RowKit

theorem ne_true {e : Int} (h : ¬ e = 0) : (e != 0) = true := by simpa using h
set_option maxRecDepth 100000 in
set_option maxHeartbeats 4000000 in
theorem walk_RationalSums (an ad bn bd cn cd : Int) (w : World) (_ : (Lit.int .i64 an).wf = true) (_ : (Lit.int .i64 ad).wf = true) (_ : (Lit.int .i64 bn).wf = true) (_ : (Lit.int .i64 bd).wf = true) (_ : (Lit.int .i64 cn).wf = true) (_ : (Lit.int .i64 cd).wf = true) (ht : PW w) :
    Calls Tryd.prog 6 #[.agg #[.int .i64 an, .int .i64 ad], .agg #[.int .i64 bn, .int .i64 bd], .agg #[.int .i64 cn, .int .i64 cd]] w (Ret (.bool true) w) := by
  have HH := Lib.hid (fun w h => head02_c w h)
  have HT := Lib.hid ht
  clear ht
  have A1 := fun w => Add_c an ad bn bd w
  have A2 := fun w => Add_c bn bd an ad w
  simp only [addV_eq] at A1 A2
  obtain ⟨c1, c2, c3⟩ := ad_comm bn bd an ad
  simp only [c1, c2, c3] at A2
  clear c1 c2 c3
  by_cases hE : adE an ad bn bd = 0
  case neg =>
    generalize adN an ad bn bd = N1 at *
    generalize adD an ad bn bd = D1 at *
    generalize adE an ad bn bd = E1 at *
    have hE' := ne_true hE
    have H1 := Lib.hid A1
    have H2 := Lib.hid A2
    clear A1 A2
    go_enter Tryd.func6, Tryd.ntmps6
    go_wp2_with (first | (go_at_call 11; ((with_reducible refine (HH.out _ (tab_up HT.out (by (repeat (first | (with_reducible exact bl_refl _) | (with_reducible refine bl_drew ?_) | (with_reducible refine bl_alloc ?_ _) | (with_reducible refine bl_set' ?_ ?_; · (first | omega | (simp; done) | (simp; omega))) | (with_reducible refine bl_last (by assumption) ?_) | (with_reducible refine bl_drewN ?_ _)))))).mono ?_); rintro e w' ⟨rfl, hb⟩; obtain ⟨hz, hc, hf⟩ := bcl hb (by first | (simp; rfl) | rfl))) | (go_at_call 19; ((with_reducible refine (H1.out _).mono ?_); rintro e w' ⟨rfl, hb⟩; obtain ⟨hz, hc, hf⟩ := bcl hb (by first | (simp; rfl) | rfl))) | (go_at_call 19; ((with_reducible refine (H2.out _).mono ?_); rintro e w' ⟨rfl, hb⟩; obtain ⟨hz, hc, hf⟩ := bcl hb (by first | (simp; rfl) | rfl))))
    go_ret
    refine ⟨rfl, ?_⟩
    (repeat (first | (with_reducible exact bl_refl _) | (with_reducible refine bl_drew ?_) | (with_reducible refine bl_alloc ?_ _) | (with_reducible refine bl_set' ?_ ?_; · (first | omega | (simp; done) | (simp; omega))) | (with_reducible refine bl_last (by assumption) ?_) | (with_reducible refine bl_drewN ?_ _)))
  obtain ⟨s1, s2, s3⟩ := sub_add hE
  have A3 := fun w => Sub_c (adN an ad bn bd) (adD an ad bn bd) bn bd w
  have A4 := fun w => Add_c bn bd cn cd w
  have A5 := fun w => Add_c (adN an ad bn bd) (adD an ad bn bd) cn cd w
  have A6 := fun w => Add_c an ad (adN bn bd cn cd) (adD bn bd cn cd) w
  simp only [addV_eq] at A4 A5 A6
  simp only [subV_eq, s1, s2, s3] at A3
  have hass := fun h2 h3 h4 => add_assoc' (an := an) (ad := ad) (bn := bn) (bd := bd) (cn := cn) (cd := cd) hE h2 h3 h4
  rw [hE] at A1 A2
  clear s1 s2 s3
  clear hE
  generalize adN (adN an ad bn bd) (adD an ad bn bd) cn cd = N5 at *
  generalize adD (adN an ad bn bd) (adD an ad bn bd) cn cd = D5 at *
  generalize adE (adN an ad bn bd) (adD an ad bn bd) cn cd = E5 at *
  generalize adN an ad (adN bn bd cn cd) (adD bn bd cn cd) = N6 at *
  generalize adD an ad (adN bn bd cn cd) (adD bn bd cn cd) = D6 at *
  generalize adE an ad (adN bn bd cn cd) (adD bn bd cn cd) = E6 at *
  generalize adN bn bd cn cd = N4 at *
  generalize adD bn bd cn cd = D4 at *
  generalize adE bn bd cn cd = E4 at *
  generalize adN an ad bn bd = N1 at *
  generalize adD an ad bn bd = D1 at *
  have hways : (E4 != 0) = true ∨ (E4 = 0 ∧ (E5 != 0) = true) ∨ (E4 = 0 ∧ E5 = 0 ∧ (E6 != 0) = true) ∨ (E4 = 0 ∧ E5 = 0 ∧ E6 = 0 ∧ N5 = N6 ∧ D5 = D6) := by
    by_cases h4 : E4 = 0
    · by_cases h5 : E5 = 0
      · by_cases h6 : E6 = 0
        · exact Or.inr (Or.inr (Or.inr ⟨h4, h5, h6, hass h4 h5 h6⟩))
        · exact Or.inr (Or.inr (Or.inl ⟨h4, h5, ne_true h6⟩))
      · exact Or.inr (Or.inl ⟨h4, ne_true h5⟩)
    · exact Or.inl (ne_true h4)
  clear hass
  have H1 := Lib.hid A1
  have H2 := Lib.hid A2
  have H3 := Lib.hid A3
  have H4 := Lib.hid A4
  have H5 := Lib.hid A5
  have H6 := Lib.hid A6
  clear A1 A2 A3 A4 A5 A6
  rcases hways with h4 | ⟨rfl, h5⟩ | ⟨rfl, rfl, h6⟩ | ⟨rfl, rfl, rfl, rfl, rfl⟩
  all_goals
    go_enter Tryd.func6, Tryd.ntmps6
    go_wp2_with (first | (go_at_call 11; ((with_reducible refine (HH.out _ (tab_up HT.out (by (repeat (first | (with_reducible exact bl_refl _) | (with_reducible refine bl_drew ?_) | (with_reducible refine bl_alloc ?_ _) | (with_reducible refine bl_set' ?_ ?_; · (first | omega | (simp; done) | (simp; omega))) | (with_reducible refine bl_last (by assumption) ?_) | (with_reducible refine bl_drewN ?_ _)))))).mono ?_); rintro e w' ⟨rfl, hb⟩; obtain ⟨hz, hc, hf⟩ := bcl hb (by first | (simp; rfl) | rfl))) | (go_at_call 19; ((with_reducible refine (H1.out _).mono ?_); rintro e w' ⟨rfl, hb⟩; obtain ⟨hz, hc, hf⟩ := bcl hb (by first | (simp; rfl) | rfl))) | (go_at_call 19; ((with_reducible refine (H2.out _).mono ?_); rintro e w' ⟨rfl, hb⟩; obtain ⟨hz, hc, hf⟩ := bcl hb (by first | (simp; rfl) | rfl))) | (go_at_call 20; ((with_reducible refine (H3.out _).mono ?_); rintro e w' ⟨rfl, hb⟩; obtain ⟨hz, hc, hf⟩ := bcl hb (by first | (simp; rfl) | rfl))) | (go_at_call 19; ((with_reducible refine (H4.out _).mono ?_); rintro e w' ⟨rfl, hb⟩; obtain ⟨hz, hc, hf⟩ := bcl hb (by first | (simp; rfl) | rfl))) | (go_at_call 19; ((with_reducible refine (H5.out _).mono ?_); rintro e w' ⟨rfl, hb⟩; obtain ⟨hz, hc, hf⟩ := bcl hb (by first | (simp; rfl) | rfl))) | (go_at_call 19; ((with_reducible refine (H6.out _).mono ?_); rintro e w' ⟨rfl, hb⟩; obtain ⟨hz, hc, hf⟩ := bcl hb (by first | (simp; rfl) | rfl))))
    go_ret
    refine ⟨rfl, ?_⟩
    (repeat (first | (with_reducible exact bl_refl _) | (with_reducible refine bl_drew ?_) | (with_reducible refine bl_alloc ?_ _) | (with_reducible refine bl_set' ?_ ?_; · (first | omega | (simp; done) | (simp; omega))) | (with_reducible refine bl_last (by assumption) ?_) | (with_reducible refine bl_drewN ?_ _)))
end Go.Proofs.YtmjbcoapceoakaaDoor
