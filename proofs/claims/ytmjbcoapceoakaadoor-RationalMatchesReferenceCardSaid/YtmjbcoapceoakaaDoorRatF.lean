/- Rational: the reference's Add, Sub, Mul, Div, Sign, Cmp, Floor. -/
import Derived.Test.YtmjbcoapceoakaaDoorRatE
namespace Go.Proofs.YtmjbcoapceoakaaDoor
open Go.RowKit

theorem vv_false {a b : Bool} (h : (a && b) = false) : (a = false) ∨ (a = true ∧ b = false) := by cases a <;> simp_all
theorem mkV_is (n d : Int) : ∃ x y k : Int, mkV n d = .tuple #[.agg #[.int .i64 x, .int .i64 y], .int .i64 k] := ⟨_, _, _, rfl⟩

set_option maxRecDepth 100000 in
set_option maxHeartbeats 1000000 in
theorem RAdd_c (an ad bn bd : Int) (w : World) : Calls Tryd.prog 28 #[.agg #[.int .i64 an, .int .i64 ad], .agg #[.int .i64 bn, .int .i64 bd]] w (Ret (addV an ad bn bd) w) := by
  cases h : (vR an ad && vR bn bd)
  · have hV : addV an ad bn bd = .tuple #[.agg #[.int .i64 0, .int .i64 0], .int .i64 1] := by simp [addV, h]
    rw [hV]
    clear hV
    rcases vv_false h with h1 | ⟨h1, h2⟩
    all_goals
      clear h
      go_enter Tryd.func28, Tryd.ntmps28
      go_wp2_with (go_at_call 26; refine (RValid_c _ _ _).mono ?_; rintro e w' ⟨rfl, hb⟩; obtain ⟨hz, hc, hf⟩ := bcl hb (by first | (simp; rfl) | rfl))
      (refine bodyPost_ret (v := .tuple #[.agg #[.int .i64 0, .int .i64 0], .int .i64 1]) (by simp only [results, Tryd.results28]; go_simp) rfl ⟨rfl, ?_⟩)
      (repeat (first | (with_reducible exact bl_refl _) | (with_reducible refine bl_drew ?_) | (with_reducible refine bl_alloc ?_ _) | (with_reducible refine bl_set' ?_ ?_; · (first | omega | (simp; done) | (simp; omega))) | (with_reducible refine bl_last (by assumption) ?_) | (with_reducible refine bl_drewN ?_ _)))
  · have hV : addV an ad bn bd = mkV (an * bd + bn * ad) (ad * bd) := by simp [addV, h]
    rw [hV]
    clear hV
    have h' : vR an ad = true ∧ vR bn bd = true := by simpa using h
    obtain ⟨h1, h2⟩ := h'
    clear h
    obtain ⟨a1, a2, a3, a4⟩ := rg_of h1
    obtain ⟨b1, b2, b3, b4⟩ := rg_of h2
    obtain ⟨m0, m0'⟩ := mul_bd (x := ad) (y := bd) (by omega) (by omega) (by omega) (by omega)
    have q0 : IntKind.i64.wrap (ad * bd) = ad * bd := by rw [IntKind.wrap_i64]; omega
    obtain ⟨m1, m1'⟩ := mul_bd (x := an) (y := bd) (by omega) (by omega) (by omega) (by omega)
    have q1 : IntKind.i64.wrap (an * bd) = an * bd := by rw [IntKind.wrap_i64]; omega
    obtain ⟨m2, m2'⟩ := mul_bd (x := bn) (y := ad) (by omega) (by omega) (by omega) (by omega)
    have q2 : IntKind.i64.wrap (bn * ad) = bn * ad := by rw [IntKind.wrap_i64]; omega
    have r0 : IntKind.i64.wrap (an * bd + bn * ad) = an * bd + bn * ad := by rw [IntKind.wrap_i64]; omega
    have HM := fun w => RMake_c (an * bd + bn * ad) (ad * bd) w (by constructor <;> omega) (by constructor <;> omega)
    obtain ⟨x, y, k, hk⟩ := mkV_is (an * bd + bn * ad) (ad * bd)
    rw [hk] at HM ⊢
    clear hk
    have HM := Lib.hid HM
    go_enter Tryd.func28, Tryd.ntmps28
    go_wp2_with (first | (go_at_call 26; refine (RValid_c _ _ _).mono ?_; rintro e w' ⟨rfl, hb⟩; obtain ⟨hz, hc, hf⟩ := bcl hb (by first | (simp; rfl) | rfl)) | (go_at_call 27; refine (HM.out _).mono ?_; rintro e w' ⟨rfl, hb⟩; obtain ⟨hz, hc, hf⟩ := bcl hb (by first | (simp; rfl) | rfl)))
    (refine bodyPost_ret (v := .tuple #[.agg #[.int .i64 x, .int .i64 y], .int .i64 k]) (by simp only [results, Tryd.results28]; go_simp) rfl ⟨rfl, ?_⟩)
    (repeat (first | (with_reducible exact bl_refl _) | (with_reducible refine bl_drew ?_) | (with_reducible refine bl_alloc ?_ _) | (with_reducible refine bl_set' ?_ ?_; · (first | omega | (simp; done) | (simp; omega))) | (with_reducible refine bl_last (by assumption) ?_) | (with_reducible refine bl_drewN ?_ _)))

set_option maxRecDepth 100000 in
set_option maxHeartbeats 1000000 in
theorem RSub_c (an ad bn bd : Int) (w : World) : Calls Tryd.prog 29 #[.agg #[.int .i64 an, .int .i64 ad], .agg #[.int .i64 bn, .int .i64 bd]] w (Ret (subV an ad bn bd) w) := by
  cases h : (vR an ad && vR bn bd)
  · have hV : subV an ad bn bd = .tuple #[.agg #[.int .i64 0, .int .i64 0], .int .i64 1] := by simp [subV, h]
    rw [hV]
    clear hV
    rcases vv_false h with h1 | ⟨h1, h2⟩
    all_goals
      clear h
      go_enter Tryd.func29, Tryd.ntmps29
      go_wp2_with (go_at_call 26; refine (RValid_c _ _ _).mono ?_; rintro e w' ⟨rfl, hb⟩; obtain ⟨hz, hc, hf⟩ := bcl hb (by first | (simp; rfl) | rfl))
      (refine bodyPost_ret (v := .tuple #[.agg #[.int .i64 0, .int .i64 0], .int .i64 1]) (by simp only [results, Tryd.results29]; go_simp) rfl ⟨rfl, ?_⟩)
      (repeat (first | (with_reducible exact bl_refl _) | (with_reducible refine bl_drew ?_) | (with_reducible refine bl_alloc ?_ _) | (with_reducible refine bl_set' ?_ ?_; · (first | omega | (simp; done) | (simp; omega))) | (with_reducible refine bl_last (by assumption) ?_) | (with_reducible refine bl_drewN ?_ _)))
  · have hV : subV an ad bn bd = mkV (an * bd - bn * ad) (ad * bd) := by simp [subV, h]
    rw [hV]
    clear hV
    have h' : vR an ad = true ∧ vR bn bd = true := by simpa using h
    obtain ⟨h1, h2⟩ := h'
    clear h
    obtain ⟨a1, a2, a3, a4⟩ := rg_of h1
    obtain ⟨b1, b2, b3, b4⟩ := rg_of h2
    obtain ⟨m0, m0'⟩ := mul_bd (x := ad) (y := bd) (by omega) (by omega) (by omega) (by omega)
    have q0 : IntKind.i64.wrap (ad * bd) = ad * bd := by rw [IntKind.wrap_i64]; omega
    obtain ⟨m1, m1'⟩ := mul_bd (x := an) (y := bd) (by omega) (by omega) (by omega) (by omega)
    have q1 : IntKind.i64.wrap (an * bd) = an * bd := by rw [IntKind.wrap_i64]; omega
    obtain ⟨m2, m2'⟩ := mul_bd (x := bn) (y := ad) (by omega) (by omega) (by omega) (by omega)
    have q2 : IntKind.i64.wrap (bn * ad) = bn * ad := by rw [IntKind.wrap_i64]; omega
    have r0 : IntKind.i64.wrap (an * bd - bn * ad) = an * bd - bn * ad := by rw [IntKind.wrap_i64]; omega
    have HM := fun w => RMake_c (an * bd - bn * ad) (ad * bd) w (by constructor <;> omega) (by constructor <;> omega)
    obtain ⟨x, y, k, hk⟩ := mkV_is (an * bd - bn * ad) (ad * bd)
    rw [hk] at HM ⊢
    clear hk
    have HM := Lib.hid HM
    go_enter Tryd.func29, Tryd.ntmps29
    go_wp2_with (first | (go_at_call 26; refine (RValid_c _ _ _).mono ?_; rintro e w' ⟨rfl, hb⟩; obtain ⟨hz, hc, hf⟩ := bcl hb (by first | (simp; rfl) | rfl)) | (go_at_call 27; refine (HM.out _).mono ?_; rintro e w' ⟨rfl, hb⟩; obtain ⟨hz, hc, hf⟩ := bcl hb (by first | (simp; rfl) | rfl)))
    (refine bodyPost_ret (v := .tuple #[.agg #[.int .i64 x, .int .i64 y], .int .i64 k]) (by simp only [results, Tryd.results29]; go_simp) rfl ⟨rfl, ?_⟩)
    (repeat (first | (with_reducible exact bl_refl _) | (with_reducible refine bl_drew ?_) | (with_reducible refine bl_alloc ?_ _) | (with_reducible refine bl_set' ?_ ?_; · (first | omega | (simp; done) | (simp; omega))) | (with_reducible refine bl_last (by assumption) ?_) | (with_reducible refine bl_drewN ?_ _)))

set_option maxRecDepth 100000 in
set_option maxHeartbeats 1000000 in
theorem RMul_c (an ad bn bd : Int) (w : World) : Calls Tryd.prog 30 #[.agg #[.int .i64 an, .int .i64 ad], .agg #[.int .i64 bn, .int .i64 bd]] w (Ret (mulV an ad bn bd) w) := by
  cases h : (vR an ad && vR bn bd)
  · have hV : mulV an ad bn bd = .tuple #[.agg #[.int .i64 0, .int .i64 0], .int .i64 1] := by simp [mulV, h]
    rw [hV]
    clear hV
    rcases vv_false h with h1 | ⟨h1, h2⟩
    all_goals
      clear h
      go_enter Tryd.func30, Tryd.ntmps30
      go_wp2_with (go_at_call 26; refine (RValid_c _ _ _).mono ?_; rintro e w' ⟨rfl, hb⟩; obtain ⟨hz, hc, hf⟩ := bcl hb (by first | (simp; rfl) | rfl))
      (refine bodyPost_ret (v := .tuple #[.agg #[.int .i64 0, .int .i64 0], .int .i64 1]) (by simp only [results, Tryd.results30]; go_simp) rfl ⟨rfl, ?_⟩)
      (repeat (first | (with_reducible exact bl_refl _) | (with_reducible refine bl_drew ?_) | (with_reducible refine bl_alloc ?_ _) | (with_reducible refine bl_set' ?_ ?_; · (first | omega | (simp; done) | (simp; omega))) | (with_reducible refine bl_last (by assumption) ?_) | (with_reducible refine bl_drewN ?_ _)))
  · have hV : mulV an ad bn bd = mkV (an * bn) (ad * bd) := by simp [mulV, h]
    rw [hV]
    clear hV
    have h' : vR an ad = true ∧ vR bn bd = true := by simpa using h
    obtain ⟨h1, h2⟩ := h'
    clear h
    obtain ⟨a1, a2, a3, a4⟩ := rg_of h1
    obtain ⟨b1, b2, b3, b4⟩ := rg_of h2
    obtain ⟨m0, m0'⟩ := mul_bd (x := ad) (y := bd) (by omega) (by omega) (by omega) (by omega)
    have q0 : IntKind.i64.wrap (ad * bd) = ad * bd := by rw [IntKind.wrap_i64]; omega
    obtain ⟨m1, m1'⟩ := mul_bd (x := an) (y := bn) (by omega) (by omega) (by omega) (by omega)
    have q1 : IntKind.i64.wrap (an * bn) = an * bn := by rw [IntKind.wrap_i64]; omega
    have HM := fun w => RMake_c (an * bn) (ad * bd) w (by constructor <;> omega) (by constructor <;> omega)
    obtain ⟨x, y, k, hk⟩ := mkV_is (an * bn) (ad * bd)
    rw [hk] at HM ⊢
    clear hk
    have HM := Lib.hid HM
    go_enter Tryd.func30, Tryd.ntmps30
    go_wp2_with (first | (go_at_call 26; refine (RValid_c _ _ _).mono ?_; rintro e w' ⟨rfl, hb⟩; obtain ⟨hz, hc, hf⟩ := bcl hb (by first | (simp; rfl) | rfl)) | (go_at_call 27; refine (HM.out _).mono ?_; rintro e w' ⟨rfl, hb⟩; obtain ⟨hz, hc, hf⟩ := bcl hb (by first | (simp; rfl) | rfl)))
    (refine bodyPost_ret (v := .tuple #[.agg #[.int .i64 x, .int .i64 y], .int .i64 k]) (by simp only [results, Tryd.results30]; go_simp) rfl ⟨rfl, ?_⟩)
    (repeat (first | (with_reducible exact bl_refl _) | (with_reducible refine bl_drew ?_) | (with_reducible refine bl_alloc ?_ _) | (with_reducible refine bl_set' ?_ ?_; · (first | omega | (simp; done) | (simp; omega))) | (with_reducible refine bl_last (by assumption) ?_) | (with_reducible refine bl_drewN ?_ _)))

set_option maxRecDepth 100000 in
set_option maxHeartbeats 1000000 in
theorem RDiv_c (an ad bn bd : Int) (w : World) : Calls Tryd.prog 31 #[.agg #[.int .i64 an, .int .i64 ad], .agg #[.int .i64 bn, .int .i64 bd]] w (Ret (divV an ad bn bd) w) := by
  cases h : (vR an ad && vR bn bd)
  · have hV : divV an ad bn bd = .tuple #[.agg #[.int .i64 0, .int .i64 0], .int .i64 1] := by simp [divV, h]
    rw [hV]
    clear hV
    rcases vv_false h with h1 | ⟨h1, h2⟩
    all_goals
      clear h
      go_enter Tryd.func31, Tryd.ntmps31
      go_wp2_with (go_at_call 26; refine (RValid_c _ _ _).mono ?_; rintro e w' ⟨rfl, hb⟩; obtain ⟨hz, hc, hf⟩ := bcl hb (by first | (simp; rfl) | rfl))
      (refine bodyPost_ret (v := .tuple #[.agg #[.int .i64 0, .int .i64 0], .int .i64 1]) (by simp only [results, Tryd.results31]; go_simp) rfl ⟨rfl, ?_⟩)
      (repeat (first | (with_reducible exact bl_refl _) | (with_reducible refine bl_drew ?_) | (with_reducible refine bl_alloc ?_ _) | (with_reducible refine bl_set' ?_ ?_; · (first | omega | (simp; done) | (simp; omega))) | (with_reducible refine bl_last (by assumption) ?_) | (with_reducible refine bl_drewN ?_ _)))
  · have hV : divV an ad bn bd = mkV (an * bd) (ad * bn) := by simp [divV, h]
    rw [hV]
    clear hV
    have h' : vR an ad = true ∧ vR bn bd = true := by simpa using h
    obtain ⟨h1, h2⟩ := h'
    clear h
    obtain ⟨a1, a2, a3, a4⟩ := rg_of h1
    obtain ⟨b1, b2, b3, b4⟩ := rg_of h2
    obtain ⟨m0, m0'⟩ := mul_bd (x := ad) (y := bn) (by omega) (by omega) (by omega) (by omega)
    have q0 : IntKind.i64.wrap (ad * bn) = ad * bn := by rw [IntKind.wrap_i64]; omega
    obtain ⟨m1, m1'⟩ := mul_bd (x := an) (y := bd) (by omega) (by omega) (by omega) (by omega)
    have q1 : IntKind.i64.wrap (an * bd) = an * bd := by rw [IntKind.wrap_i64]; omega
    have HM := fun w => RMake_c (an * bd) (ad * bn) w (by constructor <;> omega) (by constructor <;> omega)
    obtain ⟨x, y, k, hk⟩ := mkV_is (an * bd) (ad * bn)
    rw [hk] at HM ⊢
    clear hk
    have HM := Lib.hid HM
    go_enter Tryd.func31, Tryd.ntmps31
    go_wp2_with (first | (go_at_call 26; refine (RValid_c _ _ _).mono ?_; rintro e w' ⟨rfl, hb⟩; obtain ⟨hz, hc, hf⟩ := bcl hb (by first | (simp; rfl) | rfl)) | (go_at_call 27; refine (HM.out _).mono ?_; rintro e w' ⟨rfl, hb⟩; obtain ⟨hz, hc, hf⟩ := bcl hb (by first | (simp; rfl) | rfl)))
    (refine bodyPost_ret (v := .tuple #[.agg #[.int .i64 x, .int .i64 y], .int .i64 k]) (by simp only [results, Tryd.results31]; go_simp) rfl ⟨rfl, ?_⟩)
    (repeat (first | (with_reducible exact bl_refl _) | (with_reducible refine bl_drew ?_) | (with_reducible refine bl_alloc ?_ _) | (with_reducible refine bl_set' ?_ ?_; · (first | omega | (simp; done) | (simp; omega))) | (with_reducible refine bl_last (by assumption) ?_) | (with_reducible refine bl_drewN ?_ _)))

theorem RSign_c (x : Int) (w : World) : Calls Tryd.prog 61 #[.int .i64 x] w (RetS (.int .i64 (sgF x)) w) := by
  rcases sg_ways x with ⟨g, hs⟩ | ⟨g, hs⟩ | ⟨g, hs⟩
  all_goals
    rw [hs]
    clear hs
    try subst g
    go_enter Tryd.func61, Tryd.ntmps61
    go_wp2
    go_ret
    exact ⟨rfl, rfl⟩

set_option maxRecDepth 100000 in
set_option maxHeartbeats 1000000 in
theorem RCmp_c (an ad bn bd : Int) (w : World) : Calls Tryd.prog 35 #[.agg #[.int .i64 an, .int .i64 ad], .agg #[.int .i64 bn, .int .i64 bd]] w (Ret (cmpV an ad bn bd) w) := by
  cases h : (vR an ad && vR bn bd)
  · rw [cmp_bad h]
    rcases vv_false h with h1 | ⟨h1, h2⟩
    all_goals
      clear h
      go_enter Tryd.func35, Tryd.ntmps35
      go_wp2_with (go_at_call 26; refine (RValid_c _ _ _).mono ?_; rintro e w' ⟨rfl, hb⟩; obtain ⟨hz, hc, hf⟩ := bcl hb (by first | (simp; rfl) | rfl))
      go_ret2
      refine ⟨rfl, ?_⟩
      (repeat (first | (with_reducible exact bl_refl _) | (with_reducible refine bl_drew ?_) | (with_reducible refine bl_alloc ?_ _) | (with_reducible refine bl_set' ?_ ?_; · (first | omega | (simp; done) | (simp; omega))) | (with_reducible refine bl_last (by assumption) ?_) | (with_reducible refine bl_drewN ?_ _)))
  · rw [cmp_good h]
    have h' : vR an ad = true ∧ vR bn bd = true := by simpa using h
    obtain ⟨h1, h2⟩ := h'
    clear h
    obtain ⟨a1, a2, a3, a4⟩ := rg_of h1
    obtain ⟨b1, b2, b3, b4⟩ := rg_of h2
    obtain ⟨m0, m0'⟩ := mul_bd (x := an) (y := bd) (by omega) (by omega) (by omega) (by omega)
    have q0 : IntKind.i64.wrap (an * bd) = an * bd := by rw [IntKind.wrap_i64]; omega
    obtain ⟨m1, m1'⟩ := mul_bd (x := bn) (y := ad) (by omega) (by omega) (by omega) (by omega)
    have q1 : IntKind.i64.wrap (bn * ad) = bn * ad := by rw [IntKind.wrap_i64]; omega
    have r0 : IntKind.i64.wrap (an * bd - bn * ad) = an * bd - bn * ad := by rw [IntKind.wrap_i64]; omega
    have HS := Lib.hid (RSign_c (an * bd - bn * ad))
    generalize sgF (an * bd - bn * ad) = s at *
    go_enter Tryd.func35, Tryd.ntmps35
    go_wp2_with (first | (go_at_call 26; refine (RValid_c _ _ _).mono ?_; rintro e w' ⟨rfl, hb⟩; obtain ⟨hz, hc, hf⟩ := bcl hb (by first | (simp; rfl) | rfl)) | (go_at_call 61; ((with_reducible refine (HS.out _).mono ?_); rintro e w' ⟨rfl, rfl⟩)))
    go_ret2
    refine ⟨rfl, ?_⟩
    (repeat (first | (with_reducible exact bl_refl _) | (with_reducible refine bl_drew ?_) | (with_reducible refine bl_alloc ?_ _) | (with_reducible refine bl_set' ?_ ?_; · (first | omega | (simp; done) | (simp; omega))) | (with_reducible refine bl_last (by assumption) ?_) | (with_reducible refine bl_drewN ?_ _)))

set_option maxHeartbeats 1000000 in
theorem RFloor_c (n d : Int) (w : World) : Calls Tryd.prog 36 #[.agg #[.int .i64 n, .int .i64 d]] w (Ret (flV n d) w) := by
  unfold flV
  cases h : vR n d
  · simp only [Bool.false_eq_true, if_false]
    go_enter Tryd.func36, Tryd.ntmps36
    go_wp2_with (go_at_call 26; refine (RValid_c _ _ _).mono ?_; rintro e w' ⟨rfl, hb⟩; obtain ⟨hz, hc, hf⟩ := bcl hb (by first | (simp; rfl) | rfl))
    go_ret2
    refine ⟨rfl, ?_⟩
    (repeat (first | (with_reducible exact bl_refl _) | (with_reducible refine bl_drew ?_) | (with_reducible refine bl_alloc ?_ _) | (with_reducible refine bl_set' ?_ ?_; · (first | omega | (simp; done) | (simp; omega))) | (with_reducible refine bl_last (by assumption) ?_) | (with_reducible refine bl_drewN ?_ _)))
  · simp only [if_true]
    obtain ⟨a1, a2, a3, a4⟩ := rg_of h
    obtain ⟨⟨t1, t2⟩, t3, t4⟩ := tdiv_bd (n := n) a3 (by omega) (by omega)
    have hm : n.tmod d = n - n.tdiv d * d := by have := Int.tmod_add_mul_tdiv n d; rw [Int.mul_comm] at this; omega
    have hf := tdiv_facts (n := n) a3
    have hdn : ¬ d = 0 := by omega
    obtain ⟨t, ht⟩ : ∃ t, n.tdiv d = t := ⟨_, rfl⟩
    rw [ht] at t1 t2 t3 t4 hf hm
    obtain ⟨m, hm2⟩ : ∃ m, n.tmod d = m := ⟨_, rfl⟩
    rw [hm2] at hm
    have hw1 : IntKind.i64.wrap t = t := by rw [IntKind.wrap_i64]; omega
    have hw2 : IntKind.i64.wrap m = m := by rw [IntKind.wrap_i64]; omega
    rcases hf with ⟨f1, f2⟩ | ⟨f1, f2⟩
    · have g1 : m < 0 := by omega
      rw [f2]
      clear f2
      go_enter Tryd.func36, Tryd.ntmps36
      go_wp2_with (go_at_call 26; refine (RValid_c _ _ _).mono ?_; rintro e w' ⟨rfl, hb⟩; obtain ⟨hz, hc, hf⟩ := bcl hb (by first | (simp; rfl) | rfl))
      go_ret2
      refine ⟨rfl, ?_⟩
      (repeat (first | (with_reducible exact bl_refl _) | (with_reducible refine bl_drew ?_) | (with_reducible refine bl_alloc ?_ _) | (with_reducible refine bl_set' ?_ ?_; · (first | omega | (simp; done) | (simp; omega))) | (with_reducible refine bl_last (by assumption) ?_) | (with_reducible refine bl_drewN ?_ _)))
    · have g1 : 0 ≤ m := by omega
      rw [f2]
      clear f2
      go_enter Tryd.func36, Tryd.ntmps36
      go_wp2_with (go_at_call 26; refine (RValid_c _ _ _).mono ?_; rintro e w' ⟨rfl, hb⟩; obtain ⟨hz, hc, hf⟩ := bcl hb (by first | (simp; rfl) | rfl))
      go_ret2
      refine ⟨rfl, ?_⟩
      (repeat (first | (with_reducible exact bl_refl _) | (with_reducible refine bl_drew ?_) | (with_reducible refine bl_alloc ?_ _) | (with_reducible refine bl_set' ?_ ?_; · (first | omega | (simp; done) | (simp; omega))) | (with_reducible refine bl_last (by assumption) ?_) | (with_reducible refine bl_drewN ?_ _)))
end Go.Proofs.YtmjbcoapceoakaaDoor
