/- Rational: the reference's Add, Sub, Mul, Div, Sign, Cmp, Floor. -/
import Derived.Test.YthlnfjllkmielaaRatE
namespace Go.Proofs.Ythlnfjllkmielaa
open Go.RowKit

theorem vv_false {a b : Bool} (h : (a && b) = false) : (a = false) ∨ (a = true ∧ b = false) := by cases a <;> simp_all
theorem mkV_is (n d : Int) : ∃ x y k : Int, mkV n d = .tuple #[.agg #[.int .i64 x, .int .i64 y], .int .i64 k] := ⟨_, _, _, rfl⟩

set_option maxRecDepth 100000 in
set_option maxHeartbeats 1000000 in
theorem RAdd_c (an ad bn bd : Int) (w : World) : Calls Try.prog 32 #[.agg #[.int .i64 an, .int .i64 ad], .agg #[.int .i64 bn, .int .i64 bd]] w (Ret (addV an ad bn bd) w) := by
  cases h : (vR an ad && vR bn bd)
  · have hV : addV an ad bn bd = .tuple #[.agg #[.int .i64 0, .int .i64 0], .int .i64 1] := by simp [addV, h]
    rw [hV]
    clear hV
    rcases vv_false h with h1 | ⟨h1, h2⟩
    all_goals
      clear h
      go_enter Try.func32, Try.ntmps32
      go_wp2_with (go_at_call 64; refine (RValid_c _ _ _).mono ?_; rintro e w' ⟨rfl, hb⟩; obtain ⟨hz, hc, hf⟩ := bcl hb (by first | (simp; rfl) | rfl))
      (refine bodyPost_ret (v := .tuple #[.agg #[.int .i64 0, .int .i64 0], .int .i64 1]) (by simp only [results, Try.results32]; go_simp) rfl ⟨rfl, ?_⟩)
      (repeat (first | (with_reducible exact bl_refl _) | (with_reducible refine bl_drew ?_) | (with_reducible refine bl_alloc ?_ _) | (with_reducible refine bl_set' ?_ ?_; · (first | omega | (simp; done) | (simp; omega))) | (with_reducible refine bl_last (by assumption) ?_) | (with_reducible refine bl_drewN ?_ _)))
  · have hV : addV an ad bn bd = mkV (an * bd + bn * ad) (ad * bd) := by simp [addV, h]
    rw [hV]
    clear hV
    have h' : vR an ad = true ∧ vR bn bd = true := by simpa using h
    obtain ⟨h1, h2⟩ := h'
    clear h
    obtain ⟨a1, a2, a3, a4⟩ := rg_of h1
    obtain ⟨b1, b2, b3, b4⟩ := rg_of h2
    obtain ⟨m0, m0'⟩ := mul_bd (x := ad) (y := bd) (by omega) (by omega) (by omega) (by omega)
    have q0 : IntKind.i64.wrap (ad * bd) = ad * bd := by rw [IntKind.wrap_i64]; omega
    obtain ⟨m1, m1'⟩ := mul_bd (x := an) (y := bd) (by omega) (by omega) (by omega) (by omega)
    have q1 : IntKind.i64.wrap (an * bd) = an * bd := by rw [IntKind.wrap_i64]; omega
    obtain ⟨m2, m2'⟩ := mul_bd (x := bn) (y := ad) (by omega) (by omega) (by omega) (by omega)
    have q2 : IntKind.i64.wrap (bn * ad) = bn * ad := by rw [IntKind.wrap_i64]; omega
    have r0 : IntKind.i64.wrap (an * bd + bn * ad) = an * bd + bn * ad := by rw [IntKind.wrap_i64]; omega
    have HM := fun w => RMake_c (an * bd + bn * ad) (ad * bd) w (by constructor <;> omega) (by constructor <;> omega)
    obtain ⟨x, y, k, hk⟩ := mkV_is (an * bd + bn * ad) (ad * bd)
    rw [hk] at HM ⊢
    clear hk
    have HM := Lib.hid HM
    go_enter Try.func32, Try.ntmps32
    go_wp2_with (first | (go_at_call 64; refine (RValid_c _ _ _).mono ?_; rintro e w' ⟨rfl, hb⟩; obtain ⟨hz, hc, hf⟩ := bcl hb (by first | (simp; rfl) | rfl)) | (go_at_call 26; refine (HM.out _).mono ?_; rintro e w' ⟨rfl, hb⟩; obtain ⟨hz, hc, hf⟩ := bcl hb (by first | (simp; rfl) | rfl)))
    (refine bodyPost_ret (v := .tuple #[.agg #[.int .i64 x, .int .i64 y], .int .i64 k]) (by simp only [results, Try.results32]; go_simp) rfl ⟨rfl, ?_⟩)
    (repeat (first | (with_reducible exact bl_refl _) | (with_reducible refine bl_drew ?_) | (with_reducible refine bl_alloc ?_ _) | (with_reducible refine bl_set' ?_ ?_; · (first | omega | (simp; done) | (simp; omega))) | (with_reducible refine bl_last (by assumption) ?_) | (with_reducible refine bl_drewN ?_ _)))

set_option maxRecDepth 100000 in
set_option maxHeartbeats 1000000 in
theorem RMul_c (an ad bn bd : Int) (w : World) : Calls Try.prog 27 #[.agg #[.int .i64 an, .int .i64 ad], .agg #[.int .i64 bn, .int .i64 bd]] w (Ret (mulV an ad bn bd) w) := by
  cases h : (vR an ad && vR bn bd)
  · have hV : mulV an ad bn bd = .tuple #[.agg #[.int .i64 0, .int .i64 0], .int .i64 1] := by simp [mulV, h]
    rw [hV]
    clear hV
    rcases vv_false h with h1 | ⟨h1, h2⟩
    all_goals
      clear h
      go_enter Try.func27, Try.ntmps27
      go_wp2_with (go_at_call 64; refine (RValid_c _ _ _).mono ?_; rintro e w' ⟨rfl, hb⟩; obtain ⟨hz, hc, hf⟩ := bcl hb (by first | (simp; rfl) | rfl))
      (refine bodyPost_ret (v := .tuple #[.agg #[.int .i64 0, .int .i64 0], .int .i64 1]) (by simp only [results, Try.results27]; go_simp) rfl ⟨rfl, ?_⟩)
      (repeat (first | (with_reducible exact bl_refl _) | (with_reducible refine bl_drew ?_) | (with_reducible refine bl_alloc ?_ _) | (with_reducible refine bl_set' ?_ ?_; · (first | omega | (simp; done) | (simp; omega))) | (with_reducible refine bl_last (by assumption) ?_) | (with_reducible refine bl_drewN ?_ _)))
  · have hV : mulV an ad bn bd = mkV (an * bn) (ad * bd) := by simp [mulV, h]
    rw [hV]
    clear hV
    have h' : vR an ad = true ∧ vR bn bd = true := by simpa using h
    obtain ⟨h1, h2⟩ := h'
    clear h
    obtain ⟨a1, a2, a3, a4⟩ := rg_of h1
    obtain ⟨b1, b2, b3, b4⟩ := rg_of h2
    obtain ⟨m0, m0'⟩ := mul_bd (x := ad) (y := bd) (by omega) (by omega) (by omega) (by omega)
    have q0 : IntKind.i64.wrap (ad * bd) = ad * bd := by rw [IntKind.wrap_i64]; omega
    obtain ⟨m1, m1'⟩ := mul_bd (x := an) (y := bn) (by omega) (by omega) (by omega) (by omega)
    have q1 : IntKind.i64.wrap (an * bn) = an * bn := by rw [IntKind.wrap_i64]; omega
    have HM := fun w => RMake_c (an * bn) (ad * bd) w (by constructor <;> omega) (by constructor <;> omega)
    obtain ⟨x, y, k, hk⟩ := mkV_is (an * bn) (ad * bd)
    rw [hk] at HM ⊢
    clear hk
    have HM := Lib.hid HM
    go_enter Try.func27, Try.ntmps27
    go_wp2_with (first | (go_at_call 64; refine (RValid_c _ _ _).mono ?_; rintro e w' ⟨rfl, hb⟩; obtain ⟨hz, hc, hf⟩ := bcl hb (by first | (simp; rfl) | rfl)) | (go_at_call 26; refine (HM.out _).mono ?_; rintro e w' ⟨rfl, hb⟩; obtain ⟨hz, hc, hf⟩ := bcl hb (by first | (simp; rfl) | rfl)))
    (refine bodyPost_ret (v := .tuple #[.agg #[.int .i64 x, .int .i64 y], .int .i64 k]) (by simp only [results, Try.results27]; go_simp) rfl ⟨rfl, ?_⟩)
    (repeat (first | (with_reducible exact bl_refl _) | (with_reducible refine bl_drew ?_) | (with_reducible refine bl_alloc ?_ _) | (with_reducible refine bl_set' ?_ ?_; · (first | omega | (simp; done) | (simp; omega))) | (with_reducible refine bl_last (by assumption) ?_) | (with_reducible refine bl_drewN ?_ _)))

theorem RSign_c (x : Int) (w : World) : Calls Try.prog 65 #[.int .i64 x] w (RetS (.int .i64 (sgF x)) w) := by
  rcases sg_ways x with ⟨g, hs⟩ | ⟨g, hs⟩ | ⟨g, hs⟩
  all_goals
    rw [hs]
    clear hs
    try subst g
    go_enter Try.func65, Try.ntmps65
    go_wp2
    go_ret
    exact ⟨rfl, rfl⟩

set_option maxRecDepth 100000 in
set_option maxHeartbeats 1000000 in
theorem RCmp_c (an ad bn bd : Int) (w : World) : Calls Try.prog 30 #[.agg #[.int .i64 an, .int .i64 ad], .agg #[.int .i64 bn, .int .i64 bd]] w (Ret (cmpV an ad bn bd) w) := by
  cases h : (vR an ad && vR bn bd)
  · rw [cmp_bad h]
    rcases vv_false h with h1 | ⟨h1, h2⟩
    all_goals
      clear h
      go_enter Try.func30, Try.ntmps30
      go_wp2_with (go_at_call 64; refine (RValid_c _ _ _).mono ?_; rintro e w' ⟨rfl, hb⟩; obtain ⟨hz, hc, hf⟩ := bcl hb (by first | (simp; rfl) | rfl))
      go_ret2
      refine ⟨rfl, ?_⟩
      (repeat (first | (with_reducible exact bl_refl _) | (with_reducible refine bl_drew ?_) | (with_reducible refine bl_alloc ?_ _) | (with_reducible refine bl_set' ?_ ?_; · (first | omega | (simp; done) | (simp; omega))) | (with_reducible refine bl_last (by assumption) ?_) | (with_reducible refine bl_drewN ?_ _)))
  · rw [cmp_good h]
    have h' : vR an ad = true ∧ vR bn bd = true := by simpa using h
    obtain ⟨h1, h2⟩ := h'
    clear h
    obtain ⟨a1, a2, a3, a4⟩ := rg_of h1
    obtain ⟨b1, b2, b3, b4⟩ := rg_of h2
    obtain ⟨m0, m0'⟩ := mul_bd (x := an) (y := bd) (by omega) (by omega) (by omega) (by omega)
    have q0 : IntKind.i64.wrap (an * bd) = an * bd := by rw [IntKind.wrap_i64]; omega
    obtain ⟨m1, m1'⟩ := mul_bd (x := bn) (y := ad) (by omega) (by omega) (by omega) (by omega)
    have q1 : IntKind.i64.wrap (bn * ad) = bn * ad := by rw [IntKind.wrap_i64]; omega
    have r0 : IntKind.i64.wrap (an * bd - bn * ad) = an * bd - bn * ad := by rw [IntKind.wrap_i64]; omega
    have HS := Lib.hid (RSign_c (an * bd - bn * ad))
    generalize sgF (an * bd - bn * ad) = s at *
    go_enter Try.func30, Try.ntmps30
    go_wp2_with (first | (go_at_call 64; refine (RValid_c _ _ _).mono ?_; rintro e w' ⟨rfl, hb⟩; obtain ⟨hz, hc, hf⟩ := bcl hb (by first | (simp; rfl) | rfl)) | (go_at_call 65; ((with_reducible refine (HS.out _).mono ?_); rintro e w' ⟨rfl, rfl⟩)))
    go_ret2
    refine ⟨rfl, ?_⟩
    (repeat (first | (with_reducible exact bl_refl _) | (with_reducible refine bl_drew ?_) | (with_reducible refine bl_alloc ?_ _) | (with_reducible refine bl_set' ?_ ?_; · (first | omega | (simp; done) | (simp; omega))) | (with_reducible refine bl_last (by assumption) ?_) | (with_reducible refine bl_drewN ?_ _)))

end Go.Proofs.Ythlnfjllkmielaa
