/- Rational: the reference's Add, Sub, Mul, Div, Sign, Cmp, Floor. -/
import Derived.Test.YtkgklmmkkhbimaaRatE
namespace Go.Proofs.Ytkgklmmkkhbimaa
open Go.RowKit

theorem vv_false {a b : Bool} (h : (a && b) = false) : (a = false) ∨ (a = true ∧ b = false) := by cases a <;> simp_all
theorem mkV_is (n d : Int) : ∃ x y k : Int, mkV n d = .tuple #[.agg #[.int .i64 x, .int .i64 y], .int .i64 k] := ⟨_, _, _, rfl⟩

set_option maxRecDepth 100000 in
set_option maxHeartbeats 1000000 in
theorem RAdd_c (an ad bn bd : Int) (w : World) : Calls Try.prog 60 #[.agg #[.int .i64 an, .int .i64 ad], .agg #[.int .i64 bn, .int .i64 bd]] w (Ret (addV an ad bn bd) w) := by
  cases h : (vR an ad && vR bn bd)
  · have hV : addV an ad bn bd = .tuple #[.agg #[.int .i64 0, .int .i64 0], .int .i64 1] := by simp [addV, h]
    rw [hV]
    clear hV
    rcases vv_false h with h1 | ⟨h1, h2⟩
    all_goals
      clear h
      go_enter Try.func60, Try.ntmps60
      go_wp2_with (go_at_call 30; refine (RValid_c _ _ _).mono ?_; rintro e w' ⟨rfl, hb⟩; obtain ⟨hz, hc, hf⟩ := bcl hb (by first | (simp; rfl) | rfl))
      (refine bodyPost_ret (v := .tuple #[.agg #[.int .i64 0, .int .i64 0], .int .i64 1]) (by simp only [results, Try.results60]; go_simp) rfl ⟨rfl, ?_⟩)
      (repeat (first | (with_reducible exact bl_refl _) | (with_reducible refine bl_drew ?_) | (with_reducible refine bl_alloc ?_ _) | (with_reducible refine bl_set' ?_ ?_; · (first | omega | (simp; done) | (simp; omega))) | (with_reducible refine bl_last (by assumption) ?_) | (with_reducible refine bl_drewN ?_ _)))
  · have hV : addV an ad bn bd = mkV (an * bd + bn * ad) (ad * bd) := by simp [addV, h]
    rw [hV]
    clear hV
    have h' : vR an ad = true ∧ vR bn bd = true := by simpa using h
    obtain ⟨h1, h2⟩ := h'
    clear h
    obtain ⟨a1, a2, a3, a4⟩ := rg_of h1
    obtain ⟨b1, b2, b3, b4⟩ := rg_of h2
    obtain ⟨m0, m0'⟩ := mul_bd (x := ad) (y := bd) (by omega) (by omega) (by omega) (by omega)
    have q0 : IntKind.i64.wrap (ad * bd) = ad * bd := by rw [IntKind.wrap_i64]; omega
    obtain ⟨m1, m1'⟩ := mul_bd (x := an) (y := bd) (by omega) (by omega) (by omega) (by omega)
    have q1 : IntKind.i64.wrap (an * bd) = an * bd := by rw [IntKind.wrap_i64]; omega
    obtain ⟨m2, m2'⟩ := mul_bd (x := bn) (y := ad) (by omega) (by omega) (by omega) (by omega)
    have q2 : IntKind.i64.wrap (bn * ad) = bn * ad := by rw [IntKind.wrap_i64]; omega
    have r0 : IntKind.i64.wrap (an * bd + bn * ad) = an * bd + bn * ad := by rw [IntKind.wrap_i64]; omega
    have HM := fun w => RMake_c (an * bd + bn * ad) (ad * bd) w (by constructor <;> omega) (by constructor <;> omega)
    obtain ⟨x, y, k, hk⟩ := mkV_is (an * bd + bn * ad) (ad * bd)
    rw [hk] at HM ⊢
    clear hk
    have HM := Lib.hid HM
    go_enter Try.func60, Try.ntmps60
    go_wp2_with (first | (go_at_call 30; refine (RValid_c _ _ _).mono ?_; rintro e w' ⟨rfl, hb⟩; obtain ⟨hz, hc, hf⟩ := bcl hb (by first | (simp; rfl) | rfl)) | (go_at_call 71; refine (HM.out _).mono ?_; rintro e w' ⟨rfl, hb⟩; obtain ⟨hz, hc, hf⟩ := bcl hb (by first | (simp; rfl) | rfl)))
    (refine bodyPost_ret (v := .tuple #[.agg #[.int .i64 x, .int .i64 y], .int .i64 k]) (by simp only [results, Try.results60]; go_simp) rfl ⟨rfl, ?_⟩)
    (repeat (first | (with_reducible exact bl_refl _) | (with_reducible refine bl_drew ?_) | (with_reducible refine bl_alloc ?_ _) | (with_reducible refine bl_set' ?_ ?_; · (first | omega | (simp; done) | (simp; omega))) | (with_reducible refine bl_last (by assumption) ?_) | (with_reducible refine bl_drewN ?_ _)))

end Go.Proofs.Ytkgklmmkkhbimaa
