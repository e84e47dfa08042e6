/- Rational: the reference's Add, Sub, Mul, Div, Sign, Cmp, Floor. Beat: counts, sounds, partials, made; the reference's Rated, Frequency, Partial, made. -/
import Derived.Test.YtehifkdfbiebfaaDoorK12
import Derived.LoopN
namespace Go.Proofs.YtehifkdfbiebfaaDoor
open Go.RowKit

theorem vv_false {a b : Bool} (h : (a && b) = false) : (a = false) ∨ (a = true ∧ b = false) := by cases a <;> simp_all
theorem mkV_is (n d : Int) : ∃ x y k : Int, mkV n d = .tuple #[.agg #[.int .i64 x, .int .i64 y], .int .i64 k] := ⟨_, _, _, rfl⟩













end Go.Proofs.YtehifkdfbiebfaaDoor
namespace Go.Proofs.YtehifkdfbiebfaaDoor
open Go.RowKit

def rtV (n d : Int) : Bool := vR n d && (decide (0 ≤ n) && decide (d ≤ 100000000))
def sdV (n d : Int) : Bool := rtV n d && decide (0 < n)
def ptV (p : Int) : Bool := decide (1 ≤ p) && decide (p ≤ 64)
theorem rt_ways (n d : Int) : (vR n d = false ∧ rtV n d = false) ∨ (vR n d = true ∧ n < 0 ∧ rtV n d = false) ∨ (vR n d = true ∧ 0 ≤ n ∧ 100000000 < d ∧ rtV n d = false) ∨ (vR n d = true ∧ 0 ≤ n ∧ d ≤ 100000000 ∧ rtV n d = true) := by
  unfold rtV
  cases h : vR n d
  · simp
  · by_cases h1 : 0 ≤ n
    · by_cases h2 : d ≤ 100000000
      · simp [h1, h2]
      · simp [h1, h2]; omega
    · simp [h1]; omega
theorem sd_ways (n d : Int) : (rtV n d = false ∧ sdV n d = false) ∨ (rtV n d = true ∧ n ≤ 0 ∧ sdV n d = false) ∨ (rtV n d = true ∧ 0 < n ∧ sdV n d = true) := by
  unfold sdV
  cases h : rtV n d
  · simp
  · by_cases h1 : 0 < n
    · simp [h1]
    · simp [h1]; omega
theorem pt_ways (p : Int) : (p < 1 ∧ ptV p = false) ∨ (1 ≤ p ∧ 64 < p ∧ ptV p = false) ∨ (1 ≤ p ∧ p ≤ 64 ∧ ptV p = true) := by
  unfold ptV
  by_cases h1 : 1 ≤ p
  · by_cases h2 : p ≤ 64
    · simp [h1, h2]
    · simp [h1, h2]; omega
  · simp [h1]; omega

set_option maxHeartbeats 1000000 in
theorem counts_c (n d : Int) (w : World) : Calls Tryd.prog 72 #[.agg #[.int .i64 n, .int .i64 d]] w (Ret (.bool (rtV n d)) w) := by
  rcases rt_ways n d with ⟨h1, hv⟩ | ⟨h1, h2, hv⟩ | ⟨h1, h2, h3, hv⟩ | ⟨h1, h2, h3, hv⟩
  all_goals
    rw [hv]
    clear hv
    try (have b2 : decide (0 ≤ n) = true := decide_eq_true h2)
    try (have b2 : decide (0 ≤ n) = false := decide_eq_false (by omega))
    try (have b3 : decide (d ≤ 100000000) = true := decide_eq_true h3)
    try (have b3 : decide (d ≤ 100000000) = false := decide_eq_false (by omega))
    go_enter Tryd.func72, Tryd.ntmps72
    go_wp2_with (go_at_call 52; refine (Valid_c _ _ _).mono ?_; rintro e w' ⟨rfl, hb⟩; obtain ⟨hz, hc, hf⟩ := bcl hb (by first | (simp; rfl) | rfl))
    go_ret
    refine ⟨rfl, ?_⟩
    (repeat (first | (with_reducible exact bl_refl _) | (with_reducible refine bl_drew ?_) | (with_reducible refine bl_alloc ?_ _) | (with_reducible refine bl_set' ?_ ?_; · (first | omega | (simp; done) | (simp; omega))) | (with_reducible refine bl_last (by assumption) ?_) | (with_reducible refine bl_drewN ?_ _)))

set_option maxHeartbeats 1000000 in
theorem sounds_c (n d : Int) (w : World) : Calls Tryd.prog 69 #[.agg #[.int .i64 n, .int .i64 d]] w (Ret (.bool (sdV n d)) w) := by
  rcases sd_ways n d with ⟨h1, hv⟩ | ⟨h1, h2, hv⟩ | ⟨h1, h2, hv⟩
  all_goals
    rw [hv]
    clear hv
    try (have b2 : decide (0 < n) = true := decide_eq_true h2)
    try (have b2 : decide (0 < n) = false := decide_eq_false (by omega))
    go_enter Tryd.func69, Tryd.ntmps69
    go_wp2_with (go_at_call 72; refine (counts_c _ _ _).mono ?_; rintro e w' ⟨rfl, hb⟩; obtain ⟨hz, hc, hf⟩ := bcl hb (by first | (simp; rfl) | rfl))
    go_ret
    refine ⟨rfl, ?_⟩
    (repeat (first | (with_reducible exact bl_refl _) | (with_reducible refine bl_drew ?_) | (with_reducible refine bl_alloc ?_ _) | (with_reducible refine bl_set' ?_ ?_; · (first | omega | (simp; done) | (simp; omega))) | (with_reducible refine bl_last (by assumption) ?_) | (with_reducible refine bl_drewN ?_ _)))

theorem partials2_c (p q : Int) (b : Nat) (w : World) (h0 : w.cell? ⟨b, 0, none⟩ = some (.int .i64 p)) (h1 : w.cell? ⟨b, 1, none⟩ = some (.int .i64 q)) :
    Calls Tryd.prog 70 #[.slice (some ⟨b, 0, none⟩) 2 2] w (Ret (.bool (ptV p && ptV q)) w) := by
  rcases pt_ways p with ⟨g1, hv⟩ | ⟨g1, g2, hv⟩ | ⟨g1, g2, hv⟩ <;> rcases pt_ways q with ⟨k1, hw⟩ | ⟨k1, k2, hw⟩ | ⟨k1, k2, hw⟩
  all_goals
    rw [hv, hw]
    clear hv hw
    try simp only [Bool.and_true]
    try simp only [Bool.and_false]
    try simp only [Bool.true_and]
    try simp only [Bool.false_and]
    go_enter Tryd.func70, Tryd.ntmps70
    go_wp2
    refine wp_loop_rounds 3 ?_
    rw [rounds_succ]
    go_wp2
    try (first | (rw [rounds_succ]; go_wp2) | skip)
    try (first | (rw [rounds_succ]; go_wp2) | skip)
    go_ret
    refine ⟨rfl, ?_⟩
    (repeat (first | (with_reducible exact bl_refl _) | (with_reducible refine bl_drew ?_) | (with_reducible refine bl_alloc ?_ _) | (with_reducible refine bl_set' ?_ ?_; · (first | omega | (simp; done) | (simp; omega))) | (with_reducible refine bl_last (by assumption) ?_) | (with_reducible refine bl_drewN ?_ _)))
end Go.Proofs.YtehifkdfbiebfaaDoor
