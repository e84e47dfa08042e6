/- PitchGroup: the plain law. -/
import Derived.Test.YtgbiiaaeabflnaaDoorPitP
namespace Go.Proofs.YtgbiiaaeabflnaaDoor
open Go Go.RowKit

theorem cb_of {s a b c d e f x y z p q r : Int} (h : cbE s a b c d e f x y z p q r = 0) : pV a b c d e f 576 = true ∧ pV x y z p q r 576 = true ∧ cbS s a b c d e f x y z p q r = true := by
  unfold cbE at h
  cases hg : cbG a b c d e f x y z p q r
  · rw [hg] at h; simp at h
  · cases hs : cbS s a b c d e f x y z p q r
    · rw [hg, hs] at h; simp at h
    · unfold cbG at hg
      simp only [Bool.and_eq_true] at hg
      exact ⟨hg.1, hg.2, rfl⟩
theorem cb_mk {s a b c d e f x y z p q r : Int} (h1 : pV a b c d e f 576 = true) (h2 : pV x y z p q r 576 = true) (h3 : cbS s a b c d e f x y z p q r = true) : cbE s a b c d e f x y z p q r = 0 := by
  unfold cbE cbG
  rw [h1, h2, h3]
  rfl
theorem cb_comm (a b c d e f x y z p q r : Int) : cbV 1 x y z p q r a b c d e f = cbV 1 a b c d e f x y z p q r := by
  unfold cbV cb cbE cbG cbS
  simp only [Int.one_mul]
  rw [Int.add_comm x a, Int.add_comm y b, Int.add_comm z c, Int.add_comm p d, Int.add_comm q e, Int.add_comm r f, Bool.and_comm]
theorem cb_assoc {a b c d e f x y z p q r i j k l m n : Int} (h1 : cbE 1 a b c d e f x y z p q r = 0) (h2 : cbE 1 x y z p q r i j k l m n = 0) : cbV 1 a b c d e f (x + i) (y + j) (z + k) (p + l) (q + m) (r + n) = cbV 1 (a + x) (b + y) (c + z) (d + p) (e + q) (f + r) i j k l m n := by
  obtain ⟨g1, g2, g3⟩ := cb_of h1
  obtain ⟨k1, k2, k3⟩ := cb_of h2
  unfold cbS at g3 k3
  simp only [Int.one_mul] at g3 k3
  unfold cbV cb cbE cbG cbS
  simp only [Int.one_mul]
  rw [g1, g3, k2, k3, Int.add_assoc a x i, Int.add_assoc b y j, Int.add_assoc c z k, Int.add_assoc d p l, Int.add_assoc e q m, Int.add_assoc f r n]
theorem p0_576 : pV 0 0 0 0 0 0 576 = true := by decide
theorem cb_unit {a b c d e f : Int} (h : pV a b c d e f 576 = true) : cbV 1 a b c d e f 0 0 0 0 0 0 = .tuple #[.agg #[.int .i64 a, .int .i64 b, .int .i64 c, .int .i64 d, .int .i64 e, .int .i64 f], .int .i64 0] := by
  have e : cbE 1 a b c d e f 0 0 0 0 0 0 = 0 := cb_mk h p0_576 (by unfold cbS; simp only [Int.mul_zero, Int.add_zero]; exact h)
  unfold cbV
  rw [e]
  simp [cb]
theorem cb_back {a b c d e f x y z p q r : Int} (h : cbE 1 a b c d e f x y z p q r = 0) : cbV (-1) (a + x) (b + y) (c + z) (d + p) (e + q) (f + r) x y z p q r = .tuple #[.agg #[.int .i64 a, .int .i64 b, .int .i64 c, .int .i64 d, .int .i64 e, .int .i64 f], .int .i64 0] := by
  obtain ⟨g1, g2, g3⟩ := cb_of h
  unfold cbS at g3
  simp only [Int.one_mul] at g3
  have hq : ∀ u v : Int, u + v + -1 * v = u := fun u v => by omega
  have e : cbE (-1) (a + x) (b + y) (c + z) (d + p) (e + q) (f + r) x y z p q r = 0 := cb_mk g3 g2 (by unfold cbS; simp only [hq]; exact g1)
  unfold cbV
  rw [e]
  simp only [cb, if_true, hq]
theorem cb_one {a b c d e f : Int} (h : pV a b c d e f 576 = true) : cbV (-1) a b c d e f a b c d e f = .tuple #[.agg #[.int .i64 0, .int .i64 0, .int .i64 0, .int .i64 0, .int .i64 0, .int .i64 0], .int .i64 0] := by
  have hq : ∀ u : Int, u + -1 * u = 0 := fun u => by omega
  have e : cbE (-1) a b c d e f a b c d e f = 0 := cb_mk h h (by unfold cbS; simp only [hq]; exact p0_576)
  unfold cbV
  rw [e]
  simp only [cb, if_true, hq]
end Go.Proofs.YtgbiiaaeabflnaaDoor
