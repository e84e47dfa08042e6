/- Beat: the plain law of the reference's bisection. -/
import Derived.Test.YthlnfjllkmielaaBeatAD
namespace Go.Proofs.Ythlnfjllkmielaa
open Go.RowKit

/-- The state of the bisection. -/
structure Bis (D R G lo hi : Nat) (same : Bool) : Prop where
  lt : lo < hi
  le : hi ≤ 1000000001
  low : hzVal D R lo ≤ G
  high : hi = 1000000001 ∨ G < hzVal D R hi
  eq : same = decide (hzVal D R lo = G)
theorem Bis.start {D R G : Nat} (hG : 0 < G) : Bis D R G 0 1000000001 false := by
  have h0 : hzVal D R 0 = 0 := by unfold hzVal; rw [Nat.zero_mul, Nat.zero_pow (by omega), Nat.zero_mul]
  exact ⟨by omega, Nat.le_refl _, by omega, Or.inl rfl, by rw [h0]; exact (decide_eq_false (by omega)).symm⟩
theorem Bis.up {D R G lo hi k : Nat} {s : Bool} (h : Bis D R G lo hi s) (hk : k < hi) (hv : hzVal D R k ≤ G) : Bis D R G k hi (decide (hzVal D R k = G)) := ⟨hk, h.le, hv, h.high, rfl⟩
theorem Bis.down {D R G lo hi k : Nat} {s : Bool} (h : Bis D R G lo hi s) (hk : lo < k) (hk2 : k < hi) (hv : G < hzVal D R k) : Bis D R G lo k s := ⟨hk, by have := h.le; omega, h.low, Or.inr hv, h.eq⟩
theorem Bis.done {D R G lo hi : Nat} {s : Bool} (h : Bis D R G lo hi s) (he : hi ≤ lo + 1) : LoHi D R G lo (if s then lo else lo + 1) := by
  obtain ⟨h1, h2, h3, h4, h5⟩ := h
  have hh : hi = lo + 1 := by omega
  subst hh
  refine ⟨by omega, h3, fun hl => by rcases h4 with h | h <;> omega, ?_⟩
  by_cases e : hzVal D R lo = G
  · rw [h5, decide_eq_true e]
    exact Or.inl ⟨e, rfl⟩
  · rw [h5, decide_eq_false e]
    exact Or.inr ⟨by omega, rfl⟩
end Go.Proofs.Ythlnfjllkmielaa
