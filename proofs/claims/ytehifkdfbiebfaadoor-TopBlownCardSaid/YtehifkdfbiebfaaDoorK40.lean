/- Logarithms: powers of a prime between powers of 2. Plain. -/
import Derived.Test.YtehifkdfbiebfaaDoorK00
namespace Go.Proofs.YtehifkdfbiebfaaDoor
open Go Go.RowKit

/-- m * 2^e, at most p^k. -/
def lwP (p : Nat) : Nat → Nat → Nat × Nat
  | 0, _ => (1, 0)
  | f + 1, k =>
    let r := lwP p f (k / 2)
    let m := r.1 * r.1 * (if k % 2 = 1 then p else 1)
    let s := Nat.log2 m - 100
    (m / 2 ^ s, 2 * r.2 + s)
/-- m * 2^e, at least p^k. -/
def hwP (p : Nat) : Nat → Nat → Nat × Nat
  | 0, _ => (1, 0)
  | f + 1, k =>
    let r := hwP p f (k / 2)
    let m := r.1 * r.1 * (if k % 2 = 1 then p else 1)
    let s := Nat.log2 m - 100
    ((if s = 0 then m else m / 2 ^ s + 1), 2 * r.2 + s)
theorem pow_halves (p k : Nat) : p ^ k = p ^ (k / 2) * p ^ (k / 2) * (if k % 2 = 1 then p else 1) := by
  have e : k = k / 2 + k / 2 + k % 2 := by omega
  have h : p ^ k = p ^ (k / 2 + k / 2 + k % 2) := by rw [← e]
  rw [h, Nat.pow_add, Nat.pow_add]
  congr 1
  rcases Nat.mod_two_eq_zero_or_one k with h1 | h1 <;> simp [h1]
theorem lwP_le (p : Nat) : ∀ f k, k < 2 ^ f → (lwP p f k).1 * 2 ^ (lwP p f k).2 ≤ p ^ k
  | 0, k, h => by
    have : k = 0 := by simpa using h
    subst this
    exact Nat.le_refl _
  | f + 1, k, h => by
    have hk : k / 2 < 2 ^ f := by rw [Nat.pow_succ] at h; omega
    have ih := lwP_le p f (k / 2) hk
    rw [pow_halves p k]
    show (lwP p f (k / 2)).1 * (lwP p f (k / 2)).1 * (if k % 2 = 1 then p else 1) / 2 ^ _ * 2 ^ (2 * (lwP p f (k / 2)).2 + _) ≤ _
    generalize Nat.log2 ((lwP p f (k / 2)).1 * (lwP p f (k / 2)).1 * (if k % 2 = 1 then p else 1)) - 100 = s
    generalize (if k % 2 = 1 then p else 1) = q
    generalize (lwP p f (k / 2)).1 = m at *
    generalize (lwP p f (k / 2)).2 = e at *
    generalize p ^ (k / 2) = P at *
    have h1 : m * m * q / 2 ^ s * 2 ^ s ≤ m * m * q := Nat.div_mul_le_self _ _
    have e2 : 2 ^ (2 * e + s) = 2 ^ s * (2 ^ e * 2 ^ e) := by rw [Nat.pow_add, show 2 * e = e + e by omega, Nat.pow_add, Nat.mul_comm]
    calc m * m * q / 2 ^ s * 2 ^ (2 * e + s) = (m * m * q / 2 ^ s * 2 ^ s) * (2 ^ e * 2 ^ e) := by rw [e2]; exact (Nat.mul_assoc _ _ _).symm
      _ ≤ m * m * q * (2 ^ e * 2 ^ e) := Nat.mul_le_mul_right _ h1
      _ = (m * 2 ^ e) * (m * 2 ^ e) * q := by ac_rfl
      _ ≤ P * P * q := Nat.mul_le_mul_right _ (Nat.mul_le_mul ih ih)
theorem hwP_ge (p : Nat) : ∀ f k, k < 2 ^ f → p ^ k ≤ (hwP p f k).1 * 2 ^ (hwP p f k).2
  | 0, k, h => by
    have : k = 0 := by simpa using h
    subst this
    exact Nat.le_refl _
  | f + 1, k, h => by
    have hk : k / 2 < 2 ^ f := by rw [Nat.pow_succ] at h; omega
    have ih := hwP_ge p f (k / 2) hk
    rw [pow_halves p k]
    show _ ≤ (if _ = 0 then (hwP p f (k / 2)).1 * (hwP p f (k / 2)).1 * (if k % 2 = 1 then p else 1) else (hwP p f (k / 2)).1 * (hwP p f (k / 2)).1 * (if k % 2 = 1 then p else 1) / 2 ^ _ + 1) * 2 ^ (2 * (hwP p f (k / 2)).2 + _)
    generalize Nat.log2 ((hwP p f (k / 2)).1 * (hwP p f (k / 2)).1 * (if k % 2 = 1 then p else 1)) - 100 = s
    generalize (if k % 2 = 1 then p else 1) = q
    generalize (hwP p f (k / 2)).1 = m at *
    generalize (hwP p f (k / 2)).2 = e at *
    generalize p ^ (k / 2) = P at *
    have hs : 0 < 2 ^ s := Nat.pow_pos (by omega)
    have h1 : m * m * q ≤ (if s = 0 then m * m * q else m * m * q / 2 ^ s + 1) * 2 ^ s := by
      split
      · rename_i h0
        rw [h0, Nat.pow_zero, Nat.mul_one]
        exact Nat.le_refl _
      · have e1 := Nat.div_add_mod (m * m * q) (2 ^ s)
        have e2 := Nat.mod_lt (m * m * q) hs
        rw [Nat.mul_comm] at e1
        rw [Nat.add_mul, Nat.one_mul]
        generalize m * m * q = N at *
        generalize N / 2 ^ s * 2 ^ s = Z at *
        omega
    generalize (if s = 0 then m * m * q else m * m * q / 2 ^ s + 1) = M at *
    have e2 : 2 ^ (2 * e + s) = 2 ^ s * (2 ^ e * 2 ^ e) := by rw [Nat.pow_add, show 2 * e = e + e by omega, Nat.pow_add, Nat.mul_comm]
    calc P * P * q ≤ (m * 2 ^ e) * (m * 2 ^ e) * q := Nat.mul_le_mul_right _ (Nat.mul_le_mul ih ih)
      _ = m * m * q * (2 ^ e * 2 ^ e) := by ac_rfl
      _ ≤ (M * 2 ^ s) * (2 ^ e * 2 ^ e) := Nat.mul_le_mul_right _ h1
      _ = M * 2 ^ (2 * e + s) := by rw [e2]; ac_rfl
/-- The look: 2^a is at most p^k, and this at most 2^b. -/
def logB (p k a b : Nat) : Bool :=
  let l := lwP p 30 k
  let h := hwP p 30 k
  decide (k < 2 ^ 30) && (decide (l.2 ≤ a) && (decide (a - l.2 ≤ 200) && (decide (2 ^ (a - l.2) ≤ l.1) && (decide (h.2 ≤ b) && (decide (b - h.2 ≤ 200) && decide (h.1 ≤ 2 ^ (b - h.2)))))))
theorem logB_spec {p k a b : Nat} (h : logB p k a b = true) : 2 ^ a ≤ p ^ k ∧ p ^ k ≤ 2 ^ b := by
  unfold logB at h
  simp only [Bool.and_eq_true, decide_eq_true_eq] at h
  obtain ⟨h0, h1, _, h3, h4, _, h6⟩ := h
  have l := lwP_le p 30 k h0
  have u := hwP_ge p 30 k h0
  refine ⟨Nat.le_trans ?_ l, Nat.le_trans u ?_⟩
  · calc 2 ^ a = 2 ^ (a - (lwP p 30 k).2) * 2 ^ (lwP p 30 k).2 := by rw [← Nat.pow_add]; congr 1; omega
      _ ≤ _ := Nat.mul_le_mul_right _ h3
  · calc _ ≤ 2 ^ (b - (hwP p 30 k).2) * 2 ^ (hwP p 30 k).2 := Nat.mul_le_mul_right _ h6
      _ = 2 ^ b := by rw [← Nat.pow_add]; congr 1; omega
theorem log3 : logB 3 1000000000 1584962500 1584962501 = true := by decide +kernel
theorem log5 : logB 5 1000000000 2321928094 2321928095 = true := by decide +kernel
theorem log7 : logB 7 1000000000 2807354922 2807354923 = true := by decide +kernel
theorem log11 : logB 11 1000000000 3459431618 3459431619 = true := by decide +kernel
theorem log13 : logB 13 1000000000 3700439718 3700439719 = true := by decide +kernel
end Go.Proofs.YtehifkdfbiebfaaDoor
