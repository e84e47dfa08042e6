/- How often a prime divides: plain laws. -/
import Derived.Test.YtehifkdfbiebfaaDoorK15
namespace Go.Proofs.YtehifkdfbiebfaaDoor
open Go Go.RowKit

def valF (p : Nat) : Nat → Nat → Nat
  | 0, _ => 0
  | f + 1, n => if n % p = 0 then valF p f (n / p) + 1 else 0
/-- How often p divides n. -/
def val (p n : Nat) : Nat := valF p n n
/-- What is left of n. -/
def cof (p n : Nat) : Nat := n / p ^ val p n
theorem valF_pow {p : Nat} (hp : 2 ≤ p) {c : Nat} (hc : c % p ≠ 0) : ∀ k f, k ≤ f → valF p f (c * p ^ k) = k
  | 0, 0, _ => rfl
  | 0, f + 1, _ => by
    rw [Nat.pow_zero, Nat.mul_one]
    unfold valF
    rw [if_neg hc]
  | k + 1, 0, h => by omega
  | k + 1, f + 1, h => by
    have h1 : c * p ^ (k + 1) = c * p ^ k * p := by rw [Nat.pow_succ, Nat.mul_assoc]
    unfold valF
    rw [h1, if_pos (Nat.mul_mod_left _ _), Nat.mul_div_cancel _ (by omega), valF_pow hp hc k f (by omega)]
theorem val_of {p n c k : Nat} (hp : 2 ≤ p) (h : n = c * p ^ k) (hc : c % p ≠ 0) : val p n = k ∧ cof p n = c := by
  have hc0 : 1 ≤ c := by
    rcases Nat.eq_zero_or_pos c with e | e
    · subst e; simp at hc
    · exact e
  have h1 : k < p ^ k := Nat.lt_pow_self (by omega)
  have h2 : p ^ k ≤ n := by
    rw [h]
    exact Nat.le_mul_of_pos_left _ hc0
  have hv : val p n = k := by
    unfold val
    rw [h] at *
    exact valF_pow hp hc k _ (by omega)
  refine ⟨hv, ?_⟩
  unfold cof
  rw [hv, h]
  exact Nat.mul_div_cancel _ (Nat.pow_pos (by omega))
/-- What is left behind the first i primes. -/
def chN (n : Nat) : Nat → Nat
  | 0 => n
  | i + 1 => cof (prm i) (chN n i)
def raE3 (n d : Nat) (i : Nat) : Int := (val (prm i) (chN n i) : Int) - (val (prm i) (chN d i) : Int)
theorem val_spec {p n : Nat} (hp : 2 ≤ p) (hn : 1 ≤ n) : n = cof p n * p ^ val p n ∧ cof p n % p ≠ 0 := by
  have key : ∀ m, ∀ n, n ≤ m → 1 ≤ n → ∃ c k, n = c * p ^ k ∧ c % p ≠ 0 := by
    intro m
    induction m with
    | zero => intro n h1 h2; omega
    | succ m ih =>
      intro n h1 h2
      by_cases e : n % p = 0
      · obtain ⟨q, hq⟩ : ∃ q, q = n / p := ⟨_, rfl⟩
        have e1 : n = q * p := by rw [hq]; exact (Nat.div_mul_cancel (Nat.dvd_of_mod_eq_zero e)).symm
        have e2 : q < n := by rw [hq]; exact Nat.div_lt_self (by omega) (by omega)
        have e3 : 1 ≤ q := by
          rcases Nat.eq_zero_or_pos q with g | g
          · rw [g] at e1; omega
          · exact g
        obtain ⟨c, k, h3, h4⟩ := ih q (by omega) e3
        exact ⟨c, k + 1, by rw [e1, h3, Nat.pow_succ, Nat.mul_assoc], h4⟩
      · exact ⟨n, 0, by simp, e⟩
  obtain ⟨c, k, h1, h2⟩ := key n n (Nat.le_refl _) hn
  obtain ⟨e1, e2⟩ := val_of hp h1 h2
  rw [e1, e2]
  exact ⟨h1, h2⟩
theorem cof_pos {p n : Nat} (hp : 2 ≤ p) (hn : 1 ≤ n) : 1 ≤ cof p n ∧ cof p n ≤ n := by
  obtain ⟨h1, h2⟩ := val_spec hp hn
  have h3 : 1 ≤ p ^ val p n := Nat.pow_pos (by omega)
  constructor
  · rcases Nat.eq_zero_or_pos (cof p n) with e | e
    · rw [e] at h2; simp at h2
    · exact e
  · calc cof p n ≤ cof p n * p ^ val p n := Nat.le_mul_of_pos_right _ h3
      _ = n := h1.symm
theorem val_lt {p n m : Nat} (hp : 2 ≤ p) (hn : 1 ≤ n) (h : n < 2 ^ m) : val p n < m := by
  obtain ⟨h1, h2⟩ := val_spec hp hn
  have h3 := (cof_pos hp hn).1
  have h4 : 2 ^ val p n ≤ p ^ val p n := Nat.pow_le_pow_left hp _
  have h5 : p ^ val p n ≤ n := by
    calc p ^ val p n ≤ cof p n * p ^ val p n := Nat.le_mul_of_pos_left _ h3
      _ = n := h1.symm
  exact (Nat.pow_lt_pow_iff_right (by omega)).1 (Nat.lt_of_le_of_lt (Nat.le_trans h4 h5) h)
theorem chN_pos {n : Nat} (hn : 1 ≤ n) : ∀ i, i ≤ 6 → 1 ≤ chN n i ∧ chN n i ≤ n
  | 0, _ => ⟨hn, Nat.le_refl _⟩
  | i + 1, h => by
    obtain ⟨h1, h2⟩ := chN_pos hn i (by omega)
    obtain ⟨h3, h4⟩ := cof_pos (prm_pos (show i < 6 by omega)).1 h1
    exact ⟨h3, Nat.le_trans h4 h2⟩
end Go.Proofs.YtehifkdfbiebfaaDoor
