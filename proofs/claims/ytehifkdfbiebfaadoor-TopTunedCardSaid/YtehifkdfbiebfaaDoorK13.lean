/- Rational: the plain laws: the lowest terms of a value are one. -/
import Derived.Test.YtehifkdfbiebfaaDoorK05
namespace Go.Proofs.YtehifkdfbiebfaaDoor
open Go.RowKit

/-- In lowest terms, whatever the size. -/
def Low (n d : Int) : Prop := 1 ≤ d ∧ Nat.gcd (absF n) (absF d) = 1
theorem abs_mul (a b : Int) : absF (a * b) = absF a * absF b := Int.natAbs_mul a b
theorem low_eq {n d x y : Int} (h : Low n d) (k : Low x y) (e : n * y = x * d) : n = x ∧ d = y := by
  obtain ⟨h1, h2⟩ := h
  obtain ⟨k1, k2⟩ := k
  have e' : absF n * absF y = absF x * absF d := by rw [← abs_mul, ← abs_mul, e]
  have d1 : absF d ∣ absF y := by
    have : absF d ∣ absF n * absF y := ⟨absF x, by rw [e', Nat.mul_comm]⟩
    exact Nat.Coprime.dvd_of_dvd_mul_left (by rw [Nat.coprime_comm]; exact h2) this
  have d2 : absF y ∣ absF d := by
    have : absF y ∣ absF x * absF d := ⟨absF n, by rw [← e', Nat.mul_comm]⟩
    exact Nat.Coprime.dvd_of_dvd_mul_left (by rw [Nat.coprime_comm]; exact k2) this
  have hdy : absF d = absF y := Nat.dvd_antisymm d1 d2
  have hd : d = y := by
    unfold absF at hdy
    omega
  subst hd
  exact ⟨Int.eq_of_mul_eq_mul_right (by omega) e, rfl⟩

theorem num_low {n d : Int} (hd : d ≠ 0) : Low (numF n d) (yF n d) ∧ numF n d * d = n * (yF n d : Int) ∧ absF (numF n d) = xF n d := by
  have hg := gF_pos (n := n) hd
  have hx : absF n = xF n d * gF n d := (Nat.div_mul_cancel (Nat.gcd_dvd_left _ _)).symm
  have hy : absF d = yF n d * gF n d := (Nat.div_mul_cancel (Nat.gcd_dvd_right _ _)).symm
  have hc : Nat.gcd (xF n d) (yF n d) = 1 := Nat.coprime_div_gcd_div_gcd hg
  have hy1 : 1 ≤ yF n d := by
    rcases Nat.eq_zero_or_pos (yF n d) with h0 | h0
    · rw [h0] at hy
      unfold absF at hy
      omega
    · exact h0
  have ha : absF (numF n d) = xF n d := by
    unfold numF absF
    split <;> omega
  refine ⟨⟨by omega, ?_⟩, ?_, ha⟩
  · rw [ha]
    exact hc
  · have hx' : (absF n : Int) = (xF n d : Int) * (gF n d : Int) := by rw [hx]; exact Int.natCast_mul _ _
    have hy' : (absF d : Int) = (yF n d : Int) * (gF n d : Int) := by rw [hy]; exact Int.natCast_mul _ _
    unfold numF
    generalize (xF n d : Int) = x at *
    generalize (yF n d : Int) = y at *
    generalize (gF n d : Int) = g at *
    unfold absF at hx' hy'
    by_cases h1 : n < 0 <;> by_cases h2 : d < 0 <;> simp only [h1, h2, decide_true, decide_false]
    · have e1 : n = -(x * g) := by omega
      have e2 : d = -(y * g) := by omega
      rw [if_neg (by decide)]
      rw [e1, e2]
      grind
    · have e1 : n = -(x * g) := by omega
      have e2 : d = (y * g) := by omega
      rw [if_pos (by decide)]
      rw [e1, e2]
      grind
    · have e1 : n = (x * g) := by omega
      have e2 : d = -(y * g) := by omega
      rw [if_pos (by decide)]
      rw [e1, e2]
      grind
    · have e1 : n = (x * g) := by omega
      have e2 : d = (y * g) := by omega
      rw [if_neg (by decide)]
      rw [e1, e2]
      grind

theorem low_of {n d : Int} (h : vR n d = true) : Low n d := ⟨(v_of h).1, (v_of h).2.2.2.2⟩
theorem v_mk {n d : Int} (h : Low n d) (h1 : d ≤ 1000000000) (h2 : absF n ≤ 1000000000) : vR n d = true := by
  unfold vR
  unfold absF at h2
  exact decide_eq_true ⟨h.1, h1, by omega, by omega, h.2⟩
theorem vR_eq {a b c d : Int} (h : vR a b = true) (k : vR c d = true) (e : a * d = c * b) : a = c ∧ b = d := low_eq (low_of h) (low_of k) e
theorem mk_parts {n d : Int} (h : mkE n d = 0) : d ≠ 0 ∧ xF n d ≤ 1000000000 ∧ yF n d ≤ 1000000000 ∧ mkN n d = numF n d ∧ mkD n d = yF n d := by
  have hn : mkN n d = numF n d := by unfold mkN; rw [if_pos h]
  have hd : mkD n d = yF n d := by unfold mkD; rw [if_pos h]
  unfold mkE at h
  split at h
  · omega
  · rename_i h0
    split at h
    · omega
    · exact ⟨h0, by omega, by omega, hn, hd⟩
/-- What Make returns is a number, and has the value. -/
theorem mk_spec {n d : Int} (h : mkE n d = 0) : d ≠ 0 ∧ vR (mkN n d) (mkD n d) = true ∧ mkN n d * d = n * mkD n d := by
  obtain ⟨h0, h1, h2, h3, h4⟩ := mk_parts h
  obtain ⟨k1, k2, k3⟩ := num_low (n := n) h0
  rw [h3, h4]
  exact ⟨h0, v_mk k1 (by omega) (by omega), k2⟩
/-- Make returns the number that has the value. -/
theorem mk_of {n d x y : Int} (hd : d ≠ 0) (h : vR x y = true) (e : n * y = x * d) : mkE n d = 0 ∧ mkN n d = x ∧ mkD n d = y := by
  obtain ⟨k1, k2, k3⟩ := num_low (n := n) hd
  have he : numF n d * y = x * (yF n d : Int) := by
    apply Int.eq_of_mul_eq_mul_right hd
    calc numF n d * y * d = numF n d * d * y := by rw [Int.mul_right_comm]
      _ = n * (yF n d : Int) * y := by rw [k2]
      _ = n * y * (yF n d : Int) := by rw [Int.mul_right_comm]
      _ = x * d * (yF n d : Int) := by rw [e]
      _ = x * (yF n d : Int) * d := by rw [Int.mul_right_comm]
  obtain ⟨e1, e2⟩ := low_eq k1 (low_of h) he
  obtain ⟨v1, v2, v3, v4, v5⟩ := v_of h
  have hE : mkE n d = 0 := by
    unfold mkE
    rw [if_neg hd, if_neg]
    rw [e1] at k3
    unfold absF at k3
    omega
  refine ⟨hE, ?_, ?_⟩
  · unfold mkN; rw [if_pos hE]; exact e1
  · unfold mkD; rw [if_pos hE]; exact e2
/-- What Make returns goes by the value alone. -/
theorem mk_congr {n d n' d' : Int} (hd : d ≠ 0) (hd' : d' ≠ 0) (e : n * d' = n' * d) : mkE n d = mkE n' d' ∧ mkN n d = mkN n' d' ∧ mkD n d = mkD n' d' := by
  obtain ⟨k1, k2, k3⟩ := num_low (n := n) hd
  obtain ⟨l1, l2, l3⟩ := num_low (n := n') hd'
  have he : numF n d * (yF n' d' : Int) = numF n' d' * (yF n d : Int) := by
    apply Int.eq_of_mul_eq_mul_right hd
    apply Int.eq_of_mul_eq_mul_right hd'
    calc numF n d * (yF n' d' : Int) * d * d' = (numF n d * d) * ((yF n' d' : Int) * d') := by rw [Int.mul_right_comm (numF n d), Int.mul_assoc]
      _ = n * (yF n d : Int) * ((yF n' d' : Int) * d') := by rw [k2]
      _ = (n * d') * ((yF n d : Int) * (yF n' d' : Int)) := by grind
      _ = n' * d * ((yF n d : Int) * (yF n' d' : Int)) := by rw [e]
      _ = (n' * (yF n' d' : Int)) * ((yF n d : Int) * d) := by grind
      _ = (numF n' d' * d') * ((yF n d : Int) * d) := by rw [l2]
      _ = numF n' d' * (yF n d : Int) * d * d' := by grind
  obtain ⟨e1, e2⟩ := low_eq k1 l1 he
  have ex : xF n d = xF n' d' := by rw [← k3, ← l3, e1]
  have ey : yF n d = yF n' d' := by omega
  have hE : mkE n d = mkE n' d' := by
    unfold mkE
    rw [if_neg hd, if_neg hd', ex, ey]
  refine ⟨hE, ?_, ?_⟩
  · unfold mkN; rw [hE, e1]
  · unfold mkD; rw [hE, e2]
end Go.Proofs.YtehifkdfbiebfaaDoor
