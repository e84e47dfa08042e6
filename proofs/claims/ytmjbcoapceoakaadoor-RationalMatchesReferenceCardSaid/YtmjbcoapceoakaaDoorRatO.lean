/- Rational: Near: plain laws of the convergents. -/
import Derived.Test.YtmjbcoapceoakaaDoorRatN
namespace Go.Proofs.YtmjbcoapceoakaaDoor
open Go.RowKit

/-- The state of the loop: the last two convergents, and the rest. -/
structure Conv (aN aD most p q p1 q1 n d : Int) : Prop where
  hN : aN = p1 * n + p * d
  hD : aD = q1 * n + q * d
  det : p1 * q - p * q1 = 1 ∨ p1 * q - p * q1 = -1
  q0 : 0 ≤ q
  d0 : 0 < d
  qm : q ≤ most
  q1m : q1 ≤ most
  st : (q1 = 0 ∧ p = 0 ∧ q = 1 ∧ p1 = 1 ∧ n = aN ∧ d = aD) ∨ (0 < q1 ∧ d < n)
theorem conv_start {aN aD most : Int} (h : 0 < aD) (hm : 1 ≤ most) : Conv aN aD most 0 1 1 0 aN aD :=
  ⟨by omega, by omega, Or.inl (by omega), by omega, h, by omega, by omega, Or.inl ⟨rfl, rfl, rfl, rfl, rfl, rfl⟩⟩
theorem conv_step {aN aD most p q p1 q1 n d : Int} (h : Conv aN aD most p q p1 q1 n d) (hg : Int.gcd aN aD = 1) (ha : most < aD) (hk : q + n / d * q1 ≤ most) :
    Conv aN aD most p1 q1 (p + n / d * p1) (q + n / d * q1) d (n - n / d * d) ∧ n - n / d * d < d := by
  obtain ⟨h1, h2, h3, h4, h5, h6, h7, h8⟩ := h
  have m1 : n / d * d ≤ n := Int.ediv_mul_le n (by omega)
  have m2 : n < n / d * d + d := by
    have := Int.lt_ediv_add_one_mul_self n h5
    rw [Int.add_mul, Int.one_mul] at this
    exact this
  generalize n / d = k at *
  have e1 : aN = (p + k * p1) * d + p1 * (n - k * d) := by rw [h1]; grind
  have e2 : aD = (q + k * q1) * d + q1 * (n - k * d) := by rw [h2]; grind
  have q1n : 0 ≤ q1 := by rcases h8 with h | h <;> omega
  have hd : 0 < n - k * d := by
    rcases Int.lt_or_le 0 (n - k * d) with h | h
    · exact h
    · exfalso
      have h0 : n - k * d = 0 := by omega
      rw [h0, Int.mul_zero, Int.add_zero] at e1 e2
      have g1 : d ∣ aN := ⟨p + k * p1, by rw [e1]; exact Int.mul_comm _ _⟩
      have g2 : d ∣ aD := ⟨q + k * q1, by rw [e2]; exact Int.mul_comm _ _⟩
      have g3 := Int.dvd_coe_gcd g1 g2
      rw [hg] at g3
      have g4 : d ≤ 1 := Int.le_of_dvd (by omega) g3
      have g5 : d = 1 := by omega
      rw [g5, Int.mul_one] at e2
      omega
  refine ⟨⟨e1, e2, ?_, q1n, hd, h7, hk, Or.inr ⟨?_, by omega⟩⟩, by omega⟩
  · have e3 : (p + k * p1) * q1 - p1 * (q + k * q1) = -(p1 * q - p * q1) := by grind
    rw [e3]
    omega
  · rcases h8 with ⟨a1, a2, a3, a4, a5, a6⟩ | ⟨a1, a2⟩
    · rw [a1, Int.mul_zero]
      omega
    · have hk1 : 1 ≤ k := by
        rcases Int.lt_or_le 0 k with h | h
        · omega
        · have := Int.mul_le_mul_of_nonneg_right h (Int.le_of_lt h5)
          omega
      have := Int.mul_le_mul_of_nonneg_right hk1 (Int.le_of_lt a1)
      omega
/-- N / D is the nearest one. -/
def Nearest (aN aD most N D : Int) : Prop := vR N D = true ∧ D ≤ most ∧ (∀ bN bD : Int, 0 < bD → bD ≤ most → (aN * D - N * aD).natAbs * bD ≤ (aN * bD - bN * aD).natAbs * D) ∧ ∀ M : Int, (aN.natAbs : Int) ≤ M → aD ≤ M → (N.natAbs : Int) ≤ M
theorem nearest_self {aN aD most : Int} (hv : vR aN aD = true) (h : aD ≤ most) : Nearest aN aD most aN aD := by
  refine ⟨hv, h, fun bN bD h1 h2 => ?_, fun M h1 _ => h1⟩
  rw [Int.sub_self]
  have := Int.mul_nonneg (show (0 : Int) ≤ ((aN * bD - bN * aD).natAbs : Int) by omega) (Int.le_of_lt (den_pos hv))
  simpa using this
/-- A number of which the determinant with another one is 1 is in lowest terms. -/
theorem det_gcd {a b c d : Int} (h : a * b - c * d = 1 ∨ a * b - c * d = -1) : Nat.gcd (absF a) (absF d) = 1 := by
  show Int.gcd a d = 1
  have g1 := Int.gcd_dvd_left (a := a) (b := d)
  have g2 := Int.gcd_dvd_right (a := a) (b := d)
  have g3 : (Int.gcd a d : Int) ∣ a * b - c * d := Int.dvd_sub (Int.dvd_trans g1 (Int.dvd_mul_right _ _)) (Int.dvd_trans g2 (Int.dvd_mul_left _ _))
  have g4 : (Int.gcd a d : Int) ∣ 1 := by
    rcases h with h | h
    · rwa [h] at g3
    · rw [h] at g3
      exact (Int.dvd_neg).1 g3
  have g5 := Int.le_of_dvd (by omega) g4
  have g6 : 0 < Int.gcd a d := by
    rcases Nat.eq_zero_or_pos (Int.gcd a d) with h0 | h0
    · rw [h0] at g4
      have := Int.zero_dvd.1 g4
      omega
    · exact h0
  omega
theorem num_le {aN aD P Q e M : Int} (hD : 0 < aD) (h : P * aD = aN * Q + e) (hQ0 : 0 ≤ Q) (hQ : Q < aD) (he : (e.natAbs : Int) ≤ aD) (h1 : (aN.natAbs : Int) ≤ M) (h2 : aD ≤ M) : (P.natAbs : Int) ≤ M := by
  have m1 : aN * Q ≤ M * Q := Int.mul_le_mul_of_nonneg_right (by omega) hQ0
  have m2 : -aN * Q ≤ M * Q := Int.mul_le_mul_of_nonneg_right (by omega) hQ0
  have m3 : M * Q ≤ M * (aD - 1) := Int.mul_le_mul_of_nonneg_left (by omega) (by omega)
  have m4 : M * (aD - 1) = M * aD - M := by rw [Int.mul_sub, Int.mul_one]
  rw [Int.neg_mul] at m2
  have u1 : P * aD ≤ M * aD := by omega
  have u2 : -P * aD ≤ M * aD := by rw [Int.neg_mul]; omega
  have v1 := mul_le_of hD u1
  have v2 := mul_le_of hD u2
  omega
theorem near_core {aN aD most p1 q1 p2 q2 d X s D G bN bD : Int} (hs : s = 1 ∨ s = -1) (x1 : p1 * aD - aN * q1 = s * d) (x2 : p2 * aD - aN * q2 = -(s * X)) (hdet : p1 * q2 - p2 * q1 = s) (q1p : 0 < q1) (q2p : 0 < q2) (dp : 0 < d) (Xp : 0 < X)
    (hsum : most < q1 + q2) (hb0 : 0 < bD) (hbm : bD ≤ most) (hG1 : G * q1 ≤ d * D) (hG2 : G * q2 ≤ X * D) (hD : 0 < D) : G * bD ≤ (aN * bD - bN * aD).natAbs * D := by
  obtain ⟨α, hα⟩ : ∃ α, α = s * (bN * q2 - bD * p2) := ⟨_, rfl⟩
  obtain ⟨β, hβ⟩ : ∃ β, β = s * (p1 * bD - q1 * bN) := ⟨_, rfl⟩
  have ss : s * s = 1 := by rcases hs with rfl | rfl <;> rfl
  have e1 : α * q1 + β * q2 = bD := by
    have : α * q1 + β * q2 = s * (p1 * q2 - p2 * q1) * bD := by rw [hα, hβ]; grind
    rw [this, hdet, ss, Int.one_mul]
  have e0 : α * p1 + β * p2 = bN := by
    have : α * p1 + β * p2 = s * (p1 * q2 - p2 * q1) * bN := by rw [hα, hβ]; grind
    rw [this, hdet, ss, Int.one_mul]
  have e2 : aN * bD - bN * aD = -(s * (α * d - β * X)) := by
    have h3 : aN * bD - bN * aD = -(α * (p1 * aD - aN * q1) + β * (p2 * aD - aN * q2)) := by rw [← e1, ← e0]; grind
    rw [h3, x1, x2]
    grind
  have ey : ((aN * bD - bN * aD).natAbs : Int) = (α * d - β * X).natAbs := by
    rw [e2]
    rcases hs with rfl | rfl
    · rw [Int.one_mul]; omega
    · rw [Int.neg_mul, Int.one_mul]; omega
  rw [ey]
  clear hα hβ e0 e2 ey x1 x2 hdet hs ss
  have key : (d * bD ≤ (α * d - β * X).natAbs * q1) ∨ (X * bD ≤ (α * d - β * X).natAbs * q2) := by
    rcases Int.lt_or_le 0 β with hb | hb
    · rcases Int.lt_or_le 0 α with ha | ha
      · exfalso
        have m1 : 1 * q1 ≤ α * q1 := Int.mul_le_mul_of_nonneg_right (by omega) (by omega)
        have m2 : 1 * q2 ≤ β * q2 := Int.mul_le_mul_of_nonneg_right (by omega) (by omega)
        omega
      · right
        have m1 : 0 ≤ -α * d := Int.mul_nonneg (by omega) (by omega)
        have m2 : 0 ≤ β * X := Int.mul_nonneg (by omega) (by omega)
        rw [Int.neg_mul] at m1
        have e3 : ((α * d - β * X).natAbs : Int) = β * X - α * d := by omega
        rw [e3, ← e1]
        have m3 : 0 ≤ -α * (d * q2) := Int.mul_nonneg (by omega) (Int.le_of_lt (Int.mul_pos dp q2p))
        have m4 : 0 ≤ -α * (X * q1) := Int.mul_nonneg (by omega) (Int.le_of_lt (Int.mul_pos Xp q1p))
        have e4 : X * (α * q1 + β * q2) = (β * X - α * d) * q2 - (-α * (d * q2)) - (-α * (X * q1)) := by grind
        omega
    · left
      have ha : 0 < α := by
        rcases Int.lt_or_le 0 α with ha | ha
        · exact ha
        · exfalso
          have m1 : 0 ≤ -α * q1 := Int.mul_nonneg (by omega) (by omega)
          have m2 : 0 ≤ -β * q2 := Int.mul_nonneg (by omega) (by omega)
          rw [Int.neg_mul] at m1 m2
          omega
      have m1 : 0 ≤ α * d := Int.mul_nonneg (by omega) (by omega)
      have m2 : 0 ≤ -β * X := Int.mul_nonneg (by omega) (by omega)
      rw [Int.neg_mul] at m2
      have e3 : ((α * d - β * X).natAbs : Int) = α * d - β * X := by omega
      rw [e3, ← e1]
      have m3 : 0 ≤ -β * (d * q2) := Int.mul_nonneg (by omega) (Int.le_of_lt (Int.mul_pos dp q2p))
      have m4 : 0 ≤ -β * (X * q1) := Int.mul_nonneg (by omega) (Int.le_of_lt (Int.mul_pos Xp q1p))
      have e4 : d * (α * q1 + β * q2) = (α * d - β * X) * q1 - (-β * (d * q2)) - (-β * (X * q1)) := by grind
      omega
  generalize ((α * d - β * X).natAbs : Int) = Y at *
  rcases key with h | h
  · refine mul_le_of q1p ?_
    have h1 : G * q1 * bD ≤ d * D * bD := Int.mul_le_mul_of_nonneg_right hG1 (by omega)
    have h2 : d * bD * D ≤ Y * q1 * D := Int.mul_le_mul_of_nonneg_right h (by omega)
    have e5 : G * bD * q1 = G * q1 * bD := by grind
    have e6 : Y * D * q1 = Y * q1 * D := by grind
    have e7 : d * bD * D = d * D * bD := by grind
    omega
  · refine mul_le_of q2p ?_
    have h1 : G * q2 * bD ≤ X * D * bD := Int.mul_le_mul_of_nonneg_right hG2 (by omega)
    have h2 : X * bD * D ≤ Y * q2 * D := Int.mul_le_mul_of_nonneg_right h (by omega)
    have e5 : G * bD * q2 = G * q2 * bD := by grind
    have e6 : Y * D * q2 = Y * q2 * D := by grind
    have e7 : X * bD * D = X * D * bD := by grind
    omega
/-- What the end of the loop gives: the two candidates. -/
theorem conv_end {aN aD most p q p1 q1 n d : Int} (h : Conv aN aD most p q p1 q1 n d) (ha : most < aD) (hk : most < q + n / d * q1) (hm : 1 ≤ most) :
    0 < q1 ∧ 0 < n ∧ n ≤ aD ∧ d ≤ aD ∧ q + (most - q) / q1 * q1 ≤ most ∧ 0 < q + (most - q) / q1 * q1 ∧ 0 ≤ (most - q) / q1 ∧ (most - q) / q1 ≤ most ∧ 0 < n - (most - q) / q1 * d ∧ n - (most - q) / q1 * d ≤ n ∧
    ∃ s : Int, (s = 1 ∨ s = -1) ∧ p1 * aD - aN * q1 = s * d ∧ (p + (most - q) / q1 * p1) * aD - aN * (q + (most - q) / q1 * q1) = -(s * (n - (most - q) / q1 * d)) ∧
      p1 * (q + (most - q) / q1 * q1) - (p + (most - q) / q1 * p1) * q1 = s ∧ most < q1 + (q + (most - q) / q1 * q1) := by
  obtain ⟨h1, h2, h3, h4, h5, h6, h7, h8⟩ := h
  rcases h8 with ⟨a1, a2, a3, a4, a5, a6⟩ | ⟨a1, a2⟩
  · rw [a1, Int.mul_zero] at hk
    omega
  have m1 : n / d * d ≤ n := Int.ediv_mul_le n (by omega)
  have m2 := Int.ediv_mul_le (most - q) (show q1 ≠ 0 by omega)
  have m3 : most - q < (most - q) / q1 * q1 + q1 := by
    have := Int.lt_ediv_add_one_mul_self (most - q) a1
    rw [Int.add_mul, Int.one_mul] at this
    exact this
  have m4 : 0 ≤ (most - q) / q1 := Int.ediv_nonneg (by omega) (by omega)
  have m5 : (most - q) / q1 ≤ most - q := Int.ediv_le_self _ (by omega)
  generalize (most - q) / q1 = k2 at *
  generalize n / d = k at *
  have hlt : k2 < k := by
    refine mul_lt_of a1 ?_
    omega
  have x2d : k2 * d + d ≤ k * d := by
    have := Int.mul_le_mul_of_nonneg_right (show k2 + 1 ≤ k by omega) (Int.le_of_lt h5)
    rw [Int.add_mul, Int.one_mul] at this
    exact this
  have k2d : 0 ≤ k2 * d := Int.mul_nonneg m4 (by omega)
  have k2q : 0 ≤ k2 * q1 := Int.mul_nonneg m4 (by omega)
  have qd : 0 ≤ q * d := Int.mul_nonneg h4 (by omega)
  have qn : 1 * n ≤ q1 * n := Int.mul_le_mul_of_nonneg_right (by omega) (by omega)
  have q2p : 0 < q + k2 * q1 := by
    rcases Int.lt_or_le 0 (q + k2 * q1) with h | h
    · exact h
    · omega
  refine ⟨a1, by omega, by omega, by omega, by omega, q2p, m4, by omega, by omega, by omega, p1 * q - p * q1, h3, ?_, ?_, ?_, by omega⟩
  · rw [h1, h2]; grind
  · rw [h1, h2]; grind
  · grind
theorem near_first {aN aD most p q p1 q1 n d : Int} (h : Conv aN aD most p q p1 q1 n d) (ha : most < aD) (hk : most < q + n / d * q1) (hm : 1 ≤ most) (hA : (aN.natAbs : Int) ≤ 1000000000) (hB : aD ≤ 1000000000)
    (hc : d * (q + (most - q) / q1 * q1) ≤ (n - (most - q) / q1 * d) * q1) : Nearest aN aD most p1 q1 := by
  obtain ⟨c1, c2, c3, c4, c5, c6, c7, c8, c9, c10, s, hs, y1, y2, y3, y4⟩ := conv_end h ha hk hm
  have hd := h.d0
  have hq1m := h.q1m
  have e : ((s * d).natAbs : Int) = d := by rcases hs with rfl | rfl <;> omega
  have hnum : ∀ M : Int, (aN.natAbs : Int) ≤ M → aD ≤ M → (p1.natAbs : Int) ≤ M := fun M g1 g2 => num_le (by omega) (show p1 * aD = aN * q1 + s * d by omega) (by omega) (by omega) (by omega) g1 g2
  refine ⟨v_mk ⟨by omega, det_gcd h.det⟩ (by omega) (by unfold absF; have := hnum 1000000000 hA hB; omega), hq1m, fun bN bD b1 b2 => ?_, hnum⟩
  have e2 : ((aN * q1 - p1 * aD).natAbs : Int) = d := by
    have : aN * q1 - p1 * aD = -(s * d) := by omega
    rw [this, Int.natAbs_neg]
    exact e
  rw [e2]
  exact near_core hs y1 y2 y3 c1 c6 hd c9 y4 b1 b2 (Int.le_refl _) hc c1
theorem near_second {aN aD most p q p1 q1 n d : Int} (h : Conv aN aD most p q p1 q1 n d) (ha : most < aD) (hk : most < q + n / d * q1) (hm : 1 ≤ most) (hA : (aN.natAbs : Int) ≤ 1000000000) (hB : aD ≤ 1000000000)
    (hc : (n - (most - q) / q1 * d) * q1 ≤ d * (q + (most - q) / q1 * q1)) : Nearest aN aD most (p + (most - q) / q1 * p1) (q + (most - q) / q1 * q1) := by
  obtain ⟨c1, c2, c3, c4, c5, c6, c7, c8, c9, c10, s, hs, y1, y2, y3, y4⟩ := conv_end h ha hk hm
  have hd := h.d0
  generalize (most - q) / q1 = k2 at *
  have e : ((-(s * (n - k2 * d))).natAbs : Int) = n - k2 * d := by rcases hs with rfl | rfl <;> omega
  have hnum : ∀ M : Int, (aN.natAbs : Int) ≤ M → aD ≤ M → ((p + k2 * p1).natAbs : Int) ≤ M := fun M g1 g2 => num_le (by omega) (show (p + k2 * p1) * aD = aN * (q + k2 * q1) + -(s * (n - k2 * d)) by omega) (by omega) (by omega) (by omega) g1 g2
  have hdet2 : (p + k2 * p1) * q1 - p1 * (q + k2 * q1) = 1 ∨ (p + k2 * p1) * q1 - p1 * (q + k2 * q1) = -1 := by
    have : (p + k2 * p1) * q1 - p1 * (q + k2 * q1) = -s := by omega
    rw [this]
    omega
  refine ⟨v_mk ⟨by omega, det_gcd hdet2⟩ (by omega) (by unfold absF; have := hnum 1000000000 hA hB; omega), c5, fun bN bD b1 b2 => ?_, hnum⟩
  have e2 : ((aN * (q + k2 * q1) - (p + k2 * p1) * aD).natAbs : Int) = n - k2 * d := by
    have : aN * (q + k2 * q1) - (p + k2 * p1) * aD = s * (n - k2 * d) := by omega
    rw [this]
    rcases hs with rfl | rfl <;> omega
  rw [e2]
  exact near_core hs y1 y2 y3 c1 c6 hd c9 y4 b1 b2 hc (Int.le_refl _) c6
end Go.Proofs.YtmjbcoapceoakaaDoor
