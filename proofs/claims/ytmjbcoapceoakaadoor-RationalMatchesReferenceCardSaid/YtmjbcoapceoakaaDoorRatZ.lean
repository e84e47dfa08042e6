/- Rational: Near: what it picks, exactly (plain). -/
import Derived.Test.YtmjbcoapceoakaaDoorRatO
namespace Go.Proofs.YtmjbcoapceoakaaDoor
open Go.RowKit

/-- Neighbours around aN / aD of denominators up to most. -/
def FarZ (aN aD most lp lq hp hq : Int) : Prop := 0 < lq ∧ 0 < hq ∧ lq ≤ most ∧ hq ≤ most ∧ hp * lq - lp * hq = 1 ∧ most < lq + hq ∧ 0 < aN * lq - lp * aD ∧ 0 < hp * aD - aN * hq
def lowZ (aN aD lp lq hp hq : Int) : Prop := (aN * lq - lp * aD) * hq < (hp * aD - aN * hq) * lq ∨ ((aN * lq - lp * aD) * hq = (hp * aD - aN * hq) * lq ∧ lq ≤ hq)
/-- N / D is what is picked. -/
def PickZ (aN aD most N D : Int) : Prop := (aD ≤ most ∧ N = aN ∧ D = aD) ∨ (most < aD ∧ ∃ lp lq hp hq, FarZ aN aD most lp lq hp hq ∧ ((lowZ aN aD lp lq hp hq ∧ N = lp ∧ D = lq) ∨ (¬ lowZ aN aD lp lq hp hq ∧ N = hp ∧ D = hq)))
theorem pos_of_mul {x y : Int} (hy : 0 < y) (h : 0 < x * y) : 0 < x := by
  rcases Int.lt_or_le 0 x with g | g
  · exact g
  · have := Int.mul_le_mul_of_nonneg_right g (Int.le_of_lt hy)
    rw [Int.zero_mul] at this
    omega
theorem far_lo {aN aD most lp lq hp hq lp' lq' hp' hq' : Int} (hD : 0 < aD) (h : FarZ aN aD most lp lq hp hq) (h' : FarZ aN aD most lp' lq' hp' hq') : lp' * lq - lp * lq' ≤ 0 := by
  obtain ⟨a1, a2, a3, a4, a5, a6, a7, a8⟩ := h
  obtain ⟨b1, b2, b3, b4, b5, b6, b7, b8⟩ := h'
  rcases Int.lt_or_le 0 (lp' * lq - lp * lq') with g | g
  · exfalso
    have y0 : 0 < (hp * lq' - lp' * hq) * aD := by
      have e1 : (hp * lq' - lp' * hq) * aD = (hp * aD - aN * hq) * lq' + (aN * lq' - lp' * aD) * hq := by grind
      rw [e1]
      have := Int.mul_pos a8 b1
      have := Int.mul_pos b7 a2
      omega
    have y1 : 0 < hp * lq' - lp' * hq := pos_of_mul hD y0
    have e2 : lq' = lq * (hp * lq' - lp' * hq) + hq * (lp' * lq - lp * lq') := by
      have : lq * (hp * lq' - lp' * hq) + hq * (lp' * lq - lp * lq') = lq' * (hp * lq - lp * hq) := by grind
      rw [this, a5, Int.mul_one]
    have m1 := Int.mul_le_mul_of_nonneg_left (show 1 ≤ hp * lq' - lp' * hq by omega) (Int.le_of_lt a1)
    have m2 := Int.mul_le_mul_of_nonneg_left (show 1 ≤ lp' * lq - lp * lq' by omega) (Int.le_of_lt a2)
    rw [Int.mul_one] at m1 m2
    omega
  · exact g
theorem far_hi {aN aD most lp lq hp hq lp' lq' hp' hq' : Int} (hD : 0 < aD) (h : FarZ aN aD most lp lq hp hq) (h' : FarZ aN aD most lp' lq' hp' hq') : hp * hq' - hp' * hq ≤ 0 := by
  obtain ⟨a1, a2, a3, a4, a5, a6, a7, a8⟩ := h
  obtain ⟨b1, b2, b3, b4, b5, b6, b7, b8⟩ := h'
  rcases Int.lt_or_le 0 (hp * hq' - hp' * hq) with g | g
  · exfalso
    have y0 : 0 < (hp' * lq - lp * hq') * aD := by
      have e1 : (hp' * lq - lp * hq') * aD = (hp' * aD - aN * hq') * lq + (aN * lq - lp * aD) * hq' := by grind
      rw [e1]
      have := Int.mul_pos b8 a1
      have := Int.mul_pos a7 b2
      omega
    have y1 : 0 < hp' * lq - lp * hq' := pos_of_mul hD y0
    have e2 : hq' = lq * (hp * hq' - hp' * hq) + hq * (hp' * lq - lp * hq') := by
      have : lq * (hp * hq' - hp' * hq) + hq * (hp' * lq - lp * hq') = hq' * (hp * lq - lp * hq) := by grind
      rw [this, a5, Int.mul_one]
    have m1 := Int.mul_le_mul_of_nonneg_left (show 1 ≤ hp * hq' - hp' * hq by omega) (Int.le_of_lt a1)
    have m2 := Int.mul_le_mul_of_nonneg_left (show 1 ≤ hp' * lq - lp * hq' by omega) (Int.le_of_lt a2)
    rw [Int.mul_one] at m1 m2
    omega
  · exact g
theorem eq_of_det {p q p' q' u v u' v' : Int} (h1 : u * q - p * v = 1) (h2 : u' * q' - p' * v' = 1) (hq : 0 < q) (hq' : 0 < q') (he : p' * q = p * q') : p = p' ∧ q = q' := by
  have e1 : q' = q * (u * q' - p' * v) := by
    have : q * (u * q' - p' * v) = q' * (u * q - p * v) + v * (p * q' - p' * q) := by grind
    rw [this, h1, he]
    omega
  have e2 : q = q' * (u' * q - p * v') := by
    have : q' * (u' * q - p * v') = q * (u' * q' - p' * v') + v' * (p' * q - p * q') := by grind
    rw [this, h2, he]
    omega
  have l1 : q ≤ q' := Int.le_of_dvd hq' ⟨_, e1⟩
  have l2 : q' ≤ q := Int.le_of_dvd hq ⟨_, e2⟩
  have e3 : q = q' := by omega
  subst e3
  refine ⟨?_, rfl⟩
  have := Int.eq_of_mul_eq_mul_right (by omega) he
  exact this.symm
theorem far_uni {aN aD most lp lq hp hq lp' lq' hp' hq' : Int} (hD : 0 < aD) (h : FarZ aN aD most lp lq hp hq) (h' : FarZ aN aD most lp' lq' hp' hq') : lp = lp' ∧ lq = lq' ∧ hp = hp' ∧ hq = hq' := by
  have g1 := far_lo hD h h'
  have g2 := far_lo hD h' h
  have g3 := far_hi hD h h'
  have g4 := far_hi hD h' h
  obtain ⟨a1, a2, a3, a4, a5, a6, a7, a8⟩ := h
  obtain ⟨b1, b2, b3, b4, b5, b6, b7, b8⟩ := h'
  obtain ⟨e1, e2⟩ := eq_of_det a5 b5 a1 b1 (by omega)
  have a5' : -lp * hq - -hp * lq = 1 := by rw [Int.neg_mul, Int.neg_mul]; omega
  have b5' : -lp' * hq' - -hp' * lq' = 1 := by rw [Int.neg_mul, Int.neg_mul]; omega
  obtain ⟨e3, e4⟩ := eq_of_det a5' b5' a2 b2 (by rw [Int.neg_mul, Int.neg_mul]; omega)
  exact ⟨e1, e2, by omega, e4⟩
theorem pick_uni {aN aD most N D N' D' : Int} (hD : 0 < aD) (h : PickZ aN aD most N D) (h' : PickZ aN aD most N' D') : N = N' ∧ D = D' := by
  rcases h with ⟨h0, rfl, rfl⟩ | ⟨h0, lp, lq, hp, hq, hF, hc⟩
  · rcases h' with ⟨_, rfl, rfl⟩ | ⟨h0', _⟩
    · exact ⟨rfl, rfl⟩
    · omega
  · rcases h' with ⟨h0', _⟩ | ⟨h0', lp', lq', hp', hq', hF', hc'⟩
    · omega
    · obtain ⟨rfl, rfl, rfl, rfl⟩ := far_uni hD hF hF'
      rcases hc with ⟨c1, rfl, rfl⟩ | ⟨c1, rfl, rfl⟩ <;> rcases hc' with ⟨c2, rfl, rfl⟩ | ⟨c2, rfl, rfl⟩
      · exact ⟨rfl, rfl⟩
      · exact absurd c1 c2
      · exact absurd c2 c1
      · exact ⟨rfl, rfl⟩
/-- The state of the reference's loop. -/
def FarW (r D most lp lq hp hq : Int) : Prop := 0 < lq ∧ 0 < hq ∧ lq ≤ most ∧ hq ≤ most ∧ hp * lq - lp * hq = 1 ∧ 0 < r * lq - lp * D ∧ 0 < hp * D - r * hq
theorem farw_start {r D most : Int} (h0 : 0 < r) (h1 : r < D) (hm : 1 ≤ most) : FarW r D most 0 1 1 1 := ⟨by omega, by omega, hm, hm, by omega, by omega, by omega⟩
theorem farw_lo {r D most lp lq hp hq k : Int} (h : FarW r D most lp lq hp hq) (hk0 : 0 ≤ k) (hk1 : k ≤ (r * lq - lp * D - 1) / (hp * D - r * hq)) (hk2 : k ≤ (most - lq) / hq) : FarW r D most (lp + k * hp) (lq + k * hq) hp hq := by
  obtain ⟨a1, a2, a3, a4, a5, a6, a7⟩ := h
  have m1 : k * (hp * D - r * hq) ≤ r * lq - lp * D - 1 := Int.le_trans (Int.mul_le_mul_of_nonneg_right hk1 (by omega)) (Int.ediv_mul_le _ (by omega))
  have m2 : k * hq ≤ most - lq := Int.le_trans (Int.mul_le_mul_of_nonneg_right hk2 (by omega)) (Int.ediv_mul_le _ (by omega))
  have m3 := Int.mul_nonneg hk0 (Int.le_of_lt a2)
  refine ⟨by omega, a2, by omega, a4, ?_, ?_, a7⟩
  · have : hp * (lq + k * hq) - (lp + k * hp) * hq = hp * lq - lp * hq := by grind
    omega
  · have : r * (lq + k * hq) - (lp + k * hp) * D = r * lq - lp * D - k * (hp * D - r * hq) := by grind
    omega
theorem farw_hi {r D most lp lq hp hq k : Int} (h : FarW r D most lp lq hp hq) (hk0 : 0 ≤ k) (hk1 : k ≤ (hp * D - r * hq - 1) / (r * lq - lp * D)) (hk2 : k ≤ (most - hq) / lq) : FarW r D most lp lq (hp + k * lp) (hq + k * lq) := by
  obtain ⟨a1, a2, a3, a4, a5, a6, a7⟩ := h
  have m1 : k * (r * lq - lp * D) ≤ hp * D - r * hq - 1 := Int.le_trans (Int.mul_le_mul_of_nonneg_right hk1 (by omega)) (Int.ediv_mul_le _ (by omega))
  have m2 : k * lq ≤ most - hq := Int.le_trans (Int.mul_le_mul_of_nonneg_right hk2 (by omega)) (Int.ediv_mul_le _ (by omega))
  have m3 := Int.mul_nonneg hk0 (Int.le_of_lt a1)
  refine ⟨a1, by omega, a3, by omega, ?_, a6, ?_⟩
  · have : (hp + k * lp) * lq - lp * (hq + k * lq) = hp * lq - lp * hq := by grind
    omega
  · have : (hp + k * lp) * D - r * (hq + k * lq) = hp * D - r * hq - k * (r * lq - lp * D) := by grind
    omega
/-- Where neither side moves the two are neighbours. -/
theorem farw_end {r D most lp lq hp hq : Int} (h : FarW r D most lp lq hp hq) (hg : Int.gcd r D = 1) (hD : most < D)
    (hk : min ((r * lq - lp * D - 1) / (hp * D - r * hq)) ((most - lq) / hq) = 0) (hm : min ((hp * D - r * hq - 1) / (r * lq - lp * D)) ((most - hq) / lq) = 0) : FarZ r D most lp lq hp hq := by
  obtain ⟨a1, a2, a3, a4, a5, a6, a7⟩ := h
  refine ⟨a1, a2, a3, a4, a5, ?_, a6, a7⟩
  rcases Int.lt_or_le most (lq + hq) with g | g
  · exact g
  · exfalso
    have b1 : 1 ≤ (most - lq) / hq := Int.le_ediv_of_mul_le a2 (by omega)
    have b2 : 1 ≤ (most - hq) / lq := Int.le_ediv_of_mul_le a1 (by omega)
    have c1 : (r * lq - lp * D - 1) / (hp * D - r * hq) = 0 := by omega
    have c2 : (hp * D - r * hq - 1) / (r * lq - lp * D) = 0 := by omega
    have d1 : r * lq - lp * D - 1 < hp * D - r * hq := by
      have := Int.lt_ediv_add_one_mul_self (r * lq - lp * D - 1) a7
      rw [c1] at this
      omega
    have d2 : hp * D - r * hq - 1 < r * lq - lp * D := by
      have := Int.lt_ediv_add_one_mul_self (hp * D - r * hq - 1) a6
      rw [c2] at this
      omega
    have e1 : r * (lq + hq) = D * (hp + lp) := by
      have : r * (lq + hq) - D * (hp + lp) = (r * lq - lp * D) - (hp * D - r * hq) := by grind
      omega
    have e2 : D ∣ r * (lq + hq) := ⟨_, e1⟩
    have e3 : D ∣ lq + hq := by
      have g1 : D.natAbs ∣ r.natAbs * (lq + hq).natAbs := by rw [← Int.natAbs_mul]; exact Int.natAbs_dvd_natAbs.2 e2
      have g2 : Nat.Coprime D.natAbs r.natAbs := by
        have : Nat.gcd r.natAbs D.natAbs = 1 := hg
        rw [Nat.gcd_comm] at this
        exact this
      exact Int.natAbs_dvd_natAbs.1 (g2.dvd_of_dvd_mul_left g1)
    have := Int.le_of_dvd (by omega) e3
    omega
theorem farz_shift {r D most lp lq hp hq : Int} (f : Int) (h : FarZ r D most lp lq hp hq) : FarZ (r + f * D) D most (f * lq + lp) lq (f * hq + hp) hq ∧ (r + f * D) * lq - (f * lq + lp) * D = r * lq - lp * D ∧ (f * hq + hp) * D - (r + f * D) * hq = hp * D - r * hq := by
  obtain ⟨a1, a2, a3, a4, a5, a6, a7, a8⟩ := h
  have e1 : (r + f * D) * lq - (f * lq + lp) * D = r * lq - lp * D := by grind
  have e2 : (f * hq + hp) * D - (r + f * D) * hq = hp * D - r * hq := by grind
  refine ⟨⟨a1, a2, a3, a4, ?_, a6, by omega, by omega⟩, e1, e2⟩
  have : (f * hq + hp) * lq - (f * lq + lp) * hq = hp * lq - lp * hq := by grind
  omega
theorem farz_sides {N D most lp lq hp hq : Int} (h : FarZ N D most lp lq hp hq) : N * lq - lp * D ≤ D ∧ hp * D - N * hq ≤ D := by
  obtain ⟨a1, a2, a3, a4, a5, a6, a7, a8⟩ := h
  have e : (N * lq - lp * D) * hq + (hp * D - N * hq) * lq = D := by
    have : (N * lq - lp * D) * hq + (hp * D - N * hq) * lq = D * (hp * lq - lp * hq) := by grind
    rw [this, a5, Int.mul_one]
  have m1 := Int.mul_le_mul_of_nonneg_left (show 1 ≤ hq by omega) (Int.le_of_lt a7)
  have m2 := Int.mul_le_mul_of_nonneg_left (show 1 ≤ lq by omega) (Int.le_of_lt a8)
  rw [Int.mul_one] at m1 m2
  omega
/-- The state of the program's loop, with what its start leaves. -/
def ConvZ (aN aD most p q p1 q1 n d : Int) : Prop := Conv aN aD most p q p1 q1 n d ∧ (q = 0 → p = 1)
def NearZ (aN aD most N D : Int) : Prop := Nearest aN aD most N D ∧ PickZ aN aD most N D
theorem nearz_self {aN aD most : Int} (hv : vR aN aD = true) (h : aD ≤ most) : NearZ aN aD most aN aD := ⟨nearest_self hv h, Or.inl ⟨h, rfl, rfl⟩⟩
theorem convz_start {aN aD most : Int} (h : 0 < aD) (hm : 1 ≤ most) : ConvZ aN aD most 0 1 1 0 aN aD := ⟨conv_start h hm, fun h => by omega⟩
theorem convz_step {aN aD most p q p1 q1 n d : Int} (h : ConvZ aN aD most p q p1 q1 n d) (hg : Int.gcd aN aD = 1) (ha : most < aD) (hk : q + n / d * q1 ≤ most) :
    ConvZ aN aD most p1 q1 (p + n / d * p1) (q + n / d * q1) d (n - n / d * d) ∧ n - n / d * d < d := by
  obtain ⟨h1, h2⟩ := conv_step h.1 hg ha hk
  refine ⟨⟨h1, fun h0 => ?_⟩, h2⟩
  rcases h.1.st with ⟨a1, a2, a3, a4, a5, a6⟩ | ⟨a1, a2⟩
  · exact a4
  · omega
/-- The end of the loop: the neighbours, and how equal distances lie. -/
theorem convz_end {aN aD most p q p1 q1 n d : Int} (h : ConvZ aN aD most p q p1 q1 n d) (ha : most < aD) (hk : most < q + n / d * q1) (hm : 1 ≤ most) :
    (FarZ aN aD most p1 q1 (p + (most - q) / q1 * p1) (q + (most - q) / q1 * q1) ∧ aN * q1 - p1 * aD = d ∧ (p + (most - q) / q1 * p1) * aD - aN * (q + (most - q) / q1 * q1) = n - (most - q) / q1 * d ∧
      (d * (q + (most - q) / q1 * q1) = (n - (most - q) / q1 * d) * q1 → q1 ≤ q + (most - q) / q1 * q1)) ∨
    (FarZ aN aD most (p + (most - q) / q1 * p1) (q + (most - q) / q1 * q1) p1 q1 ∧ p1 * aD - aN * q1 = d ∧ aN * (q + (most - q) / q1 * q1) - (p + (most - q) / q1 * p1) * aD = n - (most - q) / q1 * d ∧
      (d * (q + (most - q) / q1 * q1) = (n - (most - q) / q1 * d) * q1 → q1 < q + (most - q) / q1 * q1)) := by
  obtain ⟨c1, c2, c3, c4, c5, c6, c7, c8, c9, c10, s, hs, y1, y2, y3, y4⟩ := conv_end h.1 ha hk hm
  have hd := h.1.d0
  have hq1m := h.1.q1m
  have hq0 := h.1.q0
  have hz := h.2
  have hdn : d < n := by
    rcases h.1.st with ⟨a1, _⟩ | ⟨_, a2⟩
    · omega
    · exact a2
  have hdet := h.1.det
  -- the second distance is at least the first
  have hXd : d ≤ n - (most - q) / q1 * d := by
    have m1 : n / d * d ≤ n := Int.ediv_mul_le n (by omega)
    have m3 : most - q < (most - q) / q1 * q1 + q1 := by
      have := Int.lt_ediv_add_one_mul_self (most - q) c1
      rw [Int.add_mul, Int.one_mul] at this
      exact this
    have m2 := Int.ediv_mul_le (most - q) (show q1 ≠ 0 by omega)
    have hlt : (most - q) / q1 < n / d := mul_lt_of c1 (by omega)
    have := Int.mul_le_mul_of_nonneg_right (show (most - q) / q1 + 1 ≤ n / d by omega) (Int.le_of_lt hd)
    rw [Int.add_mul, Int.one_mul] at this
    omega
  have htie : d * (q + (most - q) / q1 * q1) = (n - (most - q) / q1 * d) * q1 → q1 ≤ q + (most - q) / q1 * q1 ∧ (q1 = q + (most - q) / q1 * q1 → d = n - (most - q) / q1 * d) := by
    intro e
    have m := Int.mul_le_mul_of_nonneg_right hXd (Int.le_of_lt c1)
    have e' : (q + (most - q) / q1 * q1) * d = d * (q + (most - q) / q1 * q1) := Int.mul_comm _ _
    have e'' : q1 * d = d * q1 := Int.mul_comm _ _
    refine ⟨mul_le_of hd (by rw [e', e'', e]; exact m), fun e2 => ?_⟩
    rw [← e2] at e
    exact Int.eq_of_mul_eq_mul_right (by omega) e
  generalize hk2 : (most - q) / q1 = k2 at *
  rcases hs with rfl | rfl
  · right
    refine ⟨⟨c6, c1, c5, hq1m, by omega, by omega, by omega, by omega⟩, by omega, by omega, fun e => ?_⟩
    obtain ⟨t1, t2⟩ := htie e
    rcases Int.lt_or_le q1 (q + k2 * q1) with g | g
    · exact g
    · exfalso
      have e1 : q1 = q + k2 * q1 := by omega
      have e2 := t2 e1
      rcases Int.lt_or_le 0 k2 with g2 | g2
      · have m := Int.mul_le_mul_of_nonneg_right (show 1 ≤ k2 by omega) (Int.le_of_lt c1)
        rw [Int.one_mul] at m
        have q00 : q = 0 := by omega
        have p00 := hz q00
        have k1 : k2 = 1 := by
          have : (k2 - 1) * q1 = 0 := by rw [Int.sub_mul, Int.one_mul]; omega
          rcases Int.mul_eq_zero.1 this with g3 | g3 <;> omega
        rw [k1, q00, p00] at y3
        have : p1 * (0 + 1 * q1) - (1 + 1 * p1) * q1 = -q1 := by grind
        omega
      · have k0 : k2 = 0 := by omega
        rw [k0, Int.zero_mul] at e2
        omega
  · left
    refine ⟨⟨c1, c6, hq1m, c5, by omega, by omega, by omega, by omega⟩, by omega, by omega, fun e => (htie e).1⟩
theorem nearz_first {aN aD most p q p1 q1 n d : Int} (h : ConvZ aN aD most p q p1 q1 n d) (ha : most < aD) (hk : most < q + n / d * q1) (hm : 1 ≤ most) (hA : (aN.natAbs : Int) ≤ 1000000000) (hB : aD ≤ 1000000000)
    (hc : d * (q + (most - q) / q1 * q1) ≤ (n - (most - q) / q1 * d) * q1) : NearZ aN aD most p1 q1 := by
  refine ⟨near_first h.1 ha hk hm hA hB hc, Or.inr ⟨ha, ?_⟩⟩
  rcases convz_end h ha hk hm with ⟨hF, e1, e2, e3⟩ | ⟨hF, e1, e2, e3⟩
  · refine ⟨_, _, _, _, hF, Or.inl ⟨?_, rfl, rfl⟩⟩
    unfold lowZ
    rw [e1, e2]
    rcases Int.lt_or_eq_of_le hc with g | g
    · exact Or.inl g
    · exact Or.inr ⟨g, e3 g⟩
  · refine ⟨_, _, _, _, hF, Or.inr ⟨?_, rfl, rfl⟩⟩
    unfold lowZ
    rw [e1, e2]
    rintro (g | ⟨g, g'⟩)
    · omega
    · have := e3 g.symm
      omega
theorem nearz_second {aN aD most p q p1 q1 n d : Int} (h : ConvZ aN aD most p q p1 q1 n d) (ha : most < aD) (hk : most < q + n / d * q1) (hm : 1 ≤ most) (hA : (aN.natAbs : Int) ≤ 1000000000) (hB : aD ≤ 1000000000)
    (hc : (n - (most - q) / q1 * d) * q1 < d * (q + (most - q) / q1 * q1)) : NearZ aN aD most (p + (most - q) / q1 * p1) (q + (most - q) / q1 * q1) := by
  refine ⟨near_second h.1 ha hk hm hA hB (by omega), Or.inr ⟨ha, ?_⟩⟩
  rcases convz_end h ha hk hm with ⟨hF, e1, e2, e3⟩ | ⟨hF, e1, e2, e3⟩
  · refine ⟨_, _, _, _, hF, Or.inr ⟨?_, rfl, rfl⟩⟩
    unfold lowZ
    rw [e1, e2]
    rintro (g | ⟨g, g'⟩) <;> omega
  · refine ⟨_, _, _, _, hF, Or.inl ⟨?_, rfl, rfl⟩⟩
    unfold lowZ
    rw [e1, e2]
    exact Or.inl hc
end Go.Proofs.YtmjbcoapceoakaaDoor
