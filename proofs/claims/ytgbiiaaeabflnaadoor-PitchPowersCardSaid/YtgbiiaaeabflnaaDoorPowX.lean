/- PitchPowers: the plain law (genlaw03.py prints it). -/
import Derived.Test.YtgbiiaaeabflnaaDoorHead03
import Derived.Test.YtgbiiaaeabflnaaDoorLawTrans
import Derived.Deep.Cut
namespace Go.Proofs.YtgbiiaaeabflnaaDoor
open Go Go.RowKit

theorem pk_of {a n d : Int} (h : pwK a n d = true) : pq a n d * d = a * n := by
  unfold pwK at h
  simp only [decide_eq_true_eq] at h
  have := Int.mul_tdiv_add_tmod (a * n) d
  unfold pq
  rw [h, Int.add_zero, Int.mul_comm] at this
  exact this
theorem pw_parts {a0 a1 a2 a3 a4 a5 n d : Int} (h : pwE a0 a1 a2 a3 a4 a5 n d = 0) : pwG a0 a1 a2 a3 a4 a5 n d = true ∧ (pwK a0 n d = true ∧ pwK a1 n d = true ∧ pwK a2 n d = true ∧ pwK a3 n d = true ∧ pwK a4 n d = true ∧ pwK a5 n d = true) ∧ pwS a0 a1 a2 a3 a4 a5 n d = true := by
  unfold pwE at h
  cases hG : pwG a0 a1 a2 a3 a4 a5 n d with
  | false => rw [hG] at h; simp at h
  | true =>
    cases hA : pwA a0 a1 a2 a3 a4 a5 n d with
    | false => rw [hG, hA] at h; simp at h
    | true =>
      cases hS : pwS a0 a1 a2 a3 a4 a5 n d with
      | false => rw [hG, hA, hS] at h; simp at h
      | true =>
        unfold pwA at hA
        simp only [Bool.and_eq_true] at hA
        obtain ⟨⟨⟨⟨⟨h1, h2⟩, h3⟩, h4⟩, h5⟩, h6⟩ := hA
        exact ⟨rfl, ⟨h1, h2, h3, h4, h5, h6⟩, rfl⟩
theorem pwV_ok {a0 a1 a2 a3 a4 a5 n d : Int} (h : pwE a0 a1 a2 a3 a4 a5 n d = 0) : pwV a0 a1 a2 a3 a4 a5 n d = .tuple #[.agg #[.int .i64 (pq a0 n d), .int .i64 (pq a1 n d), .int .i64 (pq a2 n d), .int .i64 (pq a3 n d), .int .i64 (pq a4 n d), .int .i64 (pq a5 n d)], .int .i64 0] := by
  unfold pwV
  rw [h]
  rfl
theorem wi_mul {x n k B : Int} (hB : 0 ≤ B) (h0 : 0 ≤ k) (h1 : k ≤ n) (h : wi (x * n) B = true) : wi (x * k) B = true := by
  have hh := wi_of h
  rcases Int.le_total 0 x with hx | hx
  · have a1 := Int.mul_le_mul_of_nonneg_left h1 hx
    have a2 := Int.mul_nonneg hx h0
    exact wi_mk (by omega) (by omega)
  · have a1 := Int.mul_le_mul_of_nonpos_left hx h1
    have a2 := Int.mul_nonpos_of_nonpos_of_nonneg hx h0
    exact wi_mk (by omega) (by omega)
theorem pV_mul {a0 a1 a2 a3 a4 a5 n k : Int} (h0 : 0 ≤ k) (h1 : k ≤ n) (h : pV (a0 * n) (a1 * n) (a2 * n) (a3 * n) (a4 * n) (a5 * n) 576 = true) : pV (a0 * k) (a1 * k) (a2 * k) (a3 * k) (a4 * k) (a5 * k) 576 = true := by
  obtain ⟨g1, g2, g3, g4, g5, g6⟩ := pV_of h
  unfold pV
  rw [wi_mul (by omega) h0 h1 g1, wi_mul (by omega) h0 h1 g2, wi_mul (by omega) h0 h1 g3, wi_mul (by omega) h0 h1 g4, wi_mul (by omega) h0 h1 g5, wi_mul (by omega) h0 h1 g6]
  rfl
theorem pow_one {r0 r1 r2 r3 r4 r5 p0 p1 p2 p3 p4 p5 m : Int} (hr : pV r0 r1 r2 r3 r4 r5 576 = true) (h0 : -576 ≤ m) (h1 : m ≤ 576) (hm : r0 * m = p0 ∧ r1 * m = p1 ∧ r2 * m = p2 ∧ r3 * m = p3 ∧ r4 * m = p4 ∧ r5 * m = p5) (hp : pV p0 p1 p2 p3 p4 p5 576 = true) : pwV r0 r1 r2 r3 r4 r5 m 1 = .tuple #[.agg #[.int .i64 p0, .int .i64 p1, .int .i64 p2, .int .i64 p3, .int .i64 p4, .int .i64 p5], .int .i64 0] := by
  obtain ⟨e0, e1, e2, e3, e4, e5⟩ := hm
  have q : ∀ x y : Int, x * m = y → pq x m 1 = y ∧ pwK x m 1 = true := fun x y h => by
    constructor
    · unfold pq; rw [h, Int.tdiv_one]
    · unfold pwK; rw [h]; simp
  have hG : pwG r0 r1 r2 r3 r4 r5 m 1 = true := by
    unfold pwG
    rw [hr]
    simp
    omega
  have hE : pwE r0 r1 r2 r3 r4 r5 m 1 = 0 := by
    unfold pwE
    rw [if_pos hG]
    have hA : pwA r0 r1 r2 r3 r4 r5 m 1 = true := by
      unfold pwA
      rw [(q _ _ e0).2, (q _ _ e1).2, (q _ _ e2).2, (q _ _ e3).2, (q _ _ e4).2, (q _ _ e5).2]
      rfl
    have hS : pwS r0 r1 r2 r3 r4 r5 m 1 = true := by
      unfold pwS
      rw [(q _ _ e0).1, (q _ _ e1).1, (q _ _ e2).1, (q _ _ e3).1, (q _ _ e4).1, (q _ _ e5).1]
      exact hp
    rw [if_pos hA, if_pos hS]
  rw [pwV_ok hE, (q _ _ e0).1, (q _ _ e1).1, (q _ _ e2).1, (q _ _ e3).1, (q _ _ e4).1, (q _ _ e5).1]
theorem cmP_scale {a0 a1 a2 a3 a4 a5 b0 b1 b2 b3 b4 b5 p0 p1 p2 p3 p4 p5 q0 q1 q2 q3 q4 q5 : Int} {n d : Nat} (hn : 0 < n) (hd : 0 < d) (h1 : p0 * d = a0 * n ∧ p1 * d = a1 * n ∧ p2 * d = a2 * n ∧ p3 * d = a3 * n ∧ p4 * d = a4 * n ∧ p5 * d = a5 * n) (h2 : q0 * d = b0 * n ∧ q1 * d = b1 * n ∧ q2 * d = b2 * n ∧ q3 * d = b3 * n ∧ q4 * d = b4 * n ∧ q5 * d = b5 * n) : cmP p0 p1 p2 p3 p4 p5 q0 q1 q2 q3 q4 q5 = cmP a0 a1 a2 a3 a4 a5 b0 b1 b2 b3 b4 b5 := by
  obtain ⟨e0, e1, e2, e3, e4, e5⟩ := h1
  obtain ⟨f0, f1, f2, f3, f4, f5⟩ := h2
  rw [← cmP_pow p0 p1 p2 p3 p4 p5 q0 q1 q2 q3 q4 q5 hd, ← cmP_pow a0 a1 a2 a3 a4 a5 b0 b1 b2 b3 b4 b5 hn, e0, e1, e2, e3, e4, e5, f0, f1, f2, f3, f4, f5]
theorem pow_back {a p r n d : Int} (hd : 1 ≤ d) (h1 : p * d = a * n) (h2 : r * d = a) : r * n = p := by
  have h3 : p * d = r * n * d := by rw [h1, ← h2]; grind
  exact (Int.eq_of_mul_eq_mul_right (by omega) h3).symm
theorem mul_step {a0 a1 a2 a3 a4 a5 n : Int} (k : Nat) (h : (k : Int) < n) (hv : pV (a0 * n) (a1 * n) (a2 * n) (a3 * n) (a4 * n) (a5 * n) 576 = true) (ha : pV a0 a1 a2 a3 a4 a5 576 = true) : cbV 1 (a0 * (k : Int)) (a1 * (k : Int)) (a2 * (k : Int)) (a3 * (k : Int)) (a4 * (k : Int)) (a5 * (k : Int)) a0 a1 a2 a3 a4 a5 = .tuple #[.agg #[.int .i64 (a0 * ((k + 1 : Nat) : Int)), .int .i64 (a1 * ((k + 1 : Nat) : Int)), .int .i64 (a2 * ((k + 1 : Nat) : Int)), .int .i64 (a3 * ((k + 1 : Nat) : Int)), .int .i64 (a4 * ((k + 1 : Nat) : Int)), .int .i64 (a5 * ((k + 1 : Nat) : Int))], .int .i64 0] := by
  have e : ∀ x : Int, x * (k : Int) + 1 * x = x * ((k + 1 : Nat) : Int) := fun x => by
    rw [Int.natCast_add, Int.mul_add]
    omega
  have hE : cbE 1 (a0 * (k : Int)) (a1 * (k : Int)) (a2 * (k : Int)) (a3 * (k : Int)) (a4 * (k : Int)) (a5 * (k : Int)) a0 a1 a2 a3 a4 a5 = 0 := cb_mk (pV_mul (by omega) (by omega) hv) ha (by
    unfold cbS
    rw [e, e, e, e, e, e]
    exact pV_mul (by omega) (by omega) hv)
  unfold cbV
  rw [hE]
  unfold cb
  rw [if_pos rfl, if_pos rfl, if_pos rfl, if_pos rfl, if_pos rfl, if_pos rfl, e, e, e, e, e, e]
theorem powr (a0 a1 a2 a3 a4 a5 b0 b1 b2 b3 b4 b5 n d : Int) : ∃ p0 p1 p2 p3 p4 p5 e q0 q1 q2 q3 q4 q5 f : Int, pwV a0 a1 a2 a3 a4 a5 n d = .tuple #[.agg #[.int .i64 p0, .int .i64 p1, .int .i64 p2, .int .i64 p3, .int .i64 p4, .int .i64 p5], .int .i64 e] ∧ pwV b0 b1 b2 b3 b4 b5 n d = .tuple #[.agg #[.int .i64 q0, .int .i64 q1, .int .i64 q2, .int .i64 q3, .int .i64 q4, .int .i64 q5], .int .i64 f] ∧
    (e = 0 → f = 0 → 1 ≤ n → ∃ x r0 r1 r2 r3 r4 r5 g : Int, pcV a0 a1 a2 a3 a4 a5 b0 b1 b2 b3 b4 b5 = .tuple #[.int .i64 x, .int .i64 0] ∧ pcV p0 p1 p2 p3 p4 p5 q0 q1 q2 q3 q4 q5 = .tuple #[.int .i64 x, .int .i64 0] ∧ pwV a0 a1 a2 a3 a4 a5 1 d = .tuple #[.agg #[.int .i64 r0, .int .i64 r1, .int .i64 r2, .int .i64 r3, .int .i64 r4, .int .i64 r5], .int .i64 g] ∧ (g = 0 → pwV r0 r1 r2 r3 r4 r5 d 1 = .tuple #[.agg #[.int .i64 a0, .int .i64 a1, .int .i64 a2, .int .i64 a3, .int .i64 a4, .int .i64 a5], .int .i64 0] ∧ pwV r0 r1 r2 r3 r4 r5 n 1 = .tuple #[.agg #[.int .i64 p0, .int .i64 p1, .int .i64 p2, .int .i64 p3, .int .i64 p4, .int .i64 p5], .int .i64 0]) ∧
      (d = 1 → (a0 * n = p0 ∧ a1 * n = p1 ∧ a2 * n = p2 ∧ a3 * n = p3 ∧ a4 * n = p4 ∧ a5 * n = p5) ∧ ∀ k : Nat, (k : Int) < n → cbV 1 (a0 * (k : Int)) (a1 * (k : Int)) (a2 * (k : Int)) (a3 * (k : Int)) (a4 * (k : Int)) (a5 * (k : Int)) a0 a1 a2 a3 a4 a5 = .tuple #[.agg #[.int .i64 (a0 * ((k + 1 : Nat) : Int)), .int .i64 (a1 * ((k + 1 : Nat) : Int)), .int .i64 (a2 * ((k + 1 : Nat) : Int)), .int .i64 (a3 * ((k + 1 : Nat) : Int)), .int .i64 (a4 * ((k + 1 : Nat) : Int)), .int .i64 (a5 * ((k + 1 : Nat) : Int))], .int .i64 0])) := by
  refine ⟨_, _, _, _, _, _, _, _, _, _, _, _, _, _, rfl, rfl, fun he hf hn => ?_⟩
  obtain ⟨G1, ⟨K0, K1, K2, K3, K4, K5⟩, S1⟩ := pw_parts he
  obtain ⟨G2, ⟨L0, L1, L2, L3, L4, L5⟩, S2⟩ := pw_parts hf
  obtain ⟨v1, g1, g2, g3, g4⟩ := pwG_of G1
  obtain ⟨v2, _, _, _, _⟩ := pwG_of G2
  rw [he, hf]
  have t : ∀ x : Int, pw 0 x n d = pq x n d := fun x => rfl
  simp only [t]
  obtain ⟨N, rfl⟩ : ∃ N : Nat, n = (N : Int) := ⟨n.toNat, by omega⟩
  obtain ⟨D, rfl⟩ : ∃ D : Nat, d = (D : Int) := ⟨d.toNat, by omega⟩
  refine ⟨cmP a0 a1 a2 a3 a4 a5 b0 b1 b2 b3 b4 b5, _, _, _, _, _, _, _, pc_ok v1 v2, ?_, rfl, fun hg => ?_, fun hd => ?_⟩
  · rw [pc_ok S1 S2, cmP_scale (by omega) (by omega) ⟨pk_of K0, pk_of K1, pk_of K2, pk_of K3, pk_of K4, pk_of K5⟩ ⟨pk_of L0, pk_of L1, pk_of L2, pk_of L3, pk_of L4, pk_of L5⟩]
  · obtain ⟨G3, ⟨M0, M1, M2, M3, M4, M5⟩, S3⟩ := pw_parts hg
    rw [hg]
    have t' : ∀ x : Int, pw 0 x 1 (D : Int) = pq x 1 D := fun x => rfl
    simp only [t']
    have u : ∀ x : Int, pwK x 1 D = true → pq x 1 D * (D : Int) = x := fun x h => by rw [pk_of h, Int.mul_one]
    refine ⟨pow_one S3 (by omega) (by omega) ⟨u _ M0, u _ M1, u _ M2, u _ M3, u _ M4, u _ M5⟩ v1, pow_one S3 (by omega) (by omega) ⟨pow_back g3 (pk_of K0) (u _ M0), pow_back g3 (pk_of K1) (u _ M1), pow_back g3 (pk_of K2) (u _ M2), pow_back g3 (pk_of K3) (u _ M3), pow_back g3 (pk_of K4) (u _ M4), pow_back g3 (pk_of K5) (u _ M5)⟩ S1⟩
  · obtain rfl : D = 1 := by omega
    have o : ∀ x : Int, pwK x N ((1 : Nat) : Int) = true → x * (N : Int) = pq x N ((1 : Nat) : Int) := fun x h => by
      have := pk_of h
      rw [← this]
      omega
    refine ⟨⟨o _ K0, o _ K1, o _ K2, o _ K3, o _ K4, o _ K5⟩, fun k hk => mul_step (n := (N : Int)) k hk ?_ v1⟩
    rw [o _ K0, o _ K1, o _ K2, o _ K3, o _ K4, o _ K5]
    exact S1
end Go.Proofs.YtgbiiaaeabflnaaDoor
