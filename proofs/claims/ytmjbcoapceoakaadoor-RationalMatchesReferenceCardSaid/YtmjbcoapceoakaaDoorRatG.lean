/- Rational: between: the simplest number of an interval of positive numbers. -/
import Derived.Test.YtmjbcoapceoakaaDoorRatF
import Derived.Test.YtmjbcoapceoakaaDoorRatQ
namespace Go.Proofs.YtmjbcoapceoakaaDoor
open Go.RowKit

/-- s lies from a to b, and no number from a to b has a lesser numerator or denominator. -/
def Least (aN aD bN bD sN sD : Int) : Prop := 0 < sN ∧ 0 < sD ∧ aN * sD ≤ sN * aD ∧ sN * bD ≤ bN * sD ∧ ∀ x y : Int, 0 < y → aN * y ≤ x * aD → x * bD ≤ bN * y → sN ≤ x ∧ sD ≤ y
theorem mul_le_of {a b c : Int} (hc : 0 < c) (h : a * c ≤ b * c) : a ≤ b := Int.le_of_mul_le_mul_right h hc
theorem mul_lt_of {a b c : Int} (hc : 0 < c) (h : a * c < b * c) : a < b := Int.lt_of_mul_lt_mul_right h (Int.le_of_lt hc)
theorem least_whole {aN aD bN bD k : Int} (ha : 0 < aN) (hd : 0 < aD) (hb : 0 < bD) (h : aN * bD ≤ bN * aD) (hk : k * aD = aN) : Least aN aD bN bD k 1 := by
  have k0 : 0 < k := by
    rcases Int.lt_or_le 0 k with h | h
    · exact h
    · have := Int.mul_le_mul_of_nonneg_right h (Int.le_of_lt hd)
      omega
  refine ⟨k0, by omega, by omega, ?_, ?_⟩
  · rw [Int.mul_one]
    refine mul_le_of hd ?_
    rw [← hk] at h
    have : k * bD * aD = k * aD * bD := by grind
    rw [this]
    omega
  · intro x y hy h1 h2
    refine ⟨?_, by omega⟩
    have h3 : k * y ≤ x := mul_le_of hd (by have : k * y * aD = k * aD * y := by grind
                                            rw [this, hk]; exact h1)
    have h4 : k * 1 ≤ k * y := Int.mul_le_mul_of_nonneg_left (by omega) (by omega)
    omega
theorem least_next {aN aD bN bD k : Int} (hd : 0 < aD) (k0 : 0 ≤ k) (h1 : k * aD < aN) (h2 : aN < (k + 1) * aD) (h3 : (k + 1) * bD ≤ bN) : Least aN aD bN bD (k + 1) 1 := by
  refine ⟨by omega, by omega, by omega, by omega, ?_⟩
  intro x y hy p1 p2
  refine ⟨?_, by omega⟩
  have h4 : k * y < x := mul_lt_of hd (by
    have e : k * y * aD = k * aD * y := by grind
    rw [e]
    have := Int.mul_lt_mul_of_pos_right h1 hy
    omega)
  have h5 : k * 1 ≤ k * y := Int.mul_le_mul_of_nonneg_left (by omega) k0
  omega
theorem least_rec {aN aD bN bD k rN rD : Int} (hd : 0 < aD) (k0 : 0 ≤ k) (h1 : k * aD < aN) (hr : Least bD (bN - k * bD) aD (aN - k * aD) rN rD) : Least aN aD bN bD (k * rN + rD) rN := by
  obtain ⟨r1, r2, r3, r4, r5⟩ := hr
  have hkr : 0 ≤ k * rN := Int.mul_nonneg k0 (by omega)
  refine ⟨by omega, r1, ?_, ?_, ?_⟩
  · grind
  · grind
  · intro x y hy p1 p2
    have h4 : k * y < x := mul_lt_of hd (by
      have e : k * y * aD = k * aD * y := by grind
      rw [e]
      have := Int.mul_lt_mul_of_pos_right h1 hy
      omega)
    obtain ⟨q1, q2⟩ := r5 y (x - k * y) (by omega) (by grind) (by grind)
    refine ⟨?_, q1⟩
    have : k * rN ≤ k * y := Int.mul_le_mul_of_nonneg_left q1 k0
    omega

/-- What between leaves. -/
def BtwP (aN aD bN bD : Int) (w : World) (e : Ending) (w' : World) : Prop := Below w.heap.size w w' ∧ ∃ sN sD : Int, e = .returned (.agg #[.int .i64 sN, .int .i64 sD]) ∧ Least aN aD bN bD sN sD

set_option maxRecDepth 100000 in
set_option maxHeartbeats 2000000 in
theorem between_c : ∀ (m : Nat) (aN aD bN bD : Int) (w : World), aD + bD ≤ m → 0 < aN → aN ≤ 1000000000 → 0 < aD → aD ≤ 1000000000 → 0 < bN → bN ≤ 1000000000 → 0 < bD → bD ≤ 1000000000 → aN * bD ≤ bN * aD →
    Calls Tryd.prog 48 #[.agg #[.int .i64 aN, .int .i64 aD], .agg #[.int .i64 bN, .int .i64 bD]] w (BtwP aN aD bN bD w)
  | 0, aN, aD, bN, bD, w, hm, _, _, _, _, _, _, _, _, _ => absurd hm (by omega)
  | m + 1, aN, aD, bN, bD, w, hm, a1, a2, a3, a4, b1, b2, b3, b4, hab => by
    have HFl := fun w => floor_c aN aD w (by omega) (by omega) (by omega) (by omega)
    have k1 : aN / aD * aD ≤ aN := Int.ediv_mul_le aN (by omega)
    have k2 : aN < (aN / aD + 1) * aD := Int.lt_ediv_add_one_mul_self aN a3
    have k0 : 0 ≤ aN / aD := Int.ediv_nonneg (by omega) (by omega)
    have kb : aN / aD ≤ 1000000000 := by
      have : aN / aD ≤ aN := Int.ediv_le_self _ (by omega)
      omega
    generalize aN / aD = k at *
    have HF := Lib.hid HFl
    clear HFl
    have c1 : 0 ≤ k * aD := Int.mul_nonneg k0 (by omega)
    by_cases h1 : k * aD = aN
    · have HL := Lib.hid (least_whole a1 a3 b3 hab h1)
      have h1' : (k * aD == aN) = true := by simpa using h1
      clear k2 hab hm
      go_enter Tryd.func48, Tryd.ntmps48
      go_wp2_with (go_at_call 46; ((with_reducible refine (HF.out _).mono ?_); rintro e w' ⟨rfl, rfl⟩))
      refine bodyPost_ret (v := .agg #[.int .i64 k, .int .i64 1]) (by simp only [results, Tryd.results48]; go_simp) rfl ⟨?_, k, 1, rfl, HL.out⟩
      (repeat (first | (with_reducible exact bl_refl _) | (with_reducible refine bl_drew ?_) | (with_reducible refine bl_alloc ?_ _) | (with_reducible refine bl_set' ?_ ?_; · (first | omega | (simp; done) | (simp; omega))) | (with_reducible refine bl_last (by assumption) ?_) | (with_reducible refine bl_drewN ?_ _)))
    have h1' : (k * aD == aN) = false := beq_eq_false_iff_ne.2 h1
    have h2 : k * aD < aN := by omega
    have c2 : 0 ≤ (k + 1) * bD := Int.mul_nonneg (by omega) (by omega)
    have c3 : (k + 1) * bD ≤ 1000000001 * 1000000000 := Int.mul_le_mul (by omega) (by omega) (by omega) (by omega)
    by_cases h3 : (k + 1) * bD ≤ bN
    · have HL := Lib.hid (least_next (bN := bN) a3 k0 h2 k2 h3)
      clear k2 hab hm
      go_enter Tryd.func48, Tryd.ntmps48
      go_wp2_with (go_at_call 46; ((with_reducible refine (HF.out _).mono ?_); rintro e w' ⟨rfl, rfl⟩))
      refine bodyPost_ret (v := .agg #[.int .i64 (k + 1), .int .i64 1]) (by simp only [results, Tryd.results48]; go_simp) rfl ⟨?_, k + 1, 1, rfl, HL.out⟩
      (repeat (first | (with_reducible exact bl_refl _) | (with_reducible refine bl_drew ?_) | (with_reducible refine bl_alloc ?_ _) | (with_reducible refine bl_set' ?_ ?_; · (first | omega | (simp; done) | (simp; omega))) | (with_reducible refine bl_last (by assumption) ?_) | (with_reducible refine bl_drewN ?_ _)))
    have c4 : 0 ≤ k * bD := Int.mul_nonneg k0 (by omega)
    have e1 : (k + 1) * bD = k * bD + bD := by rw [Int.add_mul, Int.one_mul]
    have e2 : (k + 1) * aD = k * aD + aD := by rw [Int.add_mul, Int.one_mul]
    have h4 : k * bD < bN := mul_lt_of a3 (by
      have e : k * bD * aD = k * aD * bD := by grind
      rw [e]
      have := Int.mul_lt_mul_of_pos_right h2 b3
      omega)
    have hab2 : bD * (aN - k * aD) ≤ aD * (bN - k * bD) := by grind
    have HI := Lib.hid (fun w => between_c m bD (bN - k * bD) aD (aN - k * aD) w (by omega) (by omega) (by omega) (by omega) (by omega) (by omega) (by omega) (by omega) (by omega) hab2)
    have HR := Lib.hid (fun rN rD hr => least_rec (aN := aN) (aD := aD) (bN := bN) (bD := bD) (k := k) (rN := rN) (rD := rD) a3 k0 h2 hr)
    have HM := Lib.hid hab
    clear hab hab2 hm
    go_enter Tryd.func48, Tryd.ntmps48
    go_wp2_with (go_at_call 46; ((with_reducible refine (HF.out _).mono ?_); rintro e w' ⟨rfl, rfl⟩))
    refine (HI.out _).mono ?_
    rintro e w' ⟨hb, rN, rD, rfl, hL⟩
    obtain ⟨hz, hc, hf⟩ := bcl hb (by first | (simp; rfl) | rfl)
    have hS := HR.out rN rD hL
    obtain ⟨s1, s2, s3, s4, s5⟩ := hS
    obtain ⟨t1, t2⟩ := s5 aN aD a3 (Int.le_refl _) HM.out
    have r0 : 0 < rD := hL.2.1
    have r1 : 0 ≤ k * rN := Int.mul_nonneg k0 (by omega)
    have HLL := Lib.hid (HR.out rN rD hL)
    clear hL s3 s4 s5
    go_wp2
    refine bodyPost_ret (v := .agg #[.int .i64 (k * rN + rD), .int .i64 rN]) (by simp only [results, Tryd.results48]; go_simp) rfl ⟨?_, k * rN + rD, rN, rfl, HLL.out⟩
    (repeat (first | (with_reducible exact bl_refl _) | (with_reducible refine bl_drew ?_) | (with_reducible refine bl_alloc ?_ _) | (with_reducible refine bl_set' ?_ ?_; · (first | omega | (simp; done) | (simp; omega))) | (with_reducible refine bl_last (by assumption) ?_) | (with_reducible refine bl_drewN ?_ _)))
end Go.Proofs.YtmjbcoapceoakaaDoor
