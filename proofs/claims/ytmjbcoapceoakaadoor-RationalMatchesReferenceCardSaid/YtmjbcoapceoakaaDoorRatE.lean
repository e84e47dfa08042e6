/- Rational: Cmp, floor, Floor, and the reference's operations. -/
import Derived.Test.YtmjbcoapceoakaaDoorRatD
namespace Go.Proofs.YtmjbcoapceoakaaDoor
open Go.RowKit

theorem tdiv_facts {n d : Int} (hd : 1 ≤ d) : (n < n.tdiv d * d ∧ n / d = n.tdiv d - 1) ∨ (n.tdiv d * d ≤ n ∧ n / d = n.tdiv d) := by
  have h1 := Int.emod_add_mul_ediv n d
  have h2 := Int.emod_nonneg n (show d ≠ 0 by omega)
  have h3 := Int.emod_lt_of_pos n (show 0 < d by omega)
  rcases Int.le_total 0 n with h | h
  · right
    have e : n.tdiv d = n / d := Int.tdiv_eq_ediv_of_nonneg h
    rw [e]
    refine ⟨?_, rfl⟩
    rw [Int.mul_comm]
    omega
  · by_cases hm : n % d = 0
    · right
      have e : n.tdiv d = n / d := Int.tdiv_eq_ediv_of_dvd (Int.dvd_of_emod_eq_zero hm)
      rw [e]
      refine ⟨?_, rfl⟩
      rw [Int.mul_comm]
      omega
    · left
      have hs : d.sign = 1 := Int.sign_eq_one_of_pos (by omega)
      have e : n.tdiv d = n / d + 1 := by
        rw [Int.tdiv_eq_ediv]
        have hnd : ¬ (0 ≤ n ∨ d ∣ n) := by
          rintro (h4 | h4)
          · have : n = 0 := by omega
            subst this
            simp at hm
          · exact hm (Int.emod_eq_zero_of_dvd h4)
        rw [if_neg hnd, hs]
      rw [e]
      refine ⟨?_, by omega⟩
      rw [Int.add_mul, Int.mul_comm]
      omega
theorem tdiv_bd {n d : Int} (_hd : 1 ≤ d) (h1 : -1000000000000000000 ≤ n) (h2 : n ≤ 1000000000000000000) : (-1000000000000000000 ≤ n.tdiv d ∧ n.tdiv d ≤ 1000000000000000000) ∧ (-1000000000000000000 ≤ n.tdiv d * d ∧ n.tdiv d * d ≤ 1000000000000000000) := by
  have h3 : (n.tdiv d).natAbs ≤ n.natAbs := by
    rw [Int.natAbs_tdiv]
    exact Nat.div_le_self _ _
  have h4 : (n.tdiv d * d).natAbs ≤ n.natAbs := by
    rw [Int.natAbs_mul, Int.natAbs_tdiv]
    exact Nat.div_mul_le_self _ _
  omega

set_option maxHeartbeats 1000000 in
theorem floor_c (n d : Int) (w : World) (hd : 1 ≤ d) (hd2 : d ≤ 1000000000000000000) (h1 : -1000000000000000000 ≤ n) (h2 : n ≤ 1000000000000000000) :
    Calls Tryd.prog 46 #[.int .i64 n, .int .i64 d] w (RetS (.int .i64 (n / d)) w) := by
  obtain ⟨⟨t1, t2⟩, t3, t4⟩ := tdiv_bd (n := n) hd h1 h2
  have hf := tdiv_facts (n := n) hd
  have hdn : ¬ d = 0 := by omega
  obtain ⟨t, ht⟩ : ∃ t, n.tdiv d = t := ⟨_, rfl⟩
  rw [ht] at t1 t2 t3 t4 hf
  have hw1 : IntKind.i64.wrap t = t := by rw [IntKind.wrap_i64]; omega
  rcases hf with ⟨f1, f2⟩ | ⟨f1, f2⟩
  all_goals
    rw [f2]
    clear f2
    go_enter Tryd.func46, Tryd.ntmps46
    go_wp2
    go_ret
    exact ⟨rfl, rfl⟩

def sgF (x : Int) : Int := if x < 0 then -1 else if 0 < x then 1 else 0
def cmpE (an ad bn bd : Int) : Int := if vR an ad && vR bn bd then 0 else 1
def cmpN (an ad bn bd : Int) : Int := if vR an ad && vR bn bd then sgF (an * bd - bn * ad) else 0
def cmpV (an ad bn bd : Int) : Value := .tuple #[.int .i64 (cmpN an ad bn bd), .int .i64 (cmpE an ad bn bd)]
theorem cmp_bad {an ad bn bd : Int} (h : (vR an ad && vR bn bd) = false) : cmpV an ad bn bd = .tuple #[.int .i64 0, .int .i64 1] := by simp [cmpV, cmpN, cmpE, h]
theorem cmp_good {an ad bn bd : Int} (h : (vR an ad && vR bn bd) = true) : cmpV an ad bn bd = .tuple #[.int .i64 (sgF (an * bd - bn * ad)), .int .i64 0] := by simp [cmpV, cmpN, cmpE, h]
theorem sg_ways (x : Int) : (x < 0 ∧ sgF x = -1) ∨ (0 < x ∧ sgF x = 1) ∨ (x = 0 ∧ sgF x = 0) := by unfold sgF; split <;> (try split) <;> omega

set_option maxRecDepth 100000 in
set_option maxHeartbeats 1000000 in
theorem Cmp_c (an ad bn bd : Int) (w : World) : Calls Tryd.prog 18 #[.agg #[.int .i64 an, .int .i64 ad], .agg #[.int .i64 bn, .int .i64 bd]] w (Ret (cmpV an ad bn bd) w) := by
  cases h : (vR an ad && vR bn bd)
  · rw [cmp_bad h]
    have h' : vR an ad = false ∨ (vR an ad = true ∧ vR bn bd = false) := by
      cases h1 : vR an ad <;> simp_all
    clear h
    rcases h' with h1 | ⟨h1, h2⟩
    all_goals
      go_enter Tryd.func18, Tryd.ntmps18
      go_wp2_with (go_at_call 13; refine (Valid_c _ _ _).mono ?_; rintro e w' ⟨rfl, hb⟩; obtain ⟨hz, hc, hf⟩ := bcl hb (by first | (simp; rfl) | rfl))
      go_ret2
      refine ⟨rfl, ?_⟩
      (repeat (first | (with_reducible exact bl_refl _) | (with_reducible refine bl_drew ?_) | (with_reducible refine bl_alloc ?_ _) | (with_reducible refine bl_set' ?_ ?_; · (first | omega | (simp; done) | (simp; omega))) | (with_reducible refine bl_last (by assumption) ?_) | (with_reducible refine bl_drewN ?_ _)))
  · rw [cmp_good h]
    have h' : vR an ad = true ∧ vR bn bd = true := by simpa using h
    obtain ⟨h1, h2⟩ := h'
    clear h
    have HO := fun w => minus_c an ad bn bd w (rg_of h1) (rg_of h2)
    have hs := sg_ways (an * bd - bn * ad)
    generalize an * bd - bn * ad = x at *
    have HO := Lib.hid HO
    rcases hs with ⟨g, hs⟩ | ⟨g, hs⟩ | ⟨g, hs⟩
    all_goals
      rw [hs]
      clear hs
      try subst g
      go_enter Tryd.func18, Tryd.ntmps18
      go_wp2_with (first | (go_at_call 13; refine (Valid_c _ _ _).mono ?_; rintro e w' ⟨rfl, hb⟩; obtain ⟨hz, hc, hf⟩ := bcl hb (by first | (simp; rfl) | rfl)) | (go_at_call 49; refine (HO.out _).mono ?_; rintro e w' ⟨rfl, hb⟩; obtain ⟨hz, hc, hf⟩ := bcl hb (by first | (simp; rfl) | rfl)))
      go_ret2
      refine ⟨rfl, ?_⟩
      (repeat (first | (with_reducible exact bl_refl _) | (with_reducible refine bl_drew ?_) | (with_reducible refine bl_alloc ?_ _) | (with_reducible refine bl_set' ?_ ?_; · (first | omega | (simp; done) | (simp; omega))) | (with_reducible refine bl_last (by assumption) ?_) | (with_reducible refine bl_drewN ?_ _)))

def flV (n d : Int) : Value := if vR n d then .tuple #[.int .i64 (n / d), .int .i64 0] else .tuple #[.int .i64 0, .int .i64 1]
set_option maxHeartbeats 1000000 in
theorem Floor_c (n d : Int) (w : World) : Calls Tryd.prog 21 #[.agg #[.int .i64 n, .int .i64 d]] w (Ret (flV n d) w) := by
  unfold flV
  cases h : vR n d
  · simp only [Bool.false_eq_true, if_false]
    go_enter Tryd.func21, Tryd.ntmps21
    go_wp2_with (go_at_call 13; refine (Valid_c _ _ _).mono ?_; rintro e w' ⟨rfl, hb⟩; obtain ⟨hz, hc, hf⟩ := bcl hb (by first | (simp; rfl) | rfl))
    go_ret2
    refine ⟨rfl, ?_⟩
    (repeat (first | (with_reducible exact bl_refl _) | (with_reducible refine bl_drew ?_) | (with_reducible refine bl_alloc ?_ _) | (with_reducible refine bl_set' ?_ ?_; · (first | omega | (simp; done) | (simp; omega))) | (with_reducible refine bl_last (by assumption) ?_) | (with_reducible refine bl_drewN ?_ _)))
  · simp only [if_true]
    obtain ⟨a1, a2, a3, a4⟩ := rg_of h
    have HF := fun w => floor_c n d w a3 (by omega) (by omega) (by omega)
    generalize n / d = q at *
    have HF := Lib.hid HF
    go_enter Tryd.func21, Tryd.ntmps21
    go_wp2_with (first | (go_at_call 13; refine (Valid_c _ _ _).mono ?_; rintro e w' ⟨rfl, hb⟩; obtain ⟨hz, hc, hf⟩ := bcl hb (by first | (simp; rfl) | rfl)) | (go_at_call 46; ((with_reducible refine (HF.out _).mono ?_); rintro e w' ⟨rfl, rfl⟩)))
    go_ret2
    refine ⟨rfl, ?_⟩
    (repeat (first | (with_reducible exact bl_refl _) | (with_reducible refine bl_drew ?_) | (with_reducible refine bl_alloc ?_ _) | (with_reducible refine bl_set' ?_ ?_; · (first | omega | (simp; done) | (simp; omega))) | (with_reducible refine bl_last (by assumption) ?_) | (with_reducible refine bl_drewN ?_ _)))
end Go.Proofs.YtmjbcoapceoakaaDoor
