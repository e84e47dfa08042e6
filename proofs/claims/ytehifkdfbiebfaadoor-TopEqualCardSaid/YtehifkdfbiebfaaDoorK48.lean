/- TopEqual: plain law: degrees and octaves of multiples of a step. -/
import Derived.Test.YtehifkdfbiebfaaDoorK45
import Derived.Test.YtehifkdfbiebfaaDoorK46
namespace Go.Proofs.YtehifkdfbiebfaaDoor
open Go Go.RowKit

theorem tmod_cases (a n : Int) : (0 ≤ a ∧ a.tmod n = a % n) ∨ (a < 0 ∧ a.tmod n = -((-a) % n)) := by
  by_cases h : 0 ≤ a
  · exact Or.inl ⟨h, Int.tmod_eq_emod_of_nonneg h⟩
  · refine Or.inr ⟨by omega, ?_⟩
    have := Int.neg_tmod (a := -a) (b := n)
    rw [Int.neg_neg] at this
    rw [this, Int.tmod_eq_emod_of_nonneg (by omega)]
theorem tdiv_cases (a n : Int) : (0 ≤ a ∧ a.tdiv n = a / n) ∨ (a < 0 ∧ a.tdiv n = -((-a) / n)) := by
  by_cases h : 0 ≤ a
  · exact Or.inl ⟨h, Int.tdiv_eq_ediv_of_nonneg h⟩
  · refine Or.inr ⟨by omega, ?_⟩
    have := Int.neg_tdiv (a := -a) (b := n)
    rw [Int.neg_neg] at this
    rw [this, Int.tdiv_eq_ediv_of_nonneg (by omega)]
theorem dn_cases {d n : Nat} (h : d * n = 12) : (n = 1 ∧ d = 12) ∨ (n = 2 ∧ d = 6) ∨ (n = 3 ∧ d = 4) ∨ (n = 4 ∧ d = 3) ∨ (n = 6 ∧ d = 2) ∨ (n = 12 ∧ d = 1) := by
  have hn : n ≤ 12 := Nat.le_of_dvd (by omega) ⟨d, by rw [← h, Nat.mul_comm]⟩
  rcases (show n = 0 ∨ n = 1 ∨ n = 2 ∨ n = 3 ∨ n = 4 ∨ n = 5 ∨ n = 6 ∨ n = 7 ∨ n = 8 ∨ n = 9 ∨ n = 10 ∨ n = 11 ∨ n = 12 by omega) with rfl | rfl | rfl | rfl | rfl | rfl | rfl | rfl | rfl | rfl | rfl | rfl | rfl <;> omega
/-- Degree and octave of a steps. -/
theorem dg_law {d n : Nat} (h : d * n = 12) (a : Int) : ∃ i : Nat, i < n ∧ chS d i = (a * d) % 12 ∧ (∀ j, j < i → chS d j ≠ (a * d) % 12) ∧ a = (i : Int) + n * ((a * d) / 12) ∧
    (a.tmod n + n).tmod n = i ∧ (a - i).tdiv n = (a * d) / 12 ∧ -12 ≤ a.tmod n ∧ a.tmod n ≤ 12 := by
  rcases dn_cases h with ⟨rfl, rfl⟩ | ⟨rfl, rfl⟩ | ⟨rfl, rfl⟩ | ⟨rfl, rfl⟩ | ⟨rfl, rfl⟩ | ⟨rfl, rfl⟩
  
  · obtain ⟨i, hi⟩ : ∃ i : Nat, (i : Int) = a % 1 := ⟨(a % 1).toNat, by omega⟩
    refine ⟨i, by omega, by unfold chS; omega, fun j hj => by unfold chS; omega, by omega, ?_, ?_, ?_⟩
    · rcases tmod_cases a ((1 : Nat) : Int) with ⟨h1, h2⟩ | ⟨h1, h2⟩
      · rcases tmod_cases (a.tmod ((1 : Nat) : Int) + ((1 : Nat) : Int)) ((1 : Nat) : Int) with ⟨h3, h4⟩ | ⟨h3, h4⟩ <;> rw [h2] at h3 h4 ⊢ <;> omega
      · rcases tmod_cases (a.tmod ((1 : Nat) : Int) + ((1 : Nat) : Int)) ((1 : Nat) : Int) with ⟨h3, h4⟩ | ⟨h3, h4⟩ <;> rw [h2] at h3 h4 ⊢ <;> omega
    · rcases tdiv_cases (a - i) ((1 : Nat) : Int) with ⟨h1, h2⟩ | ⟨h1, h2⟩ <;> rw [h2] <;> omega
    · rcases tmod_cases a ((1 : Nat) : Int) with ⟨h1, h2⟩ | ⟨h1, h2⟩ <;> rw [h2] <;> omega
  · obtain ⟨i, hi⟩ : ∃ i : Nat, (i : Int) = a % 2 := ⟨(a % 2).toNat, by omega⟩
    refine ⟨i, by omega, by unfold chS; omega, fun j hj => by unfold chS; omega, by omega, ?_, ?_, ?_⟩
    · rcases tmod_cases a ((2 : Nat) : Int) with ⟨h1, h2⟩ | ⟨h1, h2⟩
      · rcases tmod_cases (a.tmod ((2 : Nat) : Int) + ((2 : Nat) : Int)) ((2 : Nat) : Int) with ⟨h3, h4⟩ | ⟨h3, h4⟩ <;> rw [h2] at h3 h4 ⊢ <;> omega
      · rcases tmod_cases (a.tmod ((2 : Nat) : Int) + ((2 : Nat) : Int)) ((2 : Nat) : Int) with ⟨h3, h4⟩ | ⟨h3, h4⟩ <;> rw [h2] at h3 h4 ⊢ <;> omega
    · rcases tdiv_cases (a - i) ((2 : Nat) : Int) with ⟨h1, h2⟩ | ⟨h1, h2⟩ <;> rw [h2] <;> omega
    · rcases tmod_cases a ((2 : Nat) : Int) with ⟨h1, h2⟩ | ⟨h1, h2⟩ <;> rw [h2] <;> omega
  · obtain ⟨i, hi⟩ : ∃ i : Nat, (i : Int) = a % 3 := ⟨(a % 3).toNat, by omega⟩
    refine ⟨i, by omega, by unfold chS; omega, fun j hj => by unfold chS; omega, by omega, ?_, ?_, ?_⟩
    · rcases tmod_cases a ((3 : Nat) : Int) with ⟨h1, h2⟩ | ⟨h1, h2⟩
      · rcases tmod_cases (a.tmod ((3 : Nat) : Int) + ((3 : Nat) : Int)) ((3 : Nat) : Int) with ⟨h3, h4⟩ | ⟨h3, h4⟩ <;> rw [h2] at h3 h4 ⊢ <;> omega
      · rcases tmod_cases (a.tmod ((3 : Nat) : Int) + ((3 : Nat) : Int)) ((3 : Nat) : Int) with ⟨h3, h4⟩ | ⟨h3, h4⟩ <;> rw [h2] at h3 h4 ⊢ <;> omega
    · rcases tdiv_cases (a - i) ((3 : Nat) : Int) with ⟨h1, h2⟩ | ⟨h1, h2⟩ <;> rw [h2] <;> omega
    · rcases tmod_cases a ((3 : Nat) : Int) with ⟨h1, h2⟩ | ⟨h1, h2⟩ <;> rw [h2] <;> omega
  · obtain ⟨i, hi⟩ : ∃ i : Nat, (i : Int) = a % 4 := ⟨(a % 4).toNat, by omega⟩
    refine ⟨i, by omega, by unfold chS; omega, fun j hj => by unfold chS; omega, by omega, ?_, ?_, ?_⟩
    · rcases tmod_cases a ((4 : Nat) : Int) with ⟨h1, h2⟩ | ⟨h1, h2⟩
      · rcases tmod_cases (a.tmod ((4 : Nat) : Int) + ((4 : Nat) : Int)) ((4 : Nat) : Int) with ⟨h3, h4⟩ | ⟨h3, h4⟩ <;> rw [h2] at h3 h4 ⊢ <;> omega
      · rcases tmod_cases (a.tmod ((4 : Nat) : Int) + ((4 : Nat) : Int)) ((4 : Nat) : Int) with ⟨h3, h4⟩ | ⟨h3, h4⟩ <;> rw [h2] at h3 h4 ⊢ <;> omega
    · rcases tdiv_cases (a - i) ((4 : Nat) : Int) with ⟨h1, h2⟩ | ⟨h1, h2⟩ <;> rw [h2] <;> omega
    · rcases tmod_cases a ((4 : Nat) : Int) with ⟨h1, h2⟩ | ⟨h1, h2⟩ <;> rw [h2] <;> omega
  · obtain ⟨i, hi⟩ : ∃ i : Nat, (i : Int) = a % 6 := ⟨(a % 6).toNat, by omega⟩
    refine ⟨i, by omega, by unfold chS; omega, fun j hj => by unfold chS; omega, by omega, ?_, ?_, ?_⟩
    · rcases tmod_cases a ((6 : Nat) : Int) with ⟨h1, h2⟩ | ⟨h1, h2⟩
      · rcases tmod_cases (a.tmod ((6 : Nat) : Int) + ((6 : Nat) : Int)) ((6 : Nat) : Int) with ⟨h3, h4⟩ | ⟨h3, h4⟩ <;> rw [h2] at h3 h4 ⊢ <;> omega
      · rcases tmod_cases (a.tmod ((6 : Nat) : Int) + ((6 : Nat) : Int)) ((6 : Nat) : Int) with ⟨h3, h4⟩ | ⟨h3, h4⟩ <;> rw [h2] at h3 h4 ⊢ <;> omega
    · rcases tdiv_cases (a - i) ((6 : Nat) : Int) with ⟨h1, h2⟩ | ⟨h1, h2⟩ <;> rw [h2] <;> omega
    · rcases tmod_cases a ((6 : Nat) : Int) with ⟨h1, h2⟩ | ⟨h1, h2⟩ <;> rw [h2] <;> omega
  · obtain ⟨i, hi⟩ : ∃ i : Nat, (i : Int) = a % 12 := ⟨(a % 12).toNat, by omega⟩
    refine ⟨i, by omega, by unfold chS; omega, fun j hj => by unfold chS; omega, by omega, ?_, ?_, ?_⟩
    · rcases tmod_cases a ((12 : Nat) : Int) with ⟨h1, h2⟩ | ⟨h1, h2⟩
      · rcases tmod_cases (a.tmod ((12 : Nat) : Int) + ((12 : Nat) : Int)) ((12 : Nat) : Int) with ⟨h3, h4⟩ | ⟨h3, h4⟩ <;> rw [h2] at h3 h4 ⊢ <;> omega
      · rcases tmod_cases (a.tmod ((12 : Nat) : Int) + ((12 : Nat) : Int)) ((12 : Nat) : Int) with ⟨h3, h4⟩ | ⟨h3, h4⟩ <;> rw [h2] at h3 h4 ⊢ <;> omega
    · rcases tdiv_cases (a - i) ((12 : Nat) : Int) with ⟨h1, h2⟩ | ⟨h1, h2⟩ <;> rw [h2] <;> omega
    · rcases tmod_cases a ((12 : Nat) : Int) with ⟨h1, h2⟩ | ⟨h1, h2⟩ <;> rw [h2] <;> omega
/-- Six integers. -/
def sixA (f : Nat → Int) : Array Value := #[.int .i64 (f 0), .int .i64 (f 1), .int .i64 (f 2), .int .i64 (f 3), .int .i64 (f 4), .int .i64 (f 5)]
theorem sixA_get (f : Nat → Int) {i : Nat} (h : i < 6) : (sixA f)[i]? = some (.int .i64 (f i)) := by
  rcases lt6 h with rfl | rfl | rfl | rfl | rfl | rfl <;> rfl
/-- The difference, as the loop goes. -/
def ofF (v u : Nat → Int) (k i : Nat) : Int := if i < k then v i - u i else 0
theorem ofF_six (v u : Nat → Int) (i : Nat) (h : i < 6) : ofF v u 6 i = v i - u i := if_pos h
theorem ofF_set (v u : Nat → Int) {k : Nat} (h : k < 6) : (sixA (ofF v u k)).setIfInBounds k (.int .i64 (v k - u k)) = sixA (ofF v u (k + 1)) := by
  rcases lt6 h with rfl | rfl | rfl | rfl | rfl | rfl <;> simp [sixA, ofF]
/-- The image of a difference. -/
theorem imS_sub (r v u o : Nat → Int) : ∀ k, (∀ i, i < k → o i = v i - u i) → imS r o k = imS r v k - imS r u k
  | 0, _ => rfl
  | k + 1, h => by
    unfold imS
    rw [imS_sub r v u o k (fun i hi => h i (by omega)), h k (by omega), Int.mul_sub]
    omega
end Go.Proofs.YtehifkdfbiebfaaDoor
