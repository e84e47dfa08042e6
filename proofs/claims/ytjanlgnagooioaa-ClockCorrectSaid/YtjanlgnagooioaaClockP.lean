/- Clock: small facts on what has passed. -/
import Derived.Test.YtjanlgnagooioaaClockH
namespace Go.Proofs.Ytjanlgnagooioaa
open Go.RowKit

theorem pass_ways (s e d r t : Int) (hle : fstF s e d r ≤ lstF s e d r) : (t ≤ fstF s e d r ∧ t ≤ lstF s e d r ∧ decide (t ≤ fstF s e d r) = true ∧ decide (lstF s e d r < t) = false ∧ passF s e d r t = 1) ∨
    (fstF s e d r < t ∧ lstF s e d r < t ∧ decide (t ≤ fstF s e d r) = false ∧ decide (lstF s e d r < t) = true ∧ passF s e d r t = -1) ∨
    (fstF s e d r < t ∧ t ≤ lstF s e d r ∧ decide (t ≤ fstF s e d r) = false ∧ decide (lstF s e d r < t) = false ∧ passF s e d r t = 0) := by
  unfold passF
  by_cases h1 : t ≤ fstF s e d r
  · exact Or.inl ⟨h1, by omega, decide_eq_true h1, decide_eq_false (by omega), by rw [if_pos h1]⟩
  · by_cases h2 : lstF s e d r < t
    · exact Or.inr (Or.inl ⟨by omega, h2, decide_eq_false h1, decide_eq_true h2, by rw [if_neg h1, if_pos h2]⟩)
    · exact Or.inr (Or.inr ⟨by omega, by omega, decide_eq_false h1, decide_eq_false h2, by rw [if_neg h1, if_neg h2]⟩)
theorem fst_le_lst {s e d r : Int} (h : rdB s e d r = true) : fstF s e d r ≤ lstF s e d r ∧ 0 ≤ fstF s e d r ∧ lstF s e d r ≤ 100000 ∧ fstF s e d r ≤ r ∧ r ≤ lstF s e d r := by
  have h1 := slk_bd h
  obtain ⟨a, b, c, _⟩ := rd_of h
  unfold fstF lstF
  omega
end Go.Proofs.Ytjanlgnagooioaa
