/- Beat: the reference's product. -/
import Derived.Test.YthlnfjllkmielaaBeatAB
import Derived.Test.YthlnfjllkmielaaBeatS
namespace Go.Proofs.Ythlnfjllkmielaa
open Go.RowKit

/-- The exponents by a sign. -/
def sgE (s a b c d e f : Int) (i : Nat) : Int := s * pex a b c d e f i
theorem sgE_bd {s a b c d e f : Int} (hs : s = 1 ∨ s = -1) (hp : pV a b c d e f 576 = true) {i : Nat} (h : i < 6) : -576 ≤ sgE s a b c d e f i ∧ sgE s a b c d e f i ≤ 576 ∧ -576 ≤ pex a b c d e f i ∧ pex a b c d e f i ≤ 576 := by
  obtain ⟨h1, h2, h3, h4, h5, h6⟩ := pV_of hp
  have hx : -576 ≤ pex a b c d e f i ∧ pex a b c d e f i ≤ 576 := by
    rcases lt6 h with rfl | rfl | rfl | rfl | rfl | rfl
    · exact wi_of h1
    · exact wi_of h2
    · exact wi_of h3
    · exact wi_of h4
    · exact wi_of h5
    · exact wi_of h6
  unfold sgE
  rcases hs with rfl | rfl <;> omega
theorem sg_le2 {s a b c d e f : Int} (hs : s = 1 ∨ s = -1) (hp : pV a b c d e f 576 = true) : ∀ i, i < 6 → pwF (prm i) (sgE s a b c d e f i) ≤ 2 ^ prG i := by
  intro i hi
  obtain ⟨_, hb, _⟩ := sgE_bd hs hp hi
  generalize sgE s a b c d e f i = g at *
  rcases lt6 hi with rfl | rfl | rfl | rfl | rfl | rfl
  · exact pwF_le2 (k := prG 0) (b := 2) (c := 1) (E := 576) (by decide) (by omega) rfl
  · exact pwF_le2 (k := prG 1) (b := 3) (c := 2) (E := 576) (by decide) (by omega) rfl
  · exact pwF_le2 (k := prG 2) (b := 5) (c := 3) (E := 576) (by decide) (by omega) rfl
  · exact pwF_le2 (k := prG 3) (b := 7) (c := 3) (E := 576) (by decide) (by omega) rfl
  · exact pwF_le2 (k := prG 4) (b := 11) (c := 4) (E := 576) (by decide) (by omega) rfl
  · exact pwF_le2 (k := prG 5) (b := 13) (c := 4) (E := 576) (by decide) (by omega) rfl
theorem sg_cap {s a b c d e f : Int} (hs : s = 1 ∨ s = -1) (hp : pV a b c d e f 576 = true) : ∀ i, i ≤ 6 → prodF prm (sgE s a b c d e f) i < Cap := fun i hi => by
  have h1 := prodF_mono (fb := prm) (fe := sgE s a b c d e f) (k := 6) (fun j hj => by have := prm_pos hj; omega) i hi
  have h2 := prodF_le (sg_le2 hs hp) 6 (Nat.le_refl _)
  rw [show sumF prG 6 = 9792 from rfl] at h2
  exact lt_big (k := 9792) (Nat.le_trans h1 h2) (by omega)
end Go.Proofs.Ythlnfjllkmielaa
