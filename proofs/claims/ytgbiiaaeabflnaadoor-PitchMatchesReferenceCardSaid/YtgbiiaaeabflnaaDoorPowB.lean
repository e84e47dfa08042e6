/- Powers of the primes: bounds. -/
import Derived.Test.YtgbiiaaeabflnaaDoorFracA
namespace Go.Proofs.YtgbiiaaeabflnaaDoor
open Go Go.RowKit

theorem pw_cap {a b c d e f : Int} (hp : pV a b c d e f 1152 = true) {k : Nat} (hk : k < 6) : prm k ^ (pex a b c d e f k).toNat < Cap ∧ prm k ^ (-pex a b c d e f k).toNat < Cap := by
  have key : ∀ s : Int, s = 1 ∨ s = -1 → prm k ^ (sgE s a b c d e f k).toNat < Cap := fun s hs => by
    rw [← pwF_toNat]
    exact Nat.lt_of_le_of_lt (sg_le3 hs hp k hk) (lt_big (k := prH k) (Nat.le_refl _) (by rcases lt6 hk with rfl | rfl | rfl | rfl | rfl | rfl <;> decide))
  have h1 := key 1 (Or.inl rfl)
  have h2 := key (-1) (Or.inr rfl)
  rw [sgE_one] at h1
  rw [sgE_neg] at h2
  exact ⟨h1, h2⟩
end Go.Proofs.YtgbiiaaeabflnaaDoor
