/- The reference's natural numbers: Bounded, Mul. -/
import Derived.Test.YtehifkdfbiebfaaDoorK11
namespace Go.Proofs.YtehifkdfbiebfaaDoor
open Go.RowKit

/-- A number that the reference returns beside OK. -/
def RNumE (x : Nat) (w : World) (e : Ending) (w' : World) : Prop := Below w.heap.size w w' ∧ ∃ b n c, w.heap.size ≤ b ∧ e = .returned (.tuple #[.slice (some ⟨b, 0, none⟩) n c, .int .i64 0]) ∧ Num w' w'.heap.size b n x ∧ n ≤ 640 ∧ n ≤ c
/-- What Bounded leaves. -/
def BndP (x b c : Nat) (w : World) (e : Ending) (w' : World) : Prop := ∃ n, e = .returned (.tuple #[.slice (some ⟨b, 0, none⟩) n c, .int .i64 0]) ∧ w = w' ∧ Num w w.heap.size b n x ∧ n ≤ 640 ∧ n ≤ c
end Go.Proofs.YtehifkdfbiebfaaDoor
