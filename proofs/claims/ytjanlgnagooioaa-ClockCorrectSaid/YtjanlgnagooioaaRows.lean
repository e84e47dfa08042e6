/-
  No cell of these rows narrows 'for every input' (looked for: loops, veiled, ifaces, maps, wideKeys, modest, calm, conditions, laid).
  DERIVED. THE GIVEN ROWS OF THIS SEAT. 8 by the template 'for every input the law returns true; each argument reads behind the call as it read before'; 0 by the template 'total and deterministic' (their statements: YtjanlgnagooioaaTotals.lean).
  GIVEN WITH THE SEED: the statements are not yours to turn. If you find one false, say at which input.
  Laid BY PROGRAM, IN A SANDBOX (cutbox-rows.mjs): the forced cells as the released guide's own fill.sh prints them over the translation b11684e055563c80… (all of the seat's roots in one cut). By AI agents, Wed Nov 11 2026. No macro, syntax, notation, axiom, sorry.
-/
import Derived.Test.YtjanlgnagooioaaChecked
import GoSem.Claim
import GoSem.ClaimJoined
import GoSem.ClaimMapViews
import Derived.JoinedTies
import Derived.KernelRfl
namespace Go.Proofs.Ytjanlgnagooioaa
/- THE CELL 'sum', in the pinned program and in every row, IS THE sha256 OF THE DUMP (.gsa) THAT YtjanlgnagooioaaProg.lean LOADS. Nothing in Lean hashes anything: it is a label: what it is worth is what the hold of that sum in a sandbox is worth. -/
noncomputable def Try.pinned : Pinned := { name := "ytjanlgnagooioaa", sum := "b11684e055563c805c9dcc3b0a8689ef52ae3dd5a2a27245e20fbdac493c8a51", checked := Try.checked }
namespace Rows
def none {H : Type} : Left H := { results := [], args := [] }

/-- 'schismalaw27.ClockMatchesReference': WHATEVER THE INPUT: true; the input reads as it did. -/
def clockMatchesReferenceSpec : ChangeSpec := { name := "clockMatchesReference", fn := fun _ => fun
  | [d1, d2, d3, d4, d5] => { results := [.lit (.bool true)], args := [d1, d2, d3, d4, d5] }
  | _ => none }
def clockMatchesReferenceRow : OpenClaim := { program := "ytjanlgnagooioaa", sum := "b11684e055563c805c9dcc3b0a8689ef52ae3dd5a2a27245e20fbdac493c8a51", func := "schisma/schismalaw27.ClockMatchesReference", spec := "clockMatchesReference", unfollowed := true, recurses := true, apart := false }
def ClockMatchesReferenceSaid : Prop := clockMatchesReferenceRow.holds Try.pinned (OpenSpec.ofChange clockMatchesReferenceSpec)

/-- ITS FALSE NEIGHBOUR: 'it returns false'. Refute it at one input. -/
def clockMatchesReferenceWrong : ChangeSpec := { name := "clockMatchesReference", fn := fun _ => fun
  | [d1, d2, d3, d4, d5] => { results := [.lit (.bool false)], args := [d1, d2, d3, d4, d5] }
  | _ => none }
def ClockMatchesReferenceWrongFalsely : Prop := clockMatchesReferenceRow.holds Try.pinned (OpenSpec.ofChange clockMatchesReferenceWrong)

/-- 'schismalaw27.ClockTruth': WHATEVER THE INPUT: true; the input reads as it did. -/
def clockTruthSpec : ChangeSpec := { name := "clockTruth", fn := fun _ => fun
  | [d1, d2, d3, d4, d5] => { results := [.lit (.bool true)], args := [d1, d2, d3, d4, d5] }
  | _ => none }
def clockTruthRow : OpenClaim := { program := "ytjanlgnagooioaa", sum := "b11684e055563c805c9dcc3b0a8689ef52ae3dd5a2a27245e20fbdac493c8a51", func := "schisma/schismalaw27.ClockTruth", spec := "clockTruth", unfollowed := true, recurses := true, apart := false }
def ClockTruthSaid : Prop := clockTruthRow.holds Try.pinned (OpenSpec.ofChange clockTruthSpec)

/-- ITS FALSE NEIGHBOUR: 'it returns false'. Refute it at one input. -/
def clockTruthWrong : ChangeSpec := { name := "clockTruth", fn := fun _ => fun
  | [d1, d2, d3, d4, d5] => { results := [.lit (.bool false)], args := [d1, d2, d3, d4, d5] }
  | _ => none }
def ClockTruthWrongFalsely : Prop := clockTruthRow.holds Try.pinned (OpenSpec.ofChange clockTruthWrong)

/-- 'schismalaw27.ClockForward': WHATEVER THE INPUT: true; the input reads as it did. -/
def clockForwardSpec : ChangeSpec := { name := "clockForward", fn := fun _ => fun
  | [d1, d2, d3] => { results := [.lit (.bool true)], args := [d1, d2, d3] }
  | _ => none }
def clockForwardRow : OpenClaim := { program := "ytjanlgnagooioaa", sum := "b11684e055563c805c9dcc3b0a8689ef52ae3dd5a2a27245e20fbdac493c8a51", func := "schisma/schismalaw27.ClockForward", spec := "clockForward", unfollowed := true, recurses := true, apart := false }
def ClockForwardSaid : Prop := clockForwardRow.holds Try.pinned (OpenSpec.ofChange clockForwardSpec)

/-- ITS FALSE NEIGHBOUR: 'it returns false'. Refute it at one input. -/
def clockForwardWrong : ChangeSpec := { name := "clockForward", fn := fun _ => fun
  | [d1, d2, d3] => { results := [.lit (.bool false)], args := [d1, d2, d3] }
  | _ => none }
def ClockForwardWrongFalsely : Prop := clockForwardRow.holds Try.pinned (OpenSpec.ofChange clockForwardWrong)

/-- 'schismalaw27.ClockPassed': WHATEVER THE INPUT: true; the input reads as it did. -/
def clockPassedSpec : ChangeSpec := { name := "clockPassed", fn := fun _ => fun
  | [d1, d2, d3, d4, d5] => { results := [.lit (.bool true)], args := [d1, d2, d3, d4, d5] }
  | _ => none }
def clockPassedRow : OpenClaim := { program := "ytjanlgnagooioaa", sum := "b11684e055563c805c9dcc3b0a8689ef52ae3dd5a2a27245e20fbdac493c8a51", func := "schisma/schismalaw27.ClockPassed", spec := "clockPassed", unfollowed := true, recurses := true, apart := false }
def ClockPassedSaid : Prop := clockPassedRow.holds Try.pinned (OpenSpec.ofChange clockPassedSpec)

/-- ITS FALSE NEIGHBOUR: 'it returns false'. Refute it at one input. -/
def clockPassedWrong : ChangeSpec := { name := "clockPassed", fn := fun _ => fun
  | [d1, d2, d3, d4, d5] => { results := [.lit (.bool false)], args := [d1, d2, d3, d4, d5] }
  | _ => none }
def ClockPassedWrongFalsely : Prop := clockPassedRow.holds Try.pinned (OpenSpec.ofChange clockPassedWrong)

/-- 'schismalaw27.ClockSure': WHATEVER THE INPUT: true; the input reads as it did. -/
def clockSureSpec : ChangeSpec := { name := "clockSure", fn := fun _ => fun
  | [d1, d2, d3] => { results := [.lit (.bool true)], args := [d1, d2, d3] }
  | _ => none }
def clockSureRow : OpenClaim := { program := "ytjanlgnagooioaa", sum := "b11684e055563c805c9dcc3b0a8689ef52ae3dd5a2a27245e20fbdac493c8a51", func := "schisma/schismalaw27.ClockSure", spec := "clockSure", unfollowed := true, recurses := true, apart := false }
def ClockSureSaid : Prop := clockSureRow.holds Try.pinned (OpenSpec.ofChange clockSureSpec)

/-- ITS FALSE NEIGHBOUR: 'it returns false'. Refute it at one input. -/
def clockSureWrong : ChangeSpec := { name := "clockSure", fn := fun _ => fun
  | [d1, d2, d3] => { results := [.lit (.bool false)], args := [d1, d2, d3] }
  | _ => none }
def ClockSureWrongFalsely : Prop := clockSureRow.holds Try.pinned (OpenSpec.ofChange clockSureWrong)

/-- 'schismalaw27.ClockSet': WHATEVER THE INPUT: true; the input reads as it did. -/
def clockSetSpec : ChangeSpec := { name := "clockSet", fn := fun _ => fun
  | [d1, d2, d3] => { results := [.lit (.bool true)], args := [d1, d2, d3] }
  | _ => none }
def clockSetRow : OpenClaim := { program := "ytjanlgnagooioaa", sum := "b11684e055563c805c9dcc3b0a8689ef52ae3dd5a2a27245e20fbdac493c8a51", func := "schisma/schismalaw27.ClockSet", spec := "clockSet", unfollowed := true, recurses := true, apart := false }
def ClockSetSaid : Prop := clockSetRow.holds Try.pinned (OpenSpec.ofChange clockSetSpec)

/-- ITS FALSE NEIGHBOUR: 'it returns false'. Refute it at one input. -/
def clockSetWrong : ChangeSpec := { name := "clockSet", fn := fun _ => fun
  | [d1, d2, d3] => { results := [.lit (.bool false)], args := [d1, d2, d3] }
  | _ => none }
def ClockSetWrongFalsely : Prop := clockSetRow.holds Try.pinned (OpenSpec.ofChange clockSetWrong)

/-- 'schismalaw27.ClockCorrect': WHATEVER THE INPUT: true; the input reads as it did. -/
def clockCorrectSpec : ChangeSpec := { name := "clockCorrect", fn := fun _ => fun
  | [d1, d2, d3, d4] => { results := [.lit (.bool true)], args := [d1, d2, d3, d4] }
  | _ => none }
def clockCorrectRow : OpenClaim := { program := "ytjanlgnagooioaa", sum := "b11684e055563c805c9dcc3b0a8689ef52ae3dd5a2a27245e20fbdac493c8a51", func := "schisma/schismalaw27.ClockCorrect", spec := "clockCorrect", unfollowed := true, recurses := true, apart := false }
def ClockCorrectSaid : Prop := clockCorrectRow.holds Try.pinned (OpenSpec.ofChange clockCorrectSpec)

/-- ITS FALSE NEIGHBOUR: 'it returns false'. Refute it at one input. -/
def clockCorrectWrong : ChangeSpec := { name := "clockCorrect", fn := fun _ => fun
  | [d1, d2, d3, d4] => { results := [.lit (.bool false)], args := [d1, d2, d3, d4] }
  | _ => none }
def ClockCorrectWrongFalsely : Prop := clockCorrectRow.holds Try.pinned (OpenSpec.ofChange clockCorrectWrong)

/-- 'schismalaw27.ClockAgree': WHATEVER THE INPUT: true; the input reads as it did. -/
def clockAgreeSpec : ChangeSpec := { name := "clockAgree", fn := fun _ => fun
  | [d1, d2, d3, d4, d5] => { results := [.lit (.bool true)], args := [d1, d2, d3, d4, d5] }
  | _ => none }
def clockAgreeRow : OpenClaim := { program := "ytjanlgnagooioaa", sum := "b11684e055563c805c9dcc3b0a8689ef52ae3dd5a2a27245e20fbdac493c8a51", func := "schisma/schismalaw27.ClockAgree", spec := "clockAgree", unfollowed := true, recurses := true, apart := false }
def ClockAgreeSaid : Prop := clockAgreeRow.holds Try.pinned (OpenSpec.ofChange clockAgreeSpec)

/-- ITS FALSE NEIGHBOUR: 'it returns false'. Refute it at one input. -/
def clockAgreeWrong : ChangeSpec := { name := "clockAgree", fn := fun _ => fun
  | [d1, d2, d3, d4, d5] => { results := [.lit (.bool false)], args := [d1, d2, d3, d4, d5] }
  | _ => none }
def ClockAgreeWrongFalsely : Prop := clockAgreeRow.holds Try.pinned (OpenSpec.ofChange clockAgreeWrong)

/- THE SECOND FORM. 'bulk': how many values and letters a reading holds, each counted each time it is reached (what is shared counts as often as it is met; a slice's spare places count too). A statement '..UptoSaid' is the law's where the arguments, and the package variables that the reading takes, are together of bulk at most 1048576: NARROWER than '..Said'. Prove '..Said' where nothing that the law and all that it calls make is longer than what came in: it says more and counts as full. Else prove '..UptoSaid'. A law counts once. -/
mutual
def uptoBulk {H : Type} : DataW H → Nat
  | .lit (.string bytes) => bytes.length + 1
  | .lit _ => 1
  | .nil => 1
  | .ptr d => uptoBulk d + 1
  | .slice elems spare => uptoBulkAll elems + uptoBulkAll spare + 1
  | .agg parts => uptoBulkAll parts + 1
  | .iface _ d => uptoBulk d + 1
  | .map entries => uptoBulkEntries entries + 1
  | .held _ => 1
def uptoBulkAll {H : Type} : List (DataW H) → Nat
  | [] => 0
  | d :: r => uptoBulk d + uptoBulkAll r
def uptoBulkEntries {H : Type} : List (Lit × DataW H) → Nat
  | [] => 0
  | x :: r => uptoBulkEntry x + uptoBulkEntries r
def uptoBulkEntry {H : Type} : Lit × DataW H → Nat
  | (.string bytes, d) => bytes.length + uptoBulk d + 1
  | (_, d) => uptoBulk d + 1
 end
def uptoSmall : (H : Type) → List (DataW H) → Bool := fun _ ds => decide (uptoBulkAll ds ≤ 1048576)
def OpenSpec.upto (s : _root_.Go.ChangeSpec) : _root_.Go.OpenSpec := { _root_.Go.OpenSpec.ofChange s with cond := some uptoSmall }

/-- 'schismalaw27.ClockMatchesReference', WHERE WHAT IT READS IS OF BULK AT MOST 1048576: true; the input reads as it did. -/
def clockMatchesReferenceUptoRow : OpenClaim := { program := "ytjanlgnagooioaa", sum := "b11684e055563c805c9dcc3b0a8689ef52ae3dd5a2a27245e20fbdac493c8a51", func := "schisma/schismalaw27.ClockMatchesReference", spec := "clockMatchesReference", unfollowed := true, recurses := true, apart := false, narrowed := true }
def ClockMatchesReferenceUptoSaid : Prop := clockMatchesReferenceUptoRow.holds Try.pinned (OpenSpec.upto clockMatchesReferenceSpec)

/-- 'schismalaw27.ClockTruth', WHERE WHAT IT READS IS OF BULK AT MOST 1048576: true; the input reads as it did. -/
def clockTruthUptoRow : OpenClaim := { program := "ytjanlgnagooioaa", sum := "b11684e055563c805c9dcc3b0a8689ef52ae3dd5a2a27245e20fbdac493c8a51", func := "schisma/schismalaw27.ClockTruth", spec := "clockTruth", unfollowed := true, recurses := true, apart := false, narrowed := true }
def ClockTruthUptoSaid : Prop := clockTruthUptoRow.holds Try.pinned (OpenSpec.upto clockTruthSpec)

/-- 'schismalaw27.ClockForward', WHERE WHAT IT READS IS OF BULK AT MOST 1048576: true; the input reads as it did. -/
def clockForwardUptoRow : OpenClaim := { program := "ytjanlgnagooioaa", sum := "b11684e055563c805c9dcc3b0a8689ef52ae3dd5a2a27245e20fbdac493c8a51", func := "schisma/schismalaw27.ClockForward", spec := "clockForward", unfollowed := true, recurses := true, apart := false, narrowed := true }
def ClockForwardUptoSaid : Prop := clockForwardUptoRow.holds Try.pinned (OpenSpec.upto clockForwardSpec)

/-- 'schismalaw27.ClockPassed', WHERE WHAT IT READS IS OF BULK AT MOST 1048576: true; the input reads as it did. -/
def clockPassedUptoRow : OpenClaim := { program := "ytjanlgnagooioaa", sum := "b11684e055563c805c9dcc3b0a8689ef52ae3dd5a2a27245e20fbdac493c8a51", func := "schisma/schismalaw27.ClockPassed", spec := "clockPassed", unfollowed := true, recurses := true, apart := false, narrowed := true }
def ClockPassedUptoSaid : Prop := clockPassedUptoRow.holds Try.pinned (OpenSpec.upto clockPassedSpec)

/-- 'schismalaw27.ClockSure', WHERE WHAT IT READS IS OF BULK AT MOST 1048576: true; the input reads as it did. -/
def clockSureUptoRow : OpenClaim := { program := "ytjanlgnagooioaa", sum := "b11684e055563c805c9dcc3b0a8689ef52ae3dd5a2a27245e20fbdac493c8a51", func := "schisma/schismalaw27.ClockSure", spec := "clockSure", unfollowed := true, recurses := true, apart := false, narrowed := true }
def ClockSureUptoSaid : Prop := clockSureUptoRow.holds Try.pinned (OpenSpec.upto clockSureSpec)

/-- 'schismalaw27.ClockSet', WHERE WHAT IT READS IS OF BULK AT MOST 1048576: true; the input reads as it did. -/
def clockSetUptoRow : OpenClaim := { program := "ytjanlgnagooioaa", sum := "b11684e055563c805c9dcc3b0a8689ef52ae3dd5a2a27245e20fbdac493c8a51", func := "schisma/schismalaw27.ClockSet", spec := "clockSet", unfollowed := true, recurses := true, apart := false, narrowed := true }
def ClockSetUptoSaid : Prop := clockSetUptoRow.holds Try.pinned (OpenSpec.upto clockSetSpec)

/-- 'schismalaw27.ClockCorrect', WHERE WHAT IT READS IS OF BULK AT MOST 1048576: true; the input reads as it did. -/
def clockCorrectUptoRow : OpenClaim := { program := "ytjanlgnagooioaa", sum := "b11684e055563c805c9dcc3b0a8689ef52ae3dd5a2a27245e20fbdac493c8a51", func := "schisma/schismalaw27.ClockCorrect", spec := "clockCorrect", unfollowed := true, recurses := true, apart := false, narrowed := true }
def ClockCorrectUptoSaid : Prop := clockCorrectUptoRow.holds Try.pinned (OpenSpec.upto clockCorrectSpec)

/-- 'schismalaw27.ClockAgree', WHERE WHAT IT READS IS OF BULK AT MOST 1048576: true; the input reads as it did. -/
def clockAgreeUptoRow : OpenClaim := { program := "ytjanlgnagooioaa", sum := "b11684e055563c805c9dcc3b0a8689ef52ae3dd5a2a27245e20fbdac493c8a51", func := "schisma/schismalaw27.ClockAgree", spec := "clockAgree", unfollowed := true, recurses := true, apart := false, narrowed := true }
def ClockAgreeUptoSaid : Prop := clockAgreeUptoRow.holds Try.pinned (OpenSpec.upto clockAgreeSpec)

end Rows
end Go.Proofs.Ytjanlgnagooioaa
