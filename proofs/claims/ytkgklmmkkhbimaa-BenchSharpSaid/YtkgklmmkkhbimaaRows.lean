/-
  No cell of these rows narrows 'for every input' (looked for: loops, veiled, ifaces, maps, wideKeys, modest, calm, conditions, laid).
  DERIVED. THE GIVEN ROWS OF THIS SEAT. 8 by the template 'for every input the law returns true; each argument reads behind the call as it read before'; 0 by the template 'total and deterministic' (their statements: YtkgklmmkkhbimaaTotals.lean).
  GIVEN WITH THE SEED: the statements are not yours to turn. If you find one false, say at which input.
  Laid BY PROGRAM, IN A SANDBOX (cutbox-rows.mjs): the forced cells as the released guide's own fill.sh prints them over the translation bf416f3a80447bd3… (all of the seat's roots in one cut). By AI agents, Wed Nov 11 2026. No macro, syntax, notation, axiom, sorry.
-/
import Derived.Test.YtkgklmmkkhbimaaChecked
import GoSem.Claim
import GoSem.ClaimJoined
import GoSem.ClaimMapViews
import Derived.JoinedTies
import Derived.KernelRfl
namespace Go.Proofs.Ytkgklmmkkhbimaa
/- THE CELL 'sum', in the pinned program and in every row, IS THE sha256 OF THE DUMP (.gsa) THAT YtkgklmmkkhbimaaProg.lean LOADS. Nothing in Lean hashes anything: it is a label: what it is worth is what the hold of that sum in a sandbox is worth. -/
noncomputable def Try.pinned : Pinned := { name := "ytkgklmmkkhbimaa", sum := "bf416f3a80447bd343002722944ce05039015b6a7131199fc90ebae2dd42f5e2", checked := Try.checked }
namespace Rows
def none {H : Type} : Left H := { results := [], args := [] }

/-- 'schismalaw18.BenchMatchesReference': WHATEVER THE INPUT: true; the input reads as it did. -/
def benchMatchesReferenceSpec : ChangeSpec := { name := "benchMatchesReference", fn := fun _ => fun
  | [d1, d2, d3, d4, d5, d6, d7, d8, d9] => { results := [.lit (.bool true)], args := [d1, d2, d3, d4, d5, d6, d7, d8, d9] }
  | _ => none }
def benchMatchesReferenceRow : OpenClaim := { program := "ytkgklmmkkhbimaa", sum := "bf416f3a80447bd343002722944ce05039015b6a7131199fc90ebae2dd42f5e2", func := "schisma/schismalaw18.BenchMatchesReference", spec := "benchMatchesReference", unfollowed := true, recurses := true, apart := false }
def BenchMatchesReferenceSaid : Prop := benchMatchesReferenceRow.holds Try.pinned (OpenSpec.ofChange benchMatchesReferenceSpec)

/-- ITS FALSE NEIGHBOUR: 'it returns false'. Refute it at one input. -/
def benchMatchesReferenceWrong : ChangeSpec := { name := "benchMatchesReference", fn := fun _ => fun
  | [d1, d2, d3, d4, d5, d6, d7, d8, d9] => { results := [.lit (.bool false)], args := [d1, d2, d3, d4, d5, d6, d7, d8, d9] }
  | _ => none }
def BenchMatchesReferenceWrongFalsely : Prop := benchMatchesReferenceRow.holds Try.pinned (OpenSpec.ofChange benchMatchesReferenceWrong)

/-- 'schismalaw18.BenchSharp': WHATEVER THE INPUT: true; the input reads as it did. -/
def benchSharpSpec : ChangeSpec := { name := "benchSharp", fn := fun _ => fun
  | [d1, d2, d3, d4] => { results := [.lit (.bool true)], args := [d1, d2, d3, d4] }
  | _ => none }
def benchSharpRow : OpenClaim := { program := "ytkgklmmkkhbimaa", sum := "bf416f3a80447bd343002722944ce05039015b6a7131199fc90ebae2dd42f5e2", func := "schisma/schismalaw18.BenchSharp", spec := "benchSharp", unfollowed := true, recurses := true, apart := false }
def BenchSharpSaid : Prop := benchSharpRow.holds Try.pinned (OpenSpec.ofChange benchSharpSpec)

/-- ITS FALSE NEIGHBOUR: 'it returns false'. Refute it at one input. -/
def benchSharpWrong : ChangeSpec := { name := "benchSharp", fn := fun _ => fun
  | [d1, d2, d3, d4] => { results := [.lit (.bool false)], args := [d1, d2, d3, d4] }
  | _ => none }
def BenchSharpWrongFalsely : Prop := benchSharpRow.holds Try.pinned (OpenSpec.ofChange benchSharpWrong)

/-- 'schismalaw18.BenchRepairs': WHATEVER THE INPUT: true; the input reads as it did. -/
def benchRepairsSpec : ChangeSpec := { name := "benchRepairs", fn := fun _ => fun
  | [d1, d2, d3, d4, d5] => { results := [.lit (.bool true)], args := [d1, d2, d3, d4, d5] }
  | _ => none }
def benchRepairsRow : OpenClaim := { program := "ytkgklmmkkhbimaa", sum := "bf416f3a80447bd343002722944ce05039015b6a7131199fc90ebae2dd42f5e2", func := "schisma/schismalaw18.BenchRepairs", spec := "benchRepairs", unfollowed := true, recurses := true, apart := false }
def BenchRepairsSaid : Prop := benchRepairsRow.holds Try.pinned (OpenSpec.ofChange benchRepairsSpec)

/-- ITS FALSE NEIGHBOUR: 'it returns false'. Refute it at one input. -/
def benchRepairsWrong : ChangeSpec := { name := "benchRepairs", fn := fun _ => fun
  | [d1, d2, d3, d4, d5] => { results := [.lit (.bool false)], args := [d1, d2, d3, d4, d5] }
  | _ => none }
def BenchRepairsWrongFalsely : Prop := benchRepairsRow.holds Try.pinned (OpenSpec.ofChange benchRepairsWrong)

/-- 'schismalaw18.BenchRests': WHATEVER THE INPUT: true; the input reads as it did. -/
def benchRestsSpec : ChangeSpec := { name := "benchRests", fn := fun _ => fun
  | [d1, d2, d3] => { results := [.lit (.bool true)], args := [d1, d2, d3] }
  | _ => none }
def benchRestsRow : OpenClaim := { program := "ytkgklmmkkhbimaa", sum := "bf416f3a80447bd343002722944ce05039015b6a7131199fc90ebae2dd42f5e2", func := "schisma/schismalaw18.BenchRests", spec := "benchRests", unfollowed := true, recurses := true, apart := false }
def BenchRestsSaid : Prop := benchRestsRow.holds Try.pinned (OpenSpec.ofChange benchRestsSpec)

/-- ITS FALSE NEIGHBOUR: 'it returns false'. Refute it at one input. -/
def benchRestsWrong : ChangeSpec := { name := "benchRests", fn := fun _ => fun
  | [d1, d2, d3] => { results := [.lit (.bool false)], args := [d1, d2, d3] }
  | _ => none }
def BenchRestsWrongFalsely : Prop := benchRestsRow.holds Try.pinned (OpenSpec.ofChange benchRestsWrong)

/-- 'schismalaw18.BenchSuspects': WHATEVER THE INPUT: true; the input reads as it did. -/
def benchSuspectsSpec : ChangeSpec := { name := "benchSuspects", fn := fun _ => fun
  | [d1, d2, d3, d4, d5] => { results := [.lit (.bool true)], args := [d1, d2, d3, d4, d5] }
  | _ => none }
def benchSuspectsRow : OpenClaim := { program := "ytkgklmmkkhbimaa", sum := "bf416f3a80447bd343002722944ce05039015b6a7131199fc90ebae2dd42f5e2", func := "schisma/schismalaw18.BenchSuspects", spec := "benchSuspects", unfollowed := true, recurses := true, apart := false }
def BenchSuspectsSaid : Prop := benchSuspectsRow.holds Try.pinned (OpenSpec.ofChange benchSuspectsSpec)

/-- ITS FALSE NEIGHBOUR: 'it returns false'. Refute it at one input. -/
def benchSuspectsWrong : ChangeSpec := { name := "benchSuspects", fn := fun _ => fun
  | [d1, d2, d3, d4, d5] => { results := [.lit (.bool false)], args := [d1, d2, d3, d4, d5] }
  | _ => none }
def BenchSuspectsWrongFalsely : Prop := benchSuspectsRow.holds Try.pinned (OpenSpec.ofChange benchSuspectsWrong)

/-- 'schismalaw18.BenchOrder': WHATEVER THE INPUT: true; the input reads as it did. -/
def benchOrderSpec : ChangeSpec := { name := "benchOrder", fn := fun _ => fun
  | [d1, d2, d3, d4, d5] => { results := [.lit (.bool true)], args := [d1, d2, d3, d4, d5] }
  | _ => none }
def benchOrderRow : OpenClaim := { program := "ytkgklmmkkhbimaa", sum := "bf416f3a80447bd343002722944ce05039015b6a7131199fc90ebae2dd42f5e2", func := "schisma/schismalaw18.BenchOrder", spec := "benchOrder", unfollowed := true, recurses := true, apart := false }
def BenchOrderSaid : Prop := benchOrderRow.holds Try.pinned (OpenSpec.ofChange benchOrderSpec)

/-- ITS FALSE NEIGHBOUR: 'it returns false'. Refute it at one input. -/
def benchOrderWrong : ChangeSpec := { name := "benchOrder", fn := fun _ => fun
  | [d1, d2, d3, d4, d5] => { results := [.lit (.bool false)], args := [d1, d2, d3, d4, d5] }
  | _ => none }
def BenchOrderWrongFalsely : Prop := benchOrderRow.holds Try.pinned (OpenSpec.ofChange benchOrderWrong)

/-- 'schismalaw18.BenchBounds': WHATEVER THE INPUT: true; the input reads as it did. -/
def benchBoundsSpec : ChangeSpec := { name := "benchBounds", fn := fun _ => fun
  | [d1, d2, d3, d4, d5] => { results := [.lit (.bool true)], args := [d1, d2, d3, d4, d5] }
  | _ => none }
def benchBoundsRow : OpenClaim := { program := "ytkgklmmkkhbimaa", sum := "bf416f3a80447bd343002722944ce05039015b6a7131199fc90ebae2dd42f5e2", func := "schisma/schismalaw18.BenchBounds", spec := "benchBounds", unfollowed := true, recurses := true, apart := false }
def BenchBoundsSaid : Prop := benchBoundsRow.holds Try.pinned (OpenSpec.ofChange benchBoundsSpec)

/-- ITS FALSE NEIGHBOUR: 'it returns false'. Refute it at one input. -/
def benchBoundsWrong : ChangeSpec := { name := "benchBounds", fn := fun _ => fun
  | [d1, d2, d3, d4, d5] => { results := [.lit (.bool false)], args := [d1, d2, d3, d4, d5] }
  | _ => none }
def BenchBoundsWrongFalsely : Prop := benchBoundsRow.holds Try.pinned (OpenSpec.ofChange benchBoundsWrong)

/-- 'schismalaw18.BenchEars': WHATEVER THE INPUT: true; the input reads as it did. -/
def benchEarsSpec : ChangeSpec := { name := "benchEars", fn := fun _ => fun
  | [d1, d2, d3, d4, d5] => { results := [.lit (.bool true)], args := [d1, d2, d3, d4, d5] }
  | _ => none }
def benchEarsRow : OpenClaim := { program := "ytkgklmmkkhbimaa", sum := "bf416f3a80447bd343002722944ce05039015b6a7131199fc90ebae2dd42f5e2", func := "schisma/schismalaw18.BenchEars", spec := "benchEars", unfollowed := true, recurses := true, apart := false }
def BenchEarsSaid : Prop := benchEarsRow.holds Try.pinned (OpenSpec.ofChange benchEarsSpec)

/-- ITS FALSE NEIGHBOUR: 'it returns false'. Refute it at one input. -/
def benchEarsWrong : ChangeSpec := { name := "benchEars", fn := fun _ => fun
  | [d1, d2, d3, d4, d5] => { results := [.lit (.bool false)], args := [d1, d2, d3, d4, d5] }
  | _ => none }
def BenchEarsWrongFalsely : Prop := benchEarsRow.holds Try.pinned (OpenSpec.ofChange benchEarsWrong)

/- THE SECOND FORM. 'bulk': how many values and letters a reading holds, each counted each time it is reached (what is shared counts as often as it is met; a slice's spare places count too). A statement '..UptoSaid' is the law's where the arguments, and the package variables that the reading takes, are together of bulk at most 1048576: NARROWER than '..Said'. Prove '..Said' where nothing that the law and all that it calls make is longer than what came in: it says more and counts as full. Else prove '..UptoSaid'. A law counts once. -/
mutual
def uptoBulk {H : Type} : DataW H → Nat
  | .lit (.string bytes) => bytes.length + 1
  | .lit _ => 1
  | .nil => 1
  | .ptr d => uptoBulk d + 1
  | .slice elems spare => uptoBulkAll elems + uptoBulkAll spare + 1
  | .agg parts => uptoBulkAll parts + 1
  | .iface _ d => uptoBulk d + 1
  | .map entries => uptoBulkEntries entries + 1
  | .held _ => 1
def uptoBulkAll {H : Type} : List (DataW H) → Nat
  | [] => 0
  | d :: r => uptoBulk d + uptoBulkAll r
def uptoBulkEntries {H : Type} : List (Lit × DataW H) → Nat
  | [] => 0
  | x :: r => uptoBulkEntry x + uptoBulkEntries r
def uptoBulkEntry {H : Type} : Lit × DataW H → Nat
  | (.string bytes, d) => bytes.length + uptoBulk d + 1
  | (_, d) => uptoBulk d + 1
 end
def uptoSmall : (H : Type) → List (DataW H) → Bool := fun _ ds => decide (uptoBulkAll ds ≤ 1048576)
def OpenSpec.upto (s : _root_.Go.ChangeSpec) : _root_.Go.OpenSpec := { _root_.Go.OpenSpec.ofChange s with cond := some uptoSmall }

/-- 'schismalaw18.BenchMatchesReference', WHERE WHAT IT READS IS OF BULK AT MOST 1048576: true; the input reads as it did. -/
def benchMatchesReferenceUptoRow : OpenClaim := { program := "ytkgklmmkkhbimaa", sum := "bf416f3a80447bd343002722944ce05039015b6a7131199fc90ebae2dd42f5e2", func := "schisma/schismalaw18.BenchMatchesReference", spec := "benchMatchesReference", unfollowed := true, recurses := true, apart := false, narrowed := true }
def BenchMatchesReferenceUptoSaid : Prop := benchMatchesReferenceUptoRow.holds Try.pinned (OpenSpec.upto benchMatchesReferenceSpec)

/-- 'schismalaw18.BenchSharp', WHERE WHAT IT READS IS OF BULK AT MOST 1048576: true; the input reads as it did. -/
def benchSharpUptoRow : OpenClaim := { program := "ytkgklmmkkhbimaa", sum := "bf416f3a80447bd343002722944ce05039015b6a7131199fc90ebae2dd42f5e2", func := "schisma/schismalaw18.BenchSharp", spec := "benchSharp", unfollowed := true, recurses := true, apart := false, narrowed := true }
def BenchSharpUptoSaid : Prop := benchSharpUptoRow.holds Try.pinned (OpenSpec.upto benchSharpSpec)

/-- 'schismalaw18.BenchRepairs', WHERE WHAT IT READS IS OF BULK AT MOST 1048576: true; the input reads as it did. -/
def benchRepairsUptoRow : OpenClaim := { program := "ytkgklmmkkhbimaa", sum := "bf416f3a80447bd343002722944ce05039015b6a7131199fc90ebae2dd42f5e2", func := "schisma/schismalaw18.BenchRepairs", spec := "benchRepairs", unfollowed := true, recurses := true, apart := false, narrowed := true }
def BenchRepairsUptoSaid : Prop := benchRepairsUptoRow.holds Try.pinned (OpenSpec.upto benchRepairsSpec)

/-- 'schismalaw18.BenchRests', WHERE WHAT IT READS IS OF BULK AT MOST 1048576: true; the input reads as it did. -/
def benchRestsUptoRow : OpenClaim := { program := "ytkgklmmkkhbimaa", sum := "bf416f3a80447bd343002722944ce05039015b6a7131199fc90ebae2dd42f5e2", func := "schisma/schismalaw18.BenchRests", spec := "benchRests", unfollowed := true, recurses := true, apart := false, narrowed := true }
def BenchRestsUptoSaid : Prop := benchRestsUptoRow.holds Try.pinned (OpenSpec.upto benchRestsSpec)

/-- 'schismalaw18.BenchSuspects', WHERE WHAT IT READS IS OF BULK AT MOST 1048576: true; the input reads as it did. -/
def benchSuspectsUptoRow : OpenClaim := { program := "ytkgklmmkkhbimaa", sum := "bf416f3a80447bd343002722944ce05039015b6a7131199fc90ebae2dd42f5e2", func := "schisma/schismalaw18.BenchSuspects", spec := "benchSuspects", unfollowed := true, recurses := true, apart := false, narrowed := true }
def BenchSuspectsUptoSaid : Prop := benchSuspectsUptoRow.holds Try.pinned (OpenSpec.upto benchSuspectsSpec)

/-- 'schismalaw18.BenchOrder', WHERE WHAT IT READS IS OF BULK AT MOST 1048576: true; the input reads as it did. -/
def benchOrderUptoRow : OpenClaim := { program := "ytkgklmmkkhbimaa", sum := "bf416f3a80447bd343002722944ce05039015b6a7131199fc90ebae2dd42f5e2", func := "schisma/schismalaw18.BenchOrder", spec := "benchOrder", unfollowed := true, recurses := true, apart := false, narrowed := true }
def BenchOrderUptoSaid : Prop := benchOrderUptoRow.holds Try.pinned (OpenSpec.upto benchOrderSpec)

/-- 'schismalaw18.BenchBounds', WHERE WHAT IT READS IS OF BULK AT MOST 1048576: true; the input reads as it did. -/
def benchBoundsUptoRow : OpenClaim := { program := "ytkgklmmkkhbimaa", sum := "bf416f3a80447bd343002722944ce05039015b6a7131199fc90ebae2dd42f5e2", func := "schisma/schismalaw18.BenchBounds", spec := "benchBounds", unfollowed := true, recurses := true, apart := false, narrowed := true }
def BenchBoundsUptoSaid : Prop := benchBoundsUptoRow.holds Try.pinned (OpenSpec.upto benchBoundsSpec)

/-- 'schismalaw18.BenchEars', WHERE WHAT IT READS IS OF BULK AT MOST 1048576: true; the input reads as it did. -/
def benchEarsUptoRow : OpenClaim := { program := "ytkgklmmkkhbimaa", sum := "bf416f3a80447bd343002722944ce05039015b6a7131199fc90ebae2dd42f5e2", func := "schisma/schismalaw18.BenchEars", spec := "benchEars", unfollowed := true, recurses := true, apart := false, narrowed := true }
def BenchEarsUptoSaid : Prop := benchEarsUptoRow.holds Try.pinned (OpenSpec.upto benchEarsSpec)

end Rows
end Go.Proofs.Ytkgklmmkkhbimaa
