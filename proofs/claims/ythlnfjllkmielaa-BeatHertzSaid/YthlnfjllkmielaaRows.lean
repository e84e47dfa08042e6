/-
  No cell of these rows narrows 'for every input' (looked for: loops, veiled, ifaces, maps, wideKeys, modest, calm, conditions, laid).
  DERIVED. THE GIVEN ROWS OF THIS SEAT. 8 by the template 'for every input the law returns true; each argument reads behind the call as it read before'; 0 by the template 'total and deterministic' (their statements: YthlnfjllkmielaaTotals.lean).
  GIVEN WITH THE SEED: the statements are not yours to turn. If you find one false, say at which input.
  Laid BY PROGRAM, IN A SANDBOX (cutbox-rows.mjs): the forced cells as the released guide's own fill.sh prints them over the translation e728219b933ecac0… (all of the seat's roots in one cut). By AI agents, Wed Nov 11 2026. No macro, syntax, notation, axiom, sorry.
-/
import Derived.Test.YthlnfjllkmielaaChecked
import GoSem.Claim
import GoSem.ClaimJoined
import GoSem.ClaimMapViews
import Derived.JoinedTies
import Derived.KernelRfl
namespace Go.Proofs.Ythlnfjllkmielaa
/- THE CELL 'sum', in the pinned program and in every row, IS THE sha256 OF THE DUMP (.gsa) THAT YthlnfjllkmielaaProg.lean LOADS. Nothing in Lean hashes anything: it is a label: what it is worth is what the hold of that sum in a sandbox is worth. -/
noncomputable def Try.pinned : Pinned := { name := "ythlnfjllkmielaa", sum := "e728219b933ecac0a929ab3b6907351a5806d1ef8680ff3a935f9f207e764a77", checked := Try.checked }
namespace Rows
def none {H : Type} : Left H := { results := [], args := [] }

/-- 'schismalaw17.BeatMatchesReference': WHATEVER THE INPUT: true; the input reads as it did. -/
def beatMatchesReferenceSpec : ChangeSpec := { name := "beatMatchesReference", fn := fun _ => fun
  | [d1, d2, d3, d4, d5, d6, d7, d8, d9, d10] => { results := [.lit (.bool true)], args := [d1, d2, d3, d4, d5, d6, d7, d8, d9, d10] }
  | _ => none }
def beatMatchesReferenceRow : OpenClaim := { program := "ythlnfjllkmielaa", sum := "e728219b933ecac0a929ab3b6907351a5806d1ef8680ff3a935f9f207e764a77", func := "schisma/schismalaw17.BeatMatchesReference", spec := "beatMatchesReference", unfollowed := true, recurses := true, apart := false }
def BeatMatchesReferenceSaid : Prop := beatMatchesReferenceRow.holds Try.pinned (OpenSpec.ofChange beatMatchesReferenceSpec)

/-- ITS FALSE NEIGHBOUR: 'it returns false'. Refute it at one input. -/
def beatMatchesReferenceWrong : ChangeSpec := { name := "beatMatchesReference", fn := fun _ => fun
  | [d1, d2, d3, d4, d5, d6, d7, d8, d9, d10] => { results := [.lit (.bool false)], args := [d1, d2, d3, d4, d5, d6, d7, d8, d9, d10] }
  | _ => none }
def BeatMatchesReferenceWrongFalsely : Prop := beatMatchesReferenceRow.holds Try.pinned (OpenSpec.ofChange beatMatchesReferenceWrong)

/-- 'schismalaw17.BeatSet': WHATEVER THE INPUT: true; the input reads as it did. -/
def beatSetSpec : ChangeSpec := { name := "beatSet", fn := fun _ => fun
  | [d1, d2, d3, d4, d5] => { results := [.lit (.bool true)], args := [d1, d2, d3, d4, d5] }
  | _ => none }
def beatSetRow : OpenClaim := { program := "ythlnfjllkmielaa", sum := "e728219b933ecac0a929ab3b6907351a5806d1ef8680ff3a935f9f207e764a77", func := "schisma/schismalaw17.BeatSet", spec := "beatSet", unfollowed := true, recurses := true, apart := false }
def BeatSetSaid : Prop := beatSetRow.holds Try.pinned (OpenSpec.ofChange beatSetSpec)

/-- ITS FALSE NEIGHBOUR: 'it returns false'. Refute it at one input. -/
def beatSetWrong : ChangeSpec := { name := "beatSet", fn := fun _ => fun
  | [d1, d2, d3, d4, d5] => { results := [.lit (.bool false)], args := [d1, d2, d3, d4, d5] }
  | _ => none }
def BeatSetWrongFalsely : Prop := beatSetRow.holds Try.pinned (OpenSpec.ofChange beatSetWrong)

/-- 'schismalaw17.BeatPure': WHATEVER THE INPUT: true; the input reads as it did. -/
def beatPureSpec : ChangeSpec := { name := "beatPure", fn := fun _ => fun
  | [d1, d2, d3] => { results := [.lit (.bool true)], args := [d1, d2, d3] }
  | _ => none }
def beatPureRow : OpenClaim := { program := "ythlnfjllkmielaa", sum := "e728219b933ecac0a929ab3b6907351a5806d1ef8680ff3a935f9f207e764a77", func := "schisma/schismalaw17.BeatPure", spec := "beatPure", unfollowed := true, recurses := true, apart := false }
def BeatPureSaid : Prop := beatPureRow.holds Try.pinned (OpenSpec.ofChange beatPureSpec)

/-- ITS FALSE NEIGHBOUR: 'it returns false'. Refute it at one input. -/
def beatPureWrong : ChangeSpec := { name := "beatPure", fn := fun _ => fun
  | [d1, d2, d3] => { results := [.lit (.bool false)], args := [d1, d2, d3] }
  | _ => none }
def BeatPureWrongFalsely : Prop := beatPureRow.holds Try.pinned (OpenSpec.ofChange beatPureWrong)

/-- 'schismalaw17.BeatMultiples': WHATEVER THE INPUT: true; the input reads as it did. -/
def beatMultiplesSpec : ChangeSpec := { name := "beatMultiples", fn := fun _ => fun
  | [d1, d2, d3, d4, d5] => { results := [.lit (.bool true)], args := [d1, d2, d3, d4, d5] }
  | _ => none }
def beatMultiplesRow : OpenClaim := { program := "ythlnfjllkmielaa", sum := "e728219b933ecac0a929ab3b6907351a5806d1ef8680ff3a935f9f207e764a77", func := "schisma/schismalaw17.BeatMultiples", spec := "beatMultiples", unfollowed := true, recurses := true, apart := false }
def BeatMultiplesSaid : Prop := beatMultiplesRow.holds Try.pinned (OpenSpec.ofChange beatMultiplesSpec)

/-- ITS FALSE NEIGHBOUR: 'it returns false'. Refute it at one input. -/
def beatMultiplesWrong : ChangeSpec := { name := "beatMultiples", fn := fun _ => fun
  | [d1, d2, d3, d4, d5] => { results := [.lit (.bool false)], args := [d1, d2, d3, d4, d5] }
  | _ => none }
def BeatMultiplesWrongFalsely : Prop := beatMultiplesRow.holds Try.pinned (OpenSpec.ofChange beatMultiplesWrong)

/-- 'schismalaw17.BeatCounts': WHATEVER THE INPUT: true; the input reads as it did. -/
def beatCountsSpec : ChangeSpec := { name := "beatCounts", fn := fun _ => fun
  | [d1, d2, d3] => { results := [.lit (.bool true)], args := [d1, d2, d3] }
  | _ => none }
def beatCountsRow : OpenClaim := { program := "ythlnfjllkmielaa", sum := "e728219b933ecac0a929ab3b6907351a5806d1ef8680ff3a935f9f207e764a77", func := "schisma/schismalaw17.BeatCounts", spec := "beatCounts", unfollowed := true, recurses := true, apart := false }
def BeatCountsSaid : Prop := beatCountsRow.holds Try.pinned (OpenSpec.ofChange beatCountsSpec)

/-- ITS FALSE NEIGHBOUR: 'it returns false'. Refute it at one input. -/
def beatCountsWrong : ChangeSpec := { name := "beatCounts", fn := fun _ => fun
  | [d1, d2, d3] => { results := [.lit (.bool false)], args := [d1, d2, d3] }
  | _ => none }
def BeatCountsWrongFalsely : Prop := beatCountsRow.holds Try.pinned (OpenSpec.ofChange beatCountsWrong)

/-- 'schismalaw17.BeatBands': WHATEVER THE INPUT: true; the input reads as it did. -/
def beatBandsSpec : ChangeSpec := { name := "beatBands", fn := fun _ => fun
  | [d1, d2, d3, d4, d5, d6, d7] => { results := [.lit (.bool true)], args := [d1, d2, d3, d4, d5, d6, d7] }
  | _ => none }
def beatBandsRow : OpenClaim := { program := "ythlnfjllkmielaa", sum := "e728219b933ecac0a929ab3b6907351a5806d1ef8680ff3a935f9f207e764a77", func := "schisma/schismalaw17.BeatBands", spec := "beatBands", unfollowed := true, recurses := true, apart := false }
def BeatBandsSaid : Prop := beatBandsRow.holds Try.pinned (OpenSpec.ofChange beatBandsSpec)

/-- ITS FALSE NEIGHBOUR: 'it returns false'. Refute it at one input. -/
def beatBandsWrong : ChangeSpec := { name := "beatBands", fn := fun _ => fun
  | [d1, d2, d3, d4, d5, d6, d7] => { results := [.lit (.bool false)], args := [d1, d2, d3, d4, d5, d6, d7] }
  | _ => none }
def BeatBandsWrongFalsely : Prop := beatBandsRow.holds Try.pinned (OpenSpec.ofChange beatBandsWrong)

/-- 'schismalaw17.BeatTriangle': WHATEVER THE INPUT: true; the input reads as it did. -/
def beatTriangleSpec : ChangeSpec := { name := "beatTriangle", fn := fun _ => fun
  | [d1, d2, d3, d4, d5, d6] => { results := [.lit (.bool true)], args := [d1, d2, d3, d4, d5, d6] }
  | _ => none }
def beatTriangleRow : OpenClaim := { program := "ythlnfjllkmielaa", sum := "e728219b933ecac0a929ab3b6907351a5806d1ef8680ff3a935f9f207e764a77", func := "schisma/schismalaw17.BeatTriangle", spec := "beatTriangle", unfollowed := true, recurses := true, apart := false }
def BeatTriangleSaid : Prop := beatTriangleRow.holds Try.pinned (OpenSpec.ofChange beatTriangleSpec)

/-- ITS FALSE NEIGHBOUR: 'it returns false'. Refute it at one input. -/
def beatTriangleWrong : ChangeSpec := { name := "beatTriangle", fn := fun _ => fun
  | [d1, d2, d3, d4, d5, d6] => { results := [.lit (.bool false)], args := [d1, d2, d3, d4, d5, d6] }
  | _ => none }
def BeatTriangleWrongFalsely : Prop := beatTriangleRow.holds Try.pinned (OpenSpec.ofChange beatTriangleWrong)

/-- 'schismalaw17.BeatHertz': WHATEVER THE INPUT: true; the input reads as it did. -/
def beatHertzSpec : ChangeSpec := { name := "beatHertz", fn := fun _ => fun
  | [d1, d2, d3, d4, d5, d6] => { results := [.lit (.bool true)], args := [d1, d2, d3, d4, d5, d6] }
  | _ => none }
def beatHertzRow : OpenClaim := { program := "ythlnfjllkmielaa", sum := "e728219b933ecac0a929ab3b6907351a5806d1ef8680ff3a935f9f207e764a77", func := "schisma/schismalaw17.BeatHertz", spec := "beatHertz", unfollowed := true, recurses := true, apart := false }
def BeatHertzSaid : Prop := beatHertzRow.holds Try.pinned (OpenSpec.ofChange beatHertzSpec)

/-- ITS FALSE NEIGHBOUR: 'it returns false'. Refute it at one input. -/
def beatHertzWrong : ChangeSpec := { name := "beatHertz", fn := fun _ => fun
  | [d1, d2, d3, d4, d5, d6] => { results := [.lit (.bool false)], args := [d1, d2, d3, d4, d5, d6] }
  | _ => none }
def BeatHertzWrongFalsely : Prop := beatHertzRow.holds Try.pinned (OpenSpec.ofChange beatHertzWrong)

/- THE SECOND FORM. 'bulk': how many values and letters a reading holds, each counted each time it is reached (what is shared counts as often as it is met; a slice's spare places count too). A statement '..UptoSaid' is the law's where the arguments, and the package variables that the reading takes, are together of bulk at most 1048576: NARROWER than '..Said'. Prove '..Said' where nothing that the law and all that it calls make is longer than what came in: it says more and counts as full. Else prove '..UptoSaid'. A law counts once. -/
mutual
def uptoBulk {H : Type} : DataW H → Nat
  | .lit (.string bytes) => bytes.length + 1
  | .lit _ => 1
  | .nil => 1
  | .ptr d => uptoBulk d + 1
  | .slice elems spare => uptoBulkAll elems + uptoBulkAll spare + 1
  | .agg parts => uptoBulkAll parts + 1
  | .iface _ d => uptoBulk d + 1
  | .map entries => uptoBulkEntries entries + 1
  | .held _ => 1
def uptoBulkAll {H : Type} : List (DataW H) → Nat
  | [] => 0
  | d :: r => uptoBulk d + uptoBulkAll r
def uptoBulkEntries {H : Type} : List (Lit × DataW H) → Nat
  | [] => 0
  | x :: r => uptoBulkEntry x + uptoBulkEntries r
def uptoBulkEntry {H : Type} : Lit × DataW H → Nat
  | (.string bytes, d) => bytes.length + uptoBulk d + 1
  | (_, d) => uptoBulk d + 1
 end
def uptoSmall : (H : Type) → List (DataW H) → Bool := fun _ ds => decide (uptoBulkAll ds ≤ 1048576)
def OpenSpec.upto (s : _root_.Go.ChangeSpec) : _root_.Go.OpenSpec := { _root_.Go.OpenSpec.ofChange s with cond := some uptoSmall }

/-- 'schismalaw17.BeatMatchesReference', WHERE WHAT IT READS IS OF BULK AT MOST 1048576: true; the input reads as it did. -/
def beatMatchesReferenceUptoRow : OpenClaim := { program := "ythlnfjllkmielaa", sum := "e728219b933ecac0a929ab3b6907351a5806d1ef8680ff3a935f9f207e764a77", func := "schisma/schismalaw17.BeatMatchesReference", spec := "beatMatchesReference", unfollowed := true, recurses := true, apart := false, narrowed := true }
def BeatMatchesReferenceUptoSaid : Prop := beatMatchesReferenceUptoRow.holds Try.pinned (OpenSpec.upto beatMatchesReferenceSpec)

/-- 'schismalaw17.BeatSet', WHERE WHAT IT READS IS OF BULK AT MOST 1048576: true; the input reads as it did. -/
def beatSetUptoRow : OpenClaim := { program := "ythlnfjllkmielaa", sum := "e728219b933ecac0a929ab3b6907351a5806d1ef8680ff3a935f9f207e764a77", func := "schisma/schismalaw17.BeatSet", spec := "beatSet", unfollowed := true, recurses := true, apart := false, narrowed := true }
def BeatSetUptoSaid : Prop := beatSetUptoRow.holds Try.pinned (OpenSpec.upto beatSetSpec)

/-- 'schismalaw17.BeatPure', WHERE WHAT IT READS IS OF BULK AT MOST 1048576: true; the input reads as it did. -/
def beatPureUptoRow : OpenClaim := { program := "ythlnfjllkmielaa", sum := "e728219b933ecac0a929ab3b6907351a5806d1ef8680ff3a935f9f207e764a77", func := "schisma/schismalaw17.BeatPure", spec := "beatPure", unfollowed := true, recurses := true, apart := false, narrowed := true }
def BeatPureUptoSaid : Prop := beatPureUptoRow.holds Try.pinned (OpenSpec.upto beatPureSpec)

/-- 'schismalaw17.BeatMultiples', WHERE WHAT IT READS IS OF BULK AT MOST 1048576: true; the input reads as it did. -/
def beatMultiplesUptoRow : OpenClaim := { program := "ythlnfjllkmielaa", sum := "e728219b933ecac0a929ab3b6907351a5806d1ef8680ff3a935f9f207e764a77", func := "schisma/schismalaw17.BeatMultiples", spec := "beatMultiples", unfollowed := true, recurses := true, apart := false, narrowed := true }
def BeatMultiplesUptoSaid : Prop := beatMultiplesUptoRow.holds Try.pinned (OpenSpec.upto beatMultiplesSpec)

/-- 'schismalaw17.BeatCounts', WHERE WHAT IT READS IS OF BULK AT MOST 1048576: true; the input reads as it did. -/
def beatCountsUptoRow : OpenClaim := { program := "ythlnfjllkmielaa", sum := "e728219b933ecac0a929ab3b6907351a5806d1ef8680ff3a935f9f207e764a77", func := "schisma/schismalaw17.BeatCounts", spec := "beatCounts", unfollowed := true, recurses := true, apart := false, narrowed := true }
def BeatCountsUptoSaid : Prop := beatCountsUptoRow.holds Try.pinned (OpenSpec.upto beatCountsSpec)

/-- 'schismalaw17.BeatBands', WHERE WHAT IT READS IS OF BULK AT MOST 1048576: true; the input reads as it did. -/
def beatBandsUptoRow : OpenClaim := { program := "ythlnfjllkmielaa", sum := "e728219b933ecac0a929ab3b6907351a5806d1ef8680ff3a935f9f207e764a77", func := "schisma/schismalaw17.BeatBands", spec := "beatBands", unfollowed := true, recurses := true, apart := false, narrowed := true }
def BeatBandsUptoSaid : Prop := beatBandsUptoRow.holds Try.pinned (OpenSpec.upto beatBandsSpec)

/-- 'schismalaw17.BeatTriangle', WHERE WHAT IT READS IS OF BULK AT MOST 1048576: true; the input reads as it did. -/
def beatTriangleUptoRow : OpenClaim := { program := "ythlnfjllkmielaa", sum := "e728219b933ecac0a929ab3b6907351a5806d1ef8680ff3a935f9f207e764a77", func := "schisma/schismalaw17.BeatTriangle", spec := "beatTriangle", unfollowed := true, recurses := true, apart := false, narrowed := true }
def BeatTriangleUptoSaid : Prop := beatTriangleUptoRow.holds Try.pinned (OpenSpec.upto beatTriangleSpec)

/-- 'schismalaw17.BeatHertz', WHERE WHAT IT READS IS OF BULK AT MOST 1048576: true; the input reads as it did. -/
def beatHertzUptoRow : OpenClaim := { program := "ythlnfjllkmielaa", sum := "e728219b933ecac0a929ab3b6907351a5806d1ef8680ff3a935f9f207e764a77", func := "schisma/schismalaw17.BeatHertz", spec := "beatHertz", unfollowed := true, recurses := true, apart := false, narrowed := true }
def BeatHertzUptoSaid : Prop := beatHertzUptoRow.holds Try.pinned (OpenSpec.upto beatHertzSpec)

end Rows
end Go.Proofs.Ythlnfjllkmielaa
