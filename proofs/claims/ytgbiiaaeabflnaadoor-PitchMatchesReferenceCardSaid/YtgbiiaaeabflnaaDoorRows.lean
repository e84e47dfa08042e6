/-
  NARROWER THAN 'FOR EVERY INPUT', by the rows' own cells (each row's printed sentence says how): PitchOrder: laid · PitchTexts: laid · PitchPowers: laid · PitchMatchesReference: laid · PitchGroup: laid · PitchTranslated: laid · PitchFractions: laid.
  DERIVED. THE GIVEN ROWS OF THIS SEAT. 7 by the template 'for every input the law returns true; each argument reads behind the call as it read before'; 0 by the template 'total and deterministic' (their statements: YtgbiiaaeabflnaaDoorTotals.lean).
  GIVEN WITH THE SEED: the statements are not yours to turn. If you find one false, say at which input.
  Laid BY PROGRAM, IN A SANDBOX (cutbox-rows.mjs): the forced cells as the released guide's own fill.sh prints them over the translation 65201c3571e01a8b… (all of the seat's roots in one cut). By AI agents, Wed Nov 11 2026. No macro, syntax, notation, axiom, sorry.
-/
import Derived.Test.YtgbiiaaeabflnaaDoorChecked
import GoSem.Claim
import GoSem.ClaimJoined
import GoSem.ClaimMapViews
import Derived.JoinedTies
import Derived.KernelRfl
namespace Go.Proofs.YtgbiiaaeabflnaaDoor
/- THE CELL 'sum', in the pinned program and in every row, IS THE sha256 OF THE DUMP (.gsa) THAT YtgbiiaaeabflnaaDoorProg.lean LOADS. Nothing in Lean hashes anything: it is a label: what it is worth is what the hold of that sum in a sandbox is worth. -/
noncomputable def Tryd.pinned : Pinned := { name := "ytgbiiaaeabflnaadoor", sum := "65201c3571e01a8b7f32d0b3952c9635cb58959da3fb029ab80cb68017646947", checked := Tryd.checked }
namespace Rows
def none {H : Type} : Left H := { results := [], args := [] }

/- WHAT THE LISTED PACKAGE-LEVEL VARIABLES READ AS WHEN THE CALL BEGINS. Each datum BY PROGRAM (the guide's laid-datum.mjs) off the statement by which the dump's own 'gosem.cut.vars' lays the variable. In a bare row this is a premise. The card (YtgbiiaaeabflnaaDoorCards.lean) ties it to the program's text. -/
def laid_math_bits_deBruijn32tab {H : Type} : DataW H := .agg [.lit (.int .u8 0), .lit (.int .u8 1), .lit (.int .u8 28), .lit (.int .u8 2), .lit (.int .u8 29), .lit (.int .u8 14), .lit (.int .u8 24), .lit (.int .u8 3), .lit (.int .u8 30), .lit (.int .u8 22), .lit (.int .u8 20), .lit (.int .u8 15), .lit (.int .u8 25), .lit (.int .u8 17), .lit (.int .u8 4), .lit (.int .u8 8), .lit (.int .u8 31), .lit (.int .u8 27), .lit (.int .u8 13), .lit (.int .u8 23), .lit (.int .u8 21), .lit (.int .u8 19), .lit (.int .u8 16), .lit (.int .u8 7), .lit (.int .u8 26), .lit (.int .u8 12), .lit (.int .u8 18), .lit (.int .u8 6), .lit (.int .u8 11), .lit (.int .u8 5), .lit (.int .u8 10), .lit (.int .u8 9)]
def laid_math_bits_deBruijn64tab {H : Type} : DataW H := .agg [.lit (.int .u8 0), .lit (.int .u8 1), .lit (.int .u8 56), .lit (.int .u8 2), .lit (.int .u8 57), .lit (.int .u8 49), .lit (.int .u8 28), .lit (.int .u8 3), .lit (.int .u8 61), .lit (.int .u8 58), .lit (.int .u8 42), .lit (.int .u8 50), .lit (.int .u8 38), .lit (.int .u8 29), .lit (.int .u8 17), .lit (.int .u8 4), .lit (.int .u8 62), .lit (.int .u8 47), .lit (.int .u8 59), .lit (.int .u8 36), .lit (.int .u8 45), .lit (.int .u8 43), .lit (.int .u8 51), .lit (.int .u8 22), .lit (.int .u8 53), .lit (.int .u8 39), .lit (.int .u8 33), .lit (.int .u8 30), .lit (.int .u8 24), .lit (.int .u8 18), .lit (.int .u8 12), .lit (.int .u8 5), .lit (.int .u8 63), .lit (.int .u8 55), .lit (.int .u8 48), .lit (.int .u8 27), .lit (.int .u8 60), .lit (.int .u8 41), .lit (.int .u8 37), .lit (.int .u8 16), .lit (.int .u8 46), .lit (.int .u8 35), .lit (.int .u8 44), .lit (.int .u8 21), .lit (.int .u8 52), .lit (.int .u8 32), .lit (.int .u8 23), .lit (.int .u8 11), .lit (.int .u8 54), .lit (.int .u8 26), .lit (.int .u8 40), .lit (.int .u8 15), .lit (.int .u8 34), .lit (.int .u8 20), .lit (.int .u8 31), .lit (.int .u8 10), .lit (.int .u8 25), .lit (.int .u8 14), .lit (.int .u8 19), .lit (.int .u8 9), .lit (.int .u8 13), .lit (.int .u8 8), .lit (.int .u8 7), .lit (.int .u8 6)]
def laid_internal_strconv_uint64pow10 {H : Type} : DataW H := .agg [.lit (.int .u64 1), .lit (.int .u64 10), .lit (.int .u64 100), .lit (.int .u64 1000), .lit (.int .u64 10000), .lit (.int .u64 100000), .lit (.int .u64 1000000), .lit (.int .u64 10000000), .lit (.int .u64 100000000), .lit (.int .u64 1000000000), .lit (.int .u64 10000000000), .lit (.int .u64 100000000000), .lit (.int .u64 1000000000000), .lit (.int .u64 10000000000000), .lit (.int .u64 100000000000000), .lit (.int .u64 1000000000000000), .lit (.int .u64 10000000000000000), .lit (.int .u64 100000000000000000), .lit (.int .u64 1000000000000000000), .lit (.int .u64 10000000000000000000)]
def laid_schisma_pitch_primes {H : Type} : DataW H := .agg [.lit (.int .i64 2), .lit (.int .i64 3), .lit (.int .i64 5), .lit (.int .i64 7), .lit (.int .i64 11), .lit (.int .i64 13)]

/-- 'schismalaw03.PitchOrder': WHATEVER THE INPUT: true; the input reads as it did. -/
def pitchOrderSpec : ChangeSpec := { name := "pitchOrder", fn := fun _ => fun
  | [d1, d2, d3] => { results := [.lit (.bool true)], args := [d1, d2, d3] }
  | _ => none }
def pitchOrderRow : OpenClaim := { program := "ytgbiiaaeabflnaadoor", sum := "65201c3571e01a8b7f32d0b3952c9635cb58959da3fb029ab80cb68017646947", func := "schisma/schismalaw03.PitchOrder", spec := "pitchOrder", inPlace := ["internal/abi.NoEscape", "internal/bytealg.MakeNoZero"], unfollowed := true, recurses := true, named := ["schisma/pitch.primes", "internal/strconv.uint64pow10", "math/bits.deBruijn32tab", "math/bits.deBruijn64tab"], apart := false, laid := [("math/bits.deBruijn32tab", laid_math_bits_deBruijn32tab), ("math/bits.deBruijn64tab", laid_math_bits_deBruijn64tab), ("internal/strconv.uint64pow10", laid_internal_strconv_uint64pow10), ("schisma/pitch.primes", laid_schisma_pitch_primes)] }
def PitchOrderSaid : Prop := pitchOrderRow.holds Tryd.pinned (OpenSpec.ofChange pitchOrderSpec)

/-- ITS FALSE NEIGHBOUR: 'it returns false'. Refute it at one input. -/
def pitchOrderWrong : ChangeSpec := { name := "pitchOrder", fn := fun _ => fun
  | [d1, d2, d3] => { results := [.lit (.bool false)], args := [d1, d2, d3] }
  | _ => none }
def PitchOrderWrongFalsely : Prop := pitchOrderRow.holds Tryd.pinned (OpenSpec.ofChange pitchOrderWrong)

/-- 'schismalaw03.PitchTexts': WHATEVER THE INPUT: true; the input reads as it did. -/
def pitchTextsSpec : ChangeSpec := { name := "pitchTexts", fn := fun _ => fun
  | [d1, d2] => { results := [.lit (.bool true)], args := [d1, d2] }
  | _ => none }
def pitchTextsRow : OpenClaim := { program := "ytgbiiaaeabflnaadoor", sum := "65201c3571e01a8b7f32d0b3952c9635cb58959da3fb029ab80cb68017646947", func := "schisma/schismalaw03.PitchTexts", spec := "pitchTexts", inPlace := ["internal/abi.NoEscape", "internal/bytealg.MakeNoZero"], unfollowed := true, recurses := true, named := ["schisma/pitch.primes", "internal/strconv.uint64pow10", "math/bits.deBruijn32tab", "math/bits.deBruijn64tab"], apart := false, laid := [("math/bits.deBruijn32tab", laid_math_bits_deBruijn32tab), ("math/bits.deBruijn64tab", laid_math_bits_deBruijn64tab), ("internal/strconv.uint64pow10", laid_internal_strconv_uint64pow10), ("schisma/pitch.primes", laid_schisma_pitch_primes)] }
def PitchTextsSaid : Prop := pitchTextsRow.holds Tryd.pinned (OpenSpec.ofChange pitchTextsSpec)

/-- ITS FALSE NEIGHBOUR: 'it returns false'. Refute it at one input. -/
def pitchTextsWrong : ChangeSpec := { name := "pitchTexts", fn := fun _ => fun
  | [d1, d2] => { results := [.lit (.bool false)], args := [d1, d2] }
  | _ => none }
def PitchTextsWrongFalsely : Prop := pitchTextsRow.holds Tryd.pinned (OpenSpec.ofChange pitchTextsWrong)

/-- 'schismalaw03.PitchPowers': WHATEVER THE INPUT: true; the input reads as it did. -/
def pitchPowersSpec : ChangeSpec := { name := "pitchPowers", fn := fun _ => fun
  | [d1, d2, d3, d4] => { results := [.lit (.bool true)], args := [d1, d2, d3, d4] }
  | _ => none }
def pitchPowersRow : OpenClaim := { program := "ytgbiiaaeabflnaadoor", sum := "65201c3571e01a8b7f32d0b3952c9635cb58959da3fb029ab80cb68017646947", func := "schisma/schismalaw03.PitchPowers", spec := "pitchPowers", inPlace := ["internal/abi.NoEscape", "internal/bytealg.MakeNoZero"], unfollowed := true, recurses := true, named := ["schisma/pitch.primes", "internal/strconv.uint64pow10", "math/bits.deBruijn32tab", "math/bits.deBruijn64tab"], apart := false, laid := [("math/bits.deBruijn32tab", laid_math_bits_deBruijn32tab), ("math/bits.deBruijn64tab", laid_math_bits_deBruijn64tab), ("internal/strconv.uint64pow10", laid_internal_strconv_uint64pow10), ("schisma/pitch.primes", laid_schisma_pitch_primes)] }
def PitchPowersSaid : Prop := pitchPowersRow.holds Tryd.pinned (OpenSpec.ofChange pitchPowersSpec)

/-- ITS FALSE NEIGHBOUR: 'it returns false'. Refute it at one input. -/
def pitchPowersWrong : ChangeSpec := { name := "pitchPowers", fn := fun _ => fun
  | [d1, d2, d3, d4] => { results := [.lit (.bool false)], args := [d1, d2, d3, d4] }
  | _ => none }
def PitchPowersWrongFalsely : Prop := pitchPowersRow.holds Tryd.pinned (OpenSpec.ofChange pitchPowersWrong)

/-- 'schismalaw03.PitchMatchesReference': WHATEVER THE INPUT: true; the input reads as it did. -/
def pitchMatchesReferenceSpec : ChangeSpec := { name := "pitchMatchesReference", fn := fun _ => fun
  | [d1, d2, d3, d4, d5, d6] => { results := [.lit (.bool true)], args := [d1, d2, d3, d4, d5, d6] }
  | _ => none }
def pitchMatchesReferenceRow : OpenClaim := { program := "ytgbiiaaeabflnaadoor", sum := "65201c3571e01a8b7f32d0b3952c9635cb58959da3fb029ab80cb68017646947", func := "schisma/schismalaw03.PitchMatchesReference", spec := "pitchMatchesReference", inPlace := ["internal/abi.NoEscape", "internal/bytealg.MakeNoZero"], unfollowed := true, recurses := true, named := ["schisma/pitch.primes", "internal/strconv.uint64pow10", "math/bits.deBruijn32tab", "math/bits.deBruijn64tab"], apart := false, laid := [("math/bits.deBruijn32tab", laid_math_bits_deBruijn32tab), ("math/bits.deBruijn64tab", laid_math_bits_deBruijn64tab), ("internal/strconv.uint64pow10", laid_internal_strconv_uint64pow10), ("schisma/pitch.primes", laid_schisma_pitch_primes)] }
def PitchMatchesReferenceSaid : Prop := pitchMatchesReferenceRow.holds Tryd.pinned (OpenSpec.ofChange pitchMatchesReferenceSpec)

/-- ITS FALSE NEIGHBOUR: 'it returns false'. Refute it at one input. -/
def pitchMatchesReferenceWrong : ChangeSpec := { name := "pitchMatchesReference", fn := fun _ => fun
  | [d1, d2, d3, d4, d5, d6] => { results := [.lit (.bool false)], args := [d1, d2, d3, d4, d5, d6] }
  | _ => none }
def PitchMatchesReferenceWrongFalsely : Prop := pitchMatchesReferenceRow.holds Tryd.pinned (OpenSpec.ofChange pitchMatchesReferenceWrong)

/-- 'schismalaw03.PitchGroup': WHATEVER THE INPUT: true; the input reads as it did. -/
def pitchGroupSpec : ChangeSpec := { name := "pitchGroup", fn := fun _ => fun
  | [d1, d2, d3] => { results := [.lit (.bool true)], args := [d1, d2, d3] }
  | _ => none }
def pitchGroupRow : OpenClaim := { program := "ytgbiiaaeabflnaadoor", sum := "65201c3571e01a8b7f32d0b3952c9635cb58959da3fb029ab80cb68017646947", func := "schisma/schismalaw03.PitchGroup", spec := "pitchGroup", inPlace := ["internal/abi.NoEscape", "internal/bytealg.MakeNoZero"], unfollowed := true, recurses := true, named := ["schisma/pitch.primes", "internal/strconv.uint64pow10", "math/bits.deBruijn32tab", "math/bits.deBruijn64tab"], apart := false, laid := [("math/bits.deBruijn32tab", laid_math_bits_deBruijn32tab), ("math/bits.deBruijn64tab", laid_math_bits_deBruijn64tab), ("internal/strconv.uint64pow10", laid_internal_strconv_uint64pow10), ("schisma/pitch.primes", laid_schisma_pitch_primes)] }
def PitchGroupSaid : Prop := pitchGroupRow.holds Tryd.pinned (OpenSpec.ofChange pitchGroupSpec)

/-- ITS FALSE NEIGHBOUR: 'it returns false'. Refute it at one input. -/
def pitchGroupWrong : ChangeSpec := { name := "pitchGroup", fn := fun _ => fun
  | [d1, d2, d3] => { results := [.lit (.bool false)], args := [d1, d2, d3] }
  | _ => none }
def PitchGroupWrongFalsely : Prop := pitchGroupRow.holds Tryd.pinned (OpenSpec.ofChange pitchGroupWrong)

/-- 'schismalaw03.PitchTranslated': WHATEVER THE INPUT: true; the input reads as it did. -/
def pitchTranslatedSpec : ChangeSpec := { name := "pitchTranslated", fn := fun _ => fun
  | [d1, d2, d3] => { results := [.lit (.bool true)], args := [d1, d2, d3] }
  | _ => none }
def pitchTranslatedRow : OpenClaim := { program := "ytgbiiaaeabflnaadoor", sum := "65201c3571e01a8b7f32d0b3952c9635cb58959da3fb029ab80cb68017646947", func := "schisma/schismalaw03.PitchTranslated", spec := "pitchTranslated", inPlace := ["internal/abi.NoEscape", "internal/bytealg.MakeNoZero"], unfollowed := true, recurses := true, named := ["schisma/pitch.primes", "internal/strconv.uint64pow10", "math/bits.deBruijn32tab", "math/bits.deBruijn64tab"], apart := false, laid := [("math/bits.deBruijn32tab", laid_math_bits_deBruijn32tab), ("math/bits.deBruijn64tab", laid_math_bits_deBruijn64tab), ("internal/strconv.uint64pow10", laid_internal_strconv_uint64pow10), ("schisma/pitch.primes", laid_schisma_pitch_primes)] }
def PitchTranslatedSaid : Prop := pitchTranslatedRow.holds Tryd.pinned (OpenSpec.ofChange pitchTranslatedSpec)

/-- ITS FALSE NEIGHBOUR: 'it returns false'. Refute it at one input. -/
def pitchTranslatedWrong : ChangeSpec := { name := "pitchTranslated", fn := fun _ => fun
  | [d1, d2, d3] => { results := [.lit (.bool false)], args := [d1, d2, d3] }
  | _ => none }
def PitchTranslatedWrongFalsely : Prop := pitchTranslatedRow.holds Tryd.pinned (OpenSpec.ofChange pitchTranslatedWrong)

/-- 'schismalaw03.PitchFractions': WHATEVER THE INPUT: true; the input reads as it did. -/
def pitchFractionsSpec : ChangeSpec := { name := "pitchFractions", fn := fun _ => fun
  | [d1, d2, d3, d4] => { results := [.lit (.bool true)], args := [d1, d2, d3, d4] }
  | _ => none }
def pitchFractionsRow : OpenClaim := { program := "ytgbiiaaeabflnaadoor", sum := "65201c3571e01a8b7f32d0b3952c9635cb58959da3fb029ab80cb68017646947", func := "schisma/schismalaw03.PitchFractions", spec := "pitchFractions", inPlace := ["internal/abi.NoEscape", "internal/bytealg.MakeNoZero"], unfollowed := true, recurses := true, named := ["schisma/pitch.primes", "internal/strconv.uint64pow10", "math/bits.deBruijn32tab", "math/bits.deBruijn64tab", "math/bits.overflowError"], apart := false, laid := [("math/bits.deBruijn32tab", laid_math_bits_deBruijn32tab), ("math/bits.deBruijn64tab", laid_math_bits_deBruijn64tab), ("internal/strconv.uint64pow10", laid_internal_strconv_uint64pow10), ("schisma/pitch.primes", laid_schisma_pitch_primes)] }
def PitchFractionsSaid : Prop := pitchFractionsRow.holds Tryd.pinned (OpenSpec.ofChange pitchFractionsSpec)

/-- ITS FALSE NEIGHBOUR: 'it returns false'. Refute it at one input. -/
def pitchFractionsWrong : ChangeSpec := { name := "pitchFractions", fn := fun _ => fun
  | [d1, d2, d3, d4] => { results := [.lit (.bool false)], args := [d1, d2, d3, d4] }
  | _ => none }
def PitchFractionsWrongFalsely : Prop := pitchFractionsRow.holds Tryd.pinned (OpenSpec.ofChange pitchFractionsWrong)

/- THE SECOND FORM. 'bulk': how many values and letters a reading holds, each counted each time it is reached (what is shared counts as often as it is met; a slice's spare places count too). A statement '..UptoSaid' is the law's where the arguments, and the package variables that the reading takes, are together of bulk at most 1048576: NARROWER than '..Said'. Prove '..Said' where nothing that the law and all that it calls make is longer than what came in: it says more and counts as full. Else prove '..UptoSaid'. A law counts once. -/
mutual
def uptoBulk {H : Type} : DataW H → Nat
  | .lit (.string bytes) => bytes.length + 1
  | .lit _ => 1
  | .nil => 1
  | .ptr d => uptoBulk d + 1
  | .slice elems spare => uptoBulkAll elems + uptoBulkAll spare + 1
  | .agg parts => uptoBulkAll parts + 1
  | .iface _ d => uptoBulk d + 1
  | .map entries => uptoBulkEntries entries + 1
  | .held _ => 1
def uptoBulkAll {H : Type} : List (DataW H) → Nat
  | [] => 0
  | d :: r => uptoBulk d + uptoBulkAll r
def uptoBulkEntries {H : Type} : List (Lit × DataW H) → Nat
  | [] => 0
  | x :: r => uptoBulkEntry x + uptoBulkEntries r
def uptoBulkEntry {H : Type} : Lit × DataW H → Nat
  | (.string bytes, d) => bytes.length + uptoBulk d + 1
  | (_, d) => uptoBulk d + 1
 end
def uptoSmall : (H : Type) → List (DataW H) → Bool := fun _ ds => decide (uptoBulkAll ds ≤ 1048576)
def OpenSpec.upto (s : _root_.Go.ChangeSpec) : _root_.Go.OpenSpec := { _root_.Go.OpenSpec.ofChange s with cond := some uptoSmall }

/-- 'schismalaw03.PitchOrder', WHERE WHAT IT READS IS OF BULK AT MOST 1048576: true; the input reads as it did. -/
def pitchOrderUptoRow : OpenClaim := { program := "ytgbiiaaeabflnaadoor", sum := "65201c3571e01a8b7f32d0b3952c9635cb58959da3fb029ab80cb68017646947", func := "schisma/schismalaw03.PitchOrder", spec := "pitchOrder", inPlace := ["internal/abi.NoEscape", "internal/bytealg.MakeNoZero"], unfollowed := true, recurses := true, named := ["schisma/pitch.primes", "internal/strconv.uint64pow10", "math/bits.deBruijn32tab", "math/bits.deBruijn64tab"], apart := false, laid := [("math/bits.deBruijn32tab", laid_math_bits_deBruijn32tab), ("math/bits.deBruijn64tab", laid_math_bits_deBruijn64tab), ("internal/strconv.uint64pow10", laid_internal_strconv_uint64pow10), ("schisma/pitch.primes", laid_schisma_pitch_primes)], narrowed := true }
def PitchOrderUptoSaid : Prop := pitchOrderUptoRow.holds Tryd.pinned (OpenSpec.upto pitchOrderSpec)

/-- 'schismalaw03.PitchTexts', WHERE WHAT IT READS IS OF BULK AT MOST 1048576: true; the input reads as it did. -/
def pitchTextsUptoRow : OpenClaim := { program := "ytgbiiaaeabflnaadoor", sum := "65201c3571e01a8b7f32d0b3952c9635cb58959da3fb029ab80cb68017646947", func := "schisma/schismalaw03.PitchTexts", spec := "pitchTexts", inPlace := ["internal/abi.NoEscape", "internal/bytealg.MakeNoZero"], unfollowed := true, recurses := true, named := ["schisma/pitch.primes", "internal/strconv.uint64pow10", "math/bits.deBruijn32tab", "math/bits.deBruijn64tab"], apart := false, laid := [("math/bits.deBruijn32tab", laid_math_bits_deBruijn32tab), ("math/bits.deBruijn64tab", laid_math_bits_deBruijn64tab), ("internal/strconv.uint64pow10", laid_internal_strconv_uint64pow10), ("schisma/pitch.primes", laid_schisma_pitch_primes)], narrowed := true }
def PitchTextsUptoSaid : Prop := pitchTextsUptoRow.holds Tryd.pinned (OpenSpec.upto pitchTextsSpec)

/-- 'schismalaw03.PitchPowers', WHERE WHAT IT READS IS OF BULK AT MOST 1048576: true; the input reads as it did. -/
def pitchPowersUptoRow : OpenClaim := { program := "ytgbiiaaeabflnaadoor", sum := "65201c3571e01a8b7f32d0b3952c9635cb58959da3fb029ab80cb68017646947", func := "schisma/schismalaw03.PitchPowers", spec := "pitchPowers", inPlace := ["internal/abi.NoEscape", "internal/bytealg.MakeNoZero"], unfollowed := true, recurses := true, named := ["schisma/pitch.primes", "internal/strconv.uint64pow10", "math/bits.deBruijn32tab", "math/bits.deBruijn64tab"], apart := false, laid := [("math/bits.deBruijn32tab", laid_math_bits_deBruijn32tab), ("math/bits.deBruijn64tab", laid_math_bits_deBruijn64tab), ("internal/strconv.uint64pow10", laid_internal_strconv_uint64pow10), ("schisma/pitch.primes", laid_schisma_pitch_primes)], narrowed := true }
def PitchPowersUptoSaid : Prop := pitchPowersUptoRow.holds Tryd.pinned (OpenSpec.upto pitchPowersSpec)

/-- 'schismalaw03.PitchMatchesReference', WHERE WHAT IT READS IS OF BULK AT MOST 1048576: true; the input reads as it did. -/
def pitchMatchesReferenceUptoRow : OpenClaim := { program := "ytgbiiaaeabflnaadoor", sum := "65201c3571e01a8b7f32d0b3952c9635cb58959da3fb029ab80cb68017646947", func := "schisma/schismalaw03.PitchMatchesReference", spec := "pitchMatchesReference", inPlace := ["internal/abi.NoEscape", "internal/bytealg.MakeNoZero"], unfollowed := true, recurses := true, named := ["schisma/pitch.primes", "internal/strconv.uint64pow10", "math/bits.deBruijn32tab", "math/bits.deBruijn64tab"], apart := false, laid := [("math/bits.deBruijn32tab", laid_math_bits_deBruijn32tab), ("math/bits.deBruijn64tab", laid_math_bits_deBruijn64tab), ("internal/strconv.uint64pow10", laid_internal_strconv_uint64pow10), ("schisma/pitch.primes", laid_schisma_pitch_primes)], narrowed := true }
def PitchMatchesReferenceUptoSaid : Prop := pitchMatchesReferenceUptoRow.holds Tryd.pinned (OpenSpec.upto pitchMatchesReferenceSpec)

/-- 'schismalaw03.PitchGroup', WHERE WHAT IT READS IS OF BULK AT MOST 1048576: true; the input reads as it did. -/
def pitchGroupUptoRow : OpenClaim := { program := "ytgbiiaaeabflnaadoor", sum := "65201c3571e01a8b7f32d0b3952c9635cb58959da3fb029ab80cb68017646947", func := "schisma/schismalaw03.PitchGroup", spec := "pitchGroup", inPlace := ["internal/abi.NoEscape", "internal/bytealg.MakeNoZero"], unfollowed := true, recurses := true, named := ["schisma/pitch.primes", "internal/strconv.uint64pow10", "math/bits.deBruijn32tab", "math/bits.deBruijn64tab"], apart := false, laid := [("math/bits.deBruijn32tab", laid_math_bits_deBruijn32tab), ("math/bits.deBruijn64tab", laid_math_bits_deBruijn64tab), ("internal/strconv.uint64pow10", laid_internal_strconv_uint64pow10), ("schisma/pitch.primes", laid_schisma_pitch_primes)], narrowed := true }
def PitchGroupUptoSaid : Prop := pitchGroupUptoRow.holds Tryd.pinned (OpenSpec.upto pitchGroupSpec)

/-- 'schismalaw03.PitchTranslated', WHERE WHAT IT READS IS OF BULK AT MOST 1048576: true; the input reads as it did. -/
def pitchTranslatedUptoRow : OpenClaim := { program := "ytgbiiaaeabflnaadoor", sum := "65201c3571e01a8b7f32d0b3952c9635cb58959da3fb029ab80cb68017646947", func := "schisma/schismalaw03.PitchTranslated", spec := "pitchTranslated", inPlace := ["internal/abi.NoEscape", "internal/bytealg.MakeNoZero"], unfollowed := true, recurses := true, named := ["schisma/pitch.primes", "internal/strconv.uint64pow10", "math/bits.deBruijn32tab", "math/bits.deBruijn64tab"], apart := false, laid := [("math/bits.deBruijn32tab", laid_math_bits_deBruijn32tab), ("math/bits.deBruijn64tab", laid_math_bits_deBruijn64tab), ("internal/strconv.uint64pow10", laid_internal_strconv_uint64pow10), ("schisma/pitch.primes", laid_schisma_pitch_primes)], narrowed := true }
def PitchTranslatedUptoSaid : Prop := pitchTranslatedUptoRow.holds Tryd.pinned (OpenSpec.upto pitchTranslatedSpec)

/-- 'schismalaw03.PitchFractions', WHERE WHAT IT READS IS OF BULK AT MOST 1048576: true; the input reads as it did. -/
def pitchFractionsUptoRow : OpenClaim := { program := "ytgbiiaaeabflnaadoor", sum := "65201c3571e01a8b7f32d0b3952c9635cb58959da3fb029ab80cb68017646947", func := "schisma/schismalaw03.PitchFractions", spec := "pitchFractions", inPlace := ["internal/abi.NoEscape", "internal/bytealg.MakeNoZero"], unfollowed := true, recurses := true, named := ["schisma/pitch.primes", "internal/strconv.uint64pow10", "math/bits.deBruijn32tab", "math/bits.deBruijn64tab", "math/bits.overflowError"], apart := false, laid := [("math/bits.deBruijn32tab", laid_math_bits_deBruijn32tab), ("math/bits.deBruijn64tab", laid_math_bits_deBruijn64tab), ("internal/strconv.uint64pow10", laid_internal_strconv_uint64pow10), ("schisma/pitch.primes", laid_schisma_pitch_primes)], narrowed := true }
def PitchFractionsUptoSaid : Prop := pitchFractionsUptoRow.holds Tryd.pinned (OpenSpec.upto pitchFractionsSpec)

end Rows
end Go.Proofs.YtgbiiaaeabflnaaDoor
