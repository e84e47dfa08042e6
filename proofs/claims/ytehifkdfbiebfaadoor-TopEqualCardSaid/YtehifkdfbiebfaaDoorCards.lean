/-
  DERIVED. GIVEN WITH THE SEED: THE CARDS: each row of YtehifkdfbiebfaaDoorRows.lean that lists a variable, with what it lists TIED to the program's text (the seventh form; the later family's looks); each row that meets fmt, with fmt's text TOLD by the authors' own Lean function (tested against real Go, not proved from fmt's source: count such statements apart). THE CARD IS WHAT COUNTS. Prove the row's statement (the work); the ties are given (YtehifkdfbiebfaaDoorTie.lean); close each card by the builder's one call (the guide's Derived/Test/ToyasCard.lean, 'card_holds'). Laid BY PROGRAM, IN A SANDBOX (cutbox-door.mjs). By AI agents, Wed Nov 11 2026. No macro, syntax, notation, axiom, sorry.
-/
import Derived.Test.YtehifkdfbiebfaaDoorRows
import GoSem.ClaimSeven
namespace Go.Proofs.YtehifkdfbiebfaaDoor
namespace Rows

/-- THE TIED CARD OF 'schismatop.TopCircle'. -/
def topCircleCard : Claim7 := { stood := { row := topCircleRow, standIns := [], harness := (true, "5eb3c35e065710c877ed22efc61cab48df9a57970243738e890094ebfc884e18"), looks := true }, kinds := [], alts := [], laidByText := true, laidKinds := [.data, .data], laidTests := true, laidLooks := .later }
def TopCircleCardSaid : Prop := Claim7.holds Tryd.pinned (.plain (OpenSpec.ofChange topCircleSpec)) topCircleCard

/-- THE TIED CARD OF 'schismatop.TopTuned'. -/
def topTunedCard : Claim7 := { stood := { row := topTunedRow, standIns := [], harness := (true, "5eb3c35e065710c877ed22efc61cab48df9a57970243738e890094ebfc884e18"), looks := true }, kinds := [], alts := [], laidByText := true, laidKinds := [.data], laidTests := true, laidLooks := .later }
def TopTunedCardSaid : Prop := Claim7.holds Tryd.pinned (.plain (OpenSpec.ofChange topTunedSpec)) topTunedCard

/-- THE TIED CARD OF 'schismatop.TopBlown'. -/
def topBlownCard : Claim7 := { stood := { row := topBlownRow, standIns := [], harness := (true, "5eb3c35e065710c877ed22efc61cab48df9a57970243738e890094ebfc884e18"), looks := true }, kinds := [], alts := [], laidByText := true, laidKinds := [.data, .data, .data], laidTests := true, laidLooks := .later }
def TopBlownCardSaid : Prop := Claim7.holds Tryd.pinned (.plain (OpenSpec.ofChange topBlownSpec)) topBlownCard

/-- THE TIED CARD OF 'schismatop.TopEqual'. -/
def topEqualCard : Claim7 := { stood := { row := topEqualRow, standIns := [], harness := (true, "5eb3c35e065710c877ed22efc61cab48df9a57970243738e890094ebfc884e18"), looks := true }, kinds := [], alts := [], laidByText := true, laidKinds := [.data], laidTests := true, laidLooks := .later }
def TopEqualCardSaid : Prop := Claim7.holds Tryd.pinned (.plain (OpenSpec.ofChange topEqualSpec)) topEqualCard

/-- THE SECOND FORM's CARD OF 'schismatop.TopCircle'. -/
def topCircleUptoCard : Claim7 := { stood := { row := topCircleUptoRow, standIns := [], harness := (true, "5eb3c35e065710c877ed22efc61cab48df9a57970243738e890094ebfc884e18"), looks := true }, kinds := [], alts := [], laidByText := true, laidKinds := [.data, .data], laidTests := true, laidLooks := .later }
def TopCircleUptoCardSaid : Prop := Claim7.holds Tryd.pinned (.plain (OpenSpec.upto topCircleSpec)) topCircleUptoCard

/-- THE SECOND FORM's CARD OF 'schismatop.TopTuned'. -/
def topTunedUptoCard : Claim7 := { stood := { row := topTunedUptoRow, standIns := [], harness := (true, "5eb3c35e065710c877ed22efc61cab48df9a57970243738e890094ebfc884e18"), looks := true }, kinds := [], alts := [], laidByText := true, laidKinds := [.data], laidTests := true, laidLooks := .later }
def TopTunedUptoCardSaid : Prop := Claim7.holds Tryd.pinned (.plain (OpenSpec.upto topTunedSpec)) topTunedUptoCard

/-- THE SECOND FORM's CARD OF 'schismatop.TopBlown'. -/
def topBlownUptoCard : Claim7 := { stood := { row := topBlownUptoRow, standIns := [], harness := (true, "5eb3c35e065710c877ed22efc61cab48df9a57970243738e890094ebfc884e18"), looks := true }, kinds := [], alts := [], laidByText := true, laidKinds := [.data, .data, .data], laidTests := true, laidLooks := .later }
def TopBlownUptoCardSaid : Prop := Claim7.holds Tryd.pinned (.plain (OpenSpec.upto topBlownSpec)) topBlownUptoCard

/-- THE SECOND FORM's CARD OF 'schismatop.TopEqual'. -/
def topEqualUptoCard : Claim7 := { stood := { row := topEqualUptoRow, standIns := [], harness := (true, "5eb3c35e065710c877ed22efc61cab48df9a57970243738e890094ebfc884e18"), looks := true }, kinds := [], alts := [], laidByText := true, laidKinds := [.data], laidTests := true, laidLooks := .later }
def TopEqualUptoCardSaid : Prop := Claim7.holds Tryd.pinned (.plain (OpenSpec.upto topEqualSpec)) topEqualUptoCard
end Rows
end Go.Proofs.YtehifkdfbiebfaaDoor
