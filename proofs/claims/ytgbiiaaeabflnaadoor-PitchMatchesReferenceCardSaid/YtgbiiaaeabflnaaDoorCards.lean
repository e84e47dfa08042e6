/-
  DERIVED. GIVEN WITH THE SEED: THE CARDS: each row of YtgbiiaaeabflnaaDoorRows.lean that lists a variable, with what it lists TIED to the program's text (the seventh form; the later family's looks); each row that meets fmt, with fmt's text TOLD by the authors' own Lean function (tested against real Go, not proved from fmt's source: count such statements apart). THE CARD IS WHAT COUNTS. Prove the row's statement (the work); the ties are given (YtgbiiaaeabflnaaDoorTie.lean); close each card by the builder's one call (the guide's Derived/Test/ToyasCard.lean, 'card_holds'). Laid BY PROGRAM, IN A SANDBOX (cutbox-door.mjs). By AI agents, Wed Nov 11 2026. No macro, syntax, notation, axiom, sorry.
-/
import Derived.Test.YtgbiiaaeabflnaaDoorRows
import GoSem.ClaimSeven
namespace Go.Proofs.YtgbiiaaeabflnaaDoor
namespace Rows

/-- THE TIED CARD OF 'schismalaw03.PitchOrder'. -/
def pitchOrderCard : Claim7 := { stood := { row := pitchOrderRow, standIns := [], harness := (true, "c4750ed440f5e54189b7b1b813ba3fd3f02d4d12c8fef7c476d3f0b1c93bc16a"), looks := true }, kinds := [], alts := [], laidByText := true, laidKinds := [.data, .data, .data, .data], laidTests := true, laidLooks := .later }
def PitchOrderCardSaid : Prop := Claim7.holds Tryd.pinned (.plain (OpenSpec.ofChange pitchOrderSpec)) pitchOrderCard

/-- THE TIED CARD OF 'schismalaw03.PitchTexts'. -/
def pitchTextsCard : Claim7 := { stood := { row := pitchTextsRow, standIns := [], harness := (true, "c4750ed440f5e54189b7b1b813ba3fd3f02d4d12c8fef7c476d3f0b1c93bc16a"), looks := true }, kinds := [], alts := [], laidByText := true, laidKinds := [.data, .data, .data, .data], laidTests := true, laidLooks := .later }
def PitchTextsCardSaid : Prop := Claim7.holds Tryd.pinned (.plain (OpenSpec.ofChange pitchTextsSpec)) pitchTextsCard

/-- THE TIED CARD OF 'schismalaw03.PitchPowers'. -/
def pitchPowersCard : Claim7 := { stood := { row := pitchPowersRow, standIns := [], harness := (true, "c4750ed440f5e54189b7b1b813ba3fd3f02d4d12c8fef7c476d3f0b1c93bc16a"), looks := true }, kinds := [], alts := [], laidByText := true, laidKinds := [.data, .data, .data, .data], laidTests := true, laidLooks := .later }
def PitchPowersCardSaid : Prop := Claim7.holds Tryd.pinned (.plain (OpenSpec.ofChange pitchPowersSpec)) pitchPowersCard

/-- THE TIED CARD OF 'schismalaw03.PitchMatchesReference'. -/
def pitchMatchesReferenceCard : Claim7 := { stood := { row := pitchMatchesReferenceRow, standIns := [], harness := (true, "c4750ed440f5e54189b7b1b813ba3fd3f02d4d12c8fef7c476d3f0b1c93bc16a"), looks := true }, kinds := [], alts := [], laidByText := true, laidKinds := [.data, .data, .data, .data], laidTests := true, laidLooks := .later }
def PitchMatchesReferenceCardSaid : Prop := Claim7.holds Tryd.pinned (.plain (OpenSpec.ofChange pitchMatchesReferenceSpec)) pitchMatchesReferenceCard

/-- THE TIED CARD OF 'schismalaw03.PitchGroup'. -/
def pitchGroupCard : Claim7 := { stood := { row := pitchGroupRow, standIns := [], harness := (true, "c4750ed440f5e54189b7b1b813ba3fd3f02d4d12c8fef7c476d3f0b1c93bc16a"), looks := true }, kinds := [], alts := [], laidByText := true, laidKinds := [.data, .data, .data, .data], laidTests := true, laidLooks := .later }
def PitchGroupCardSaid : Prop := Claim7.holds Tryd.pinned (.plain (OpenSpec.ofChange pitchGroupSpec)) pitchGroupCard

/-- THE TIED CARD OF 'schismalaw03.PitchTranslated'. -/
def pitchTranslatedCard : Claim7 := { stood := { row := pitchTranslatedRow, standIns := [], harness := (true, "c4750ed440f5e54189b7b1b813ba3fd3f02d4d12c8fef7c476d3f0b1c93bc16a"), looks := true }, kinds := [], alts := [], laidByText := true, laidKinds := [.data, .data, .data, .data], laidTests := true, laidLooks := .later }
def PitchTranslatedCardSaid : Prop := Claim7.holds Tryd.pinned (.plain (OpenSpec.ofChange pitchTranslatedSpec)) pitchTranslatedCard

/-- THE TIED CARD OF 'schismalaw03.PitchFractions'. -/
def pitchFractionsCard : Claim7 := { stood := { row := pitchFractionsRow, standIns := [], harness := (true, "c4750ed440f5e54189b7b1b813ba3fd3f02d4d12c8fef7c476d3f0b1c93bc16a"), looks := true }, kinds := [], alts := [], laidByText := true, laidKinds := [.data, .data, .data, .data], laidTests := true, laidLooks := .later }
def PitchFractionsCardSaid : Prop := Claim7.holds Tryd.pinned (.plain (OpenSpec.ofChange pitchFractionsSpec)) pitchFractionsCard

/-- THE SECOND FORM's CARD OF 'schismalaw03.PitchOrder'. -/
def pitchOrderUptoCard : Claim7 := { stood := { row := pitchOrderUptoRow, standIns := [], harness := (true, "c4750ed440f5e54189b7b1b813ba3fd3f02d4d12c8fef7c476d3f0b1c93bc16a"), looks := true }, kinds := [], alts := [], laidByText := true, laidKinds := [.data, .data, .data, .data], laidTests := true, laidLooks := .later }
def PitchOrderUptoCardSaid : Prop := Claim7.holds Tryd.pinned (.plain (OpenSpec.upto pitchOrderSpec)) pitchOrderUptoCard

/-- THE SECOND FORM's CARD OF 'schismalaw03.PitchTexts'. -/
def pitchTextsUptoCard : Claim7 := { stood := { row := pitchTextsUptoRow, standIns := [], harness := (true, "c4750ed440f5e54189b7b1b813ba3fd3f02d4d12c8fef7c476d3f0b1c93bc16a"), looks := true }, kinds := [], alts := [], laidByText := true, laidKinds := [.data, .data, .data, .data], laidTests := true, laidLooks := .later }
def PitchTextsUptoCardSaid : Prop := Claim7.holds Tryd.pinned (.plain (OpenSpec.upto pitchTextsSpec)) pitchTextsUptoCard

/-- THE SECOND FORM's CARD OF 'schismalaw03.PitchPowers'. -/
def pitchPowersUptoCard : Claim7 := { stood := { row := pitchPowersUptoRow, standIns := [], harness := (true, "c4750ed440f5e54189b7b1b813ba3fd3f02d4d12c8fef7c476d3f0b1c93bc16a"), looks := true }, kinds := [], alts := [], laidByText := true, laidKinds := [.data, .data, .data, .data], laidTests := true, laidLooks := .later }
def PitchPowersUptoCardSaid : Prop := Claim7.holds Tryd.pinned (.plain (OpenSpec.upto pitchPowersSpec)) pitchPowersUptoCard

/-- THE SECOND FORM's CARD OF 'schismalaw03.PitchMatchesReference'. -/
def pitchMatchesReferenceUptoCard : Claim7 := { stood := { row := pitchMatchesReferenceUptoRow, standIns := [], harness := (true, "c4750ed440f5e54189b7b1b813ba3fd3f02d4d12c8fef7c476d3f0b1c93bc16a"), looks := true }, kinds := [], alts := [], laidByText := true, laidKinds := [.data, .data, .data, .data], laidTests := true, laidLooks := .later }
def PitchMatchesReferenceUptoCardSaid : Prop := Claim7.holds Tryd.pinned (.plain (OpenSpec.upto pitchMatchesReferenceSpec)) pitchMatchesReferenceUptoCard

/-- THE SECOND FORM's CARD OF 'schismalaw03.PitchGroup'. -/
def pitchGroupUptoCard : Claim7 := { stood := { row := pitchGroupUptoRow, standIns := [], harness := (true, "c4750ed440f5e54189b7b1b813ba3fd3f02d4d12c8fef7c476d3f0b1c93bc16a"), looks := true }, kinds := [], alts := [], laidByText := true, laidKinds := [.data, .data, .data, .data], laidTests := true, laidLooks := .later }
def PitchGroupUptoCardSaid : Prop := Claim7.holds Tryd.pinned (.plain (OpenSpec.upto pitchGroupSpec)) pitchGroupUptoCard

/-- THE SECOND FORM's CARD OF 'schismalaw03.PitchTranslated'. -/
def pitchTranslatedUptoCard : Claim7 := { stood := { row := pitchTranslatedUptoRow, standIns := [], harness := (true, "c4750ed440f5e54189b7b1b813ba3fd3f02d4d12c8fef7c476d3f0b1c93bc16a"), looks := true }, kinds := [], alts := [], laidByText := true, laidKinds := [.data, .data, .data, .data], laidTests := true, laidLooks := .later }
def PitchTranslatedUptoCardSaid : Prop := Claim7.holds Tryd.pinned (.plain (OpenSpec.upto pitchTranslatedSpec)) pitchTranslatedUptoCard

/-- THE SECOND FORM's CARD OF 'schismalaw03.PitchFractions'. -/
def pitchFractionsUptoCard : Claim7 := { stood := { row := pitchFractionsUptoRow, standIns := [], harness := (true, "c4750ed440f5e54189b7b1b813ba3fd3f02d4d12c8fef7c476d3f0b1c93bc16a"), looks := true }, kinds := [], alts := [], laidByText := true, laidKinds := [.data, .data, .data, .data], laidTests := true, laidLooks := .later }
def PitchFractionsUptoCardSaid : Prop := Claim7.holds Tryd.pinned (.plain (OpenSpec.upto pitchFractionsSpec)) pitchFractionsUptoCard
end Rows
end Go.Proofs.YtgbiiaaeabflnaaDoor
