/-
  DERIVED. GIVEN WITH THE SEED: THE CARDS: each row of YtmjbcoapceoakaaDoorRows.lean that lists a variable, with what it lists TIED to the program's text (the seventh form; the later family's looks); each row that meets fmt, with fmt's text TOLD by the authors' own Lean function (tested against real Go, not proved from fmt's source: count such statements apart). THE CARD IS WHAT COUNTS. Prove the row's statement (the work); the ties are given (YtmjbcoapceoakaaDoorTie.lean); close each card by the builder's one call (the guide's Derived/Test/ToyasCard.lean, 'card_holds'). Laid BY PROGRAM, IN A SANDBOX (cutbox-door.mjs). By AI agents, Wed Nov 11 2026. No macro, syntax, notation, axiom, sorry.
-/
import Derived.Test.YtmjbcoapceoakaaDoorRows
import GoSem.ClaimSeven
namespace Go.Proofs.YtmjbcoapceoakaaDoor
namespace Rows

/-- THE TIED CARD OF 'schismalaw02.RationalReduced'. -/
def rationalReducedCard : Claim7 := { stood := { row := rationalReducedRow, standIns := [], harness := (true, "be9bc92f9dc431205e84f74ff3545c9541eeca0654f1c60d396bf80413673e5e"), looks := true }, kinds := [], alts := [], laidByText := true, laidKinds := [.data, .data, .data], laidTests := true, laidLooks := .later }
def RationalReducedCardSaid : Prop := Claim7.holds Tryd.pinned (.plain (OpenSpec.ofChange rationalReducedSpec)) rationalReducedCard

/-- THE TIED CARD OF 'schismalaw02.RationalNearest'. -/
def rationalNearestCard : Claim7 := { stood := { row := rationalNearestRow, standIns := [], harness := (true, "be9bc92f9dc431205e84f74ff3545c9541eeca0654f1c60d396bf80413673e5e"), looks := true }, kinds := [], alts := [], laidByText := true, laidKinds := [.data, .data, .data], laidTests := true, laidLooks := .later }
def RationalNearestCardSaid : Prop := Claim7.holds Tryd.pinned (.plain (OpenSpec.ofChange rationalNearestSpec)) rationalNearestCard

/-- THE TIED CARD OF 'schismalaw02.RationalSimple'. -/
def rationalSimpleCard : Claim7 := { stood := { row := rationalSimpleRow, standIns := [], harness := (true, "be9bc92f9dc431205e84f74ff3545c9541eeca0654f1c60d396bf80413673e5e"), looks := true }, kinds := [], alts := [], laidByText := true, laidKinds := [.data, .data, .data], laidTests := true, laidLooks := .later }
def RationalSimpleCardSaid : Prop := Claim7.holds Tryd.pinned (.plain (OpenSpec.ofChange rationalSimpleSpec)) rationalSimpleCard

/-- THE TIED CARD OF 'schismalaw02.RationalSums'. -/
def rationalSumsCard : Claim7 := { stood := { row := rationalSumsRow, standIns := [], harness := (true, "be9bc92f9dc431205e84f74ff3545c9541eeca0654f1c60d396bf80413673e5e"), looks := true }, kinds := [], alts := [], laidByText := true, laidKinds := [.data, .data, .data], laidTests := true, laidLooks := .later }
def RationalSumsCardSaid : Prop := Claim7.holds Tryd.pinned (.plain (OpenSpec.ofChange rationalSumsSpec)) rationalSumsCard

/-- THE TIED CARD OF 'schismalaw02.RationalOrder'. -/
def rationalOrderCard : Claim7 := { stood := { row := rationalOrderRow, standIns := [], harness := (true, "be9bc92f9dc431205e84f74ff3545c9541eeca0654f1c60d396bf80413673e5e"), looks := true }, kinds := [], alts := [], laidByText := true, laidKinds := [.data, .data, .data], laidTests := true, laidLooks := .later }
def RationalOrderCardSaid : Prop := Claim7.holds Tryd.pinned (.plain (OpenSpec.ofChange rationalOrderSpec)) rationalOrderCard

/-- THE TIED CARD OF 'schismalaw02.RationalProducts'. -/
def rationalProductsCard : Claim7 := { stood := { row := rationalProductsRow, standIns := [], harness := (true, "be9bc92f9dc431205e84f74ff3545c9541eeca0654f1c60d396bf80413673e5e"), looks := true }, kinds := [], alts := [], laidByText := true, laidKinds := [.data, .data, .data], laidTests := true, laidLooks := .later }
def RationalProductsCardSaid : Prop := Claim7.holds Tryd.pinned (.plain (OpenSpec.ofChange rationalProductsSpec)) rationalProductsCard

/-- THE TIED CARD OF 'schismalaw02.RationalText'. -/
def rationalTextCard : Claim7 := { stood := { row := rationalTextRow, standIns := [], harness := (true, "be9bc92f9dc431205e84f74ff3545c9541eeca0654f1c60d396bf80413673e5e"), looks := true }, kinds := [], alts := [], laidByText := true, laidKinds := [.data, .data, .data, .sentinel, .sentinel], laidTests := true, laidLooks := .later }
def RationalTextCardSaid : Prop := Claim7.holds Tryd.pinned (.plain (OpenSpec.ofChange rationalTextSpec)) rationalTextCard

/-- THE TIED CARD OF 'schismalaw02.RationalMatchesReference'. -/
def rationalMatchesReferenceCard : Claim7 := { stood := { row := rationalMatchesReferenceRow, standIns := [], harness := (true, "be9bc92f9dc431205e84f74ff3545c9541eeca0654f1c60d396bf80413673e5e"), looks := true }, kinds := [], alts := [], laidByText := true, laidKinds := [.data, .data, .data, .sentinel, .sentinel], laidTests := true, laidLooks := .later }
def RationalMatchesReferenceCardSaid : Prop := Claim7.holds Tryd.pinned (.plain (OpenSpec.ofChange rationalMatchesReferenceSpec)) rationalMatchesReferenceCard

/-- THE SECOND FORM's CARD OF 'schismalaw02.RationalReduced'. -/
def rationalReducedUptoCard : Claim7 := { stood := { row := rationalReducedUptoRow, standIns := [], harness := (true, "be9bc92f9dc431205e84f74ff3545c9541eeca0654f1c60d396bf80413673e5e"), looks := true }, kinds := [], alts := [], laidByText := true, laidKinds := [.data, .data, .data], laidTests := true, laidLooks := .later }
def RationalReducedUptoCardSaid : Prop := Claim7.holds Tryd.pinned (.plain (OpenSpec.upto rationalReducedSpec)) rationalReducedUptoCard

/-- THE SECOND FORM's CARD OF 'schismalaw02.RationalNearest'. -/
def rationalNearestUptoCard : Claim7 := { stood := { row := rationalNearestUptoRow, standIns := [], harness := (true, "be9bc92f9dc431205e84f74ff3545c9541eeca0654f1c60d396bf80413673e5e"), looks := true }, kinds := [], alts := [], laidByText := true, laidKinds := [.data, .data, .data], laidTests := true, laidLooks := .later }
def RationalNearestUptoCardSaid : Prop := Claim7.holds Tryd.pinned (.plain (OpenSpec.upto rationalNearestSpec)) rationalNearestUptoCard

/-- THE SECOND FORM's CARD OF 'schismalaw02.RationalSimple'. -/
def rationalSimpleUptoCard : Claim7 := { stood := { row := rationalSimpleUptoRow, standIns := [], harness := (true, "be9bc92f9dc431205e84f74ff3545c9541eeca0654f1c60d396bf80413673e5e"), looks := true }, kinds := [], alts := [], laidByText := true, laidKinds := [.data, .data, .data], laidTests := true, laidLooks := .later }
def RationalSimpleUptoCardSaid : Prop := Claim7.holds Tryd.pinned (.plain (OpenSpec.upto rationalSimpleSpec)) rationalSimpleUptoCard

/-- THE SECOND FORM's CARD OF 'schismalaw02.RationalSums'. -/
def rationalSumsUptoCard : Claim7 := { stood := { row := rationalSumsUptoRow, standIns := [], harness := (true, "be9bc92f9dc431205e84f74ff3545c9541eeca0654f1c60d396bf80413673e5e"), looks := true }, kinds := [], alts := [], laidByText := true, laidKinds := [.data, .data, .data], laidTests := true, laidLooks := .later }
def RationalSumsUptoCardSaid : Prop := Claim7.holds Tryd.pinned (.plain (OpenSpec.upto rationalSumsSpec)) rationalSumsUptoCard

/-- THE SECOND FORM's CARD OF 'schismalaw02.RationalOrder'. -/
def rationalOrderUptoCard : Claim7 := { stood := { row := rationalOrderUptoRow, standIns := [], harness := (true, "be9bc92f9dc431205e84f74ff3545c9541eeca0654f1c60d396bf80413673e5e"), looks := true }, kinds := [], alts := [], laidByText := true, laidKinds := [.data, .data, .data], laidTests := true, laidLooks := .later }
def RationalOrderUptoCardSaid : Prop := Claim7.holds Tryd.pinned (.plain (OpenSpec.upto rationalOrderSpec)) rationalOrderUptoCard

/-- THE SECOND FORM's CARD OF 'schismalaw02.RationalProducts'. -/
def rationalProductsUptoCard : Claim7 := { stood := { row := rationalProductsUptoRow, standIns := [], harness := (true, "be9bc92f9dc431205e84f74ff3545c9541eeca0654f1c60d396bf80413673e5e"), looks := true }, kinds := [], alts := [], laidByText := true, laidKinds := [.data, .data, .data], laidTests := true, laidLooks := .later }
def RationalProductsUptoCardSaid : Prop := Claim7.holds Tryd.pinned (.plain (OpenSpec.upto rationalProductsSpec)) rationalProductsUptoCard

/-- THE SECOND FORM's CARD OF 'schismalaw02.RationalText'. -/
def rationalTextUptoCard : Claim7 := { stood := { row := rationalTextUptoRow, standIns := [], harness := (true, "be9bc92f9dc431205e84f74ff3545c9541eeca0654f1c60d396bf80413673e5e"), looks := true }, kinds := [], alts := [], laidByText := true, laidKinds := [.data, .data, .data, .sentinel, .sentinel], laidTests := true, laidLooks := .later }
def RationalTextUptoCardSaid : Prop := Claim7.holds Tryd.pinned (.plain (OpenSpec.upto rationalTextSpec)) rationalTextUptoCard

/-- THE SECOND FORM's CARD OF 'schismalaw02.RationalMatchesReference'. -/
def rationalMatchesReferenceUptoCard : Claim7 := { stood := { row := rationalMatchesReferenceUptoRow, standIns := [], harness := (true, "be9bc92f9dc431205e84f74ff3545c9541eeca0654f1c60d396bf80413673e5e"), looks := true }, kinds := [], alts := [], laidByText := true, laidKinds := [.data, .data, .data, .sentinel, .sentinel], laidTests := true, laidLooks := .later }
def RationalMatchesReferenceUptoCardSaid : Prop := Claim7.holds Tryd.pinned (.plain (OpenSpec.upto rationalMatchesReferenceSpec)) rationalMatchesReferenceUptoCard
end Rows
end Go.Proofs.YtmjbcoapceoakaaDoor
