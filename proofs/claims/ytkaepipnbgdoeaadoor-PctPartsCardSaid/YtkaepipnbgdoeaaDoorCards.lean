/-
  DERIVED. GIVEN WITH THE SEED: THE CARDS: each row of YtkaepipnbgdoeaaDoorRows.lean that lists a variable, with what it lists TIED to the program's text (the seventh form; the later family's looks); each row that meets fmt, with fmt's text TOLD by the authors' own Lean function (tested against real Go, not proved from fmt's source: count such statements apart). THE CARD IS WHAT COUNTS. Prove the row's statement (the work); the ties are given (YtkaepipnbgdoeaaDoorTie.lean); close each card by the builder's one call (the guide's Derived/Test/ToyasCard.lean, 'card_holds'). Laid BY PROGRAM, IN A SANDBOX (cutbox-door.mjs). By AI agents, Wed Nov 11 2026. No macro, syntax, notation, axiom, sorry.
-/
import Derived.Test.YtkaepipnbgdoeaaDoorRows
import GoSem.ClaimSeven
namespace Go.Proofs.YtkaepipnbgdoeaaDoor
namespace Rows

/-- THE TIED CARD OF 'eponymlaw02.PctSplits'. -/
def pctSplitsCard : Claim7 := { stood := { row := pctSplitsRow, standIns := [], harness := (true, "27b072655863acf340d6c2779810c13654f5377495355be1efec89f5b0c665ea"), looks := true }, kinds := [], alts := [], laidByText := true, laidKinds := [.handle, .sentinel, .sentinel, .sentinel, .sentinel, .sentinel, .sentinel, .sentinel, .sentinel, .sentinel, .sentinel, .sentinel, .sentinel, .sentinel, .sentinel, .sentinel, .sentinel, .sentinel, .sentinel], laidTests := true, laidLooks := .later }
def PctSplitsCardSaid : Prop := Claim7.holds Tryd.pinned (.plain (OpenSpec.ofChange pctSplitsSpec)) pctSplitsCard

/-- THE TIED CARD OF 'eponymlaw02.PctEscapes'. -/
def pctEscapesCard : Claim7 := { stood := { row := pctEscapesRow, standIns := [], harness := (true, "27b072655863acf340d6c2779810c13654f5377495355be1efec89f5b0c665ea"), looks := true }, kinds := [], alts := [], laidByText := true, laidKinds := [.handle, .sentinel, .sentinel, .sentinel, .sentinel, .sentinel, .sentinel, .sentinel, .sentinel, .sentinel, .sentinel, .sentinel, .sentinel, .sentinel, .sentinel, .sentinel, .sentinel, .sentinel, .sentinel], laidTests := true, laidLooks := .later }
def PctEscapesCardSaid : Prop := Claim7.holds Tryd.pinned (.plain (OpenSpec.ofChange pctEscapesSpec)) pctEscapesCard

/-- THE TIED CARD OF 'eponymlaw02.PctBack'. -/
def pctBackCard : Claim7 := { stood := { row := pctBackRow, standIns := [], harness := (true, "27b072655863acf340d6c2779810c13654f5377495355be1efec89f5b0c665ea"), looks := true }, kinds := [], alts := [], laidByText := true, laidKinds := [.handle, .sentinel, .sentinel, .sentinel, .sentinel, .sentinel, .sentinel, .sentinel, .sentinel, .sentinel, .sentinel, .sentinel, .sentinel, .sentinel, .sentinel, .sentinel, .sentinel, .sentinel, .sentinel], laidTests := true, laidLooks := .later }
def PctBackCardSaid : Prop := Claim7.holds Tryd.pinned (.plain (OpenSpec.ofChange pctBackSpec)) pctBackCard

/-- THE TIED CARD OF 'eponymlaw01.UtfEncodes'. -/
def utfEncodesCard : Claim7 := { stood := { row := utfEncodesRow, standIns := [], harness := (true, "27b072655863acf340d6c2779810c13654f5377495355be1efec89f5b0c665ea"), looks := true }, kinds := [], alts := [], laidByText := true, laidKinds := [.handle, .sentinel, .sentinel, .sentinel, .sentinel, .sentinel, .sentinel, .sentinel, .sentinel, .sentinel, .sentinel, .sentinel, .sentinel, .sentinel, .sentinel, .sentinel, .sentinel, .sentinel, .sentinel], laidTests := true, laidLooks := .later }
def UtfEncodesCardSaid : Prop := Claim7.holds Tryd.pinned (.plain (OpenSpec.ofChange utfEncodesSpec)) utfEncodesCard

/-- THE TIED CARD OF 'eponymlaw01.UtfOrder'. -/
def utfOrderCard : Claim7 := { stood := { row := utfOrderRow, standIns := [], harness := (true, "27b072655863acf340d6c2779810c13654f5377495355be1efec89f5b0c665ea"), looks := true }, kinds := [], alts := [], laidByText := true, laidKinds := [.handle, .sentinel, .sentinel, .sentinel, .sentinel, .sentinel, .sentinel, .sentinel, .sentinel, .sentinel, .sentinel, .sentinel, .sentinel, .sentinel, .sentinel, .sentinel, .sentinel, .sentinel, .sentinel], laidTests := true, laidLooks := .later }
def UtfOrderCardSaid : Prop := Claim7.holds Tryd.pinned (.plain (OpenSpec.ofChange utfOrderSpec)) utfOrderCard

/-- THE TIED CARD OF 'eponymlaw02.PctParts'. -/
def pctPartsCard : Claim7 := { stood := { row := pctPartsRow, standIns := [], harness := (true, "27b072655863acf340d6c2779810c13654f5377495355be1efec89f5b0c665ea"), looks := true }, kinds := [], alts := [], laidByText := true, laidKinds := [.handle, .sentinel, .sentinel, .sentinel, .sentinel, .sentinel, .sentinel, .sentinel, .sentinel, .sentinel, .sentinel, .sentinel, .sentinel, .sentinel, .sentinel, .sentinel, .sentinel, .sentinel, .sentinel], laidTests := true, laidLooks := .later }
def PctPartsCardSaid : Prop := Claim7.holds Tryd.pinned (.plain (OpenSpec.ofChange pctPartsSpec)) pctPartsCard

/-- THE TIED CARD OF 'eponymlaw02.PctTexts'. -/
def pctTextsCard : Claim7 := { stood := { row := pctTextsRow, standIns := [], harness := (true, "27b072655863acf340d6c2779810c13654f5377495355be1efec89f5b0c665ea"), looks := true }, kinds := [], alts := [], laidByText := true, laidKinds := [.handle, .sentinel, .sentinel, .sentinel, .sentinel, .sentinel, .sentinel, .sentinel, .sentinel, .sentinel, .sentinel, .sentinel, .sentinel, .sentinel, .sentinel, .sentinel, .sentinel, .sentinel, .sentinel], laidTests := true, laidLooks := .later }
def PctTextsCardSaid : Prop := Claim7.holds Tryd.pinned (.plain (OpenSpec.ofChange pctTextsSpec)) pctTextsCard

/-- THE SECOND FORM's CARD OF 'eponymlaw02.PctSplits'. -/
def pctSplitsUptoCard : Claim7 := { stood := { row := pctSplitsUptoRow, standIns := [], harness := (true, "27b072655863acf340d6c2779810c13654f5377495355be1efec89f5b0c665ea"), looks := true }, kinds := [], alts := [], laidByText := true, laidKinds := [.handle, .sentinel, .sentinel, .sentinel, .sentinel, .sentinel, .sentinel, .sentinel, .sentinel, .sentinel, .sentinel, .sentinel, .sentinel, .sentinel, .sentinel, .sentinel, .sentinel, .sentinel, .sentinel], laidTests := true, laidLooks := .later }
def PctSplitsUptoCardSaid : Prop := Claim7.holds Tryd.pinned (.plain (OpenSpec.upto pctSplitsSpec)) pctSplitsUptoCard

/-- THE SECOND FORM's CARD OF 'eponymlaw02.PctEscapes'. -/
def pctEscapesUptoCard : Claim7 := { stood := { row := pctEscapesUptoRow, standIns := [], harness := (true, "27b072655863acf340d6c2779810c13654f5377495355be1efec89f5b0c665ea"), looks := true }, kinds := [], alts := [], laidByText := true, laidKinds := [.handle, .sentinel, .sentinel, .sentinel, .sentinel, .sentinel, .sentinel, .sentinel, .sentinel, .sentinel, .sentinel, .sentinel, .sentinel, .sentinel, .sentinel, .sentinel, .sentinel, .sentinel, .sentinel], laidTests := true, laidLooks := .later }
def PctEscapesUptoCardSaid : Prop := Claim7.holds Tryd.pinned (.plain (OpenSpec.upto pctEscapesSpec)) pctEscapesUptoCard

/-- THE SECOND FORM's CARD OF 'eponymlaw02.PctBack'. -/
def pctBackUptoCard : Claim7 := { stood := { row := pctBackUptoRow, standIns := [], harness := (true, "27b072655863acf340d6c2779810c13654f5377495355be1efec89f5b0c665ea"), looks := true }, kinds := [], alts := [], laidByText := true, laidKinds := [.handle, .sentinel, .sentinel, .sentinel, .sentinel, .sentinel, .sentinel, .sentinel, .sentinel, .sentinel, .sentinel, .sentinel, .sentinel, .sentinel, .sentinel, .sentinel, .sentinel, .sentinel, .sentinel], laidTests := true, laidLooks := .later }
def PctBackUptoCardSaid : Prop := Claim7.holds Tryd.pinned (.plain (OpenSpec.upto pctBackSpec)) pctBackUptoCard

/-- THE SECOND FORM's CARD OF 'eponymlaw01.UtfEncodes'. -/
def utfEncodesUptoCard : Claim7 := { stood := { row := utfEncodesUptoRow, standIns := [], harness := (true, "27b072655863acf340d6c2779810c13654f5377495355be1efec89f5b0c665ea"), looks := true }, kinds := [], alts := [], laidByText := true, laidKinds := [.handle, .sentinel, .sentinel, .sentinel, .sentinel, .sentinel, .sentinel, .sentinel, .sentinel, .sentinel, .sentinel, .sentinel, .sentinel, .sentinel, .sentinel, .sentinel, .sentinel, .sentinel, .sentinel], laidTests := true, laidLooks := .later }
def UtfEncodesUptoCardSaid : Prop := Claim7.holds Tryd.pinned (.plain (OpenSpec.upto utfEncodesSpec)) utfEncodesUptoCard

/-- THE SECOND FORM's CARD OF 'eponymlaw01.UtfOrder'. -/
def utfOrderUptoCard : Claim7 := { stood := { row := utfOrderUptoRow, standIns := [], harness := (true, "27b072655863acf340d6c2779810c13654f5377495355be1efec89f5b0c665ea"), looks := true }, kinds := [], alts := [], laidByText := true, laidKinds := [.handle, .sentinel, .sentinel, .sentinel, .sentinel, .sentinel, .sentinel, .sentinel, .sentinel, .sentinel, .sentinel, .sentinel, .sentinel, .sentinel, .sentinel, .sentinel, .sentinel, .sentinel, .sentinel], laidTests := true, laidLooks := .later }
def UtfOrderUptoCardSaid : Prop := Claim7.holds Tryd.pinned (.plain (OpenSpec.upto utfOrderSpec)) utfOrderUptoCard

/-- THE SECOND FORM's CARD OF 'eponymlaw02.PctParts'. -/
def pctPartsUptoCard : Claim7 := { stood := { row := pctPartsUptoRow, standIns := [], harness := (true, "27b072655863acf340d6c2779810c13654f5377495355be1efec89f5b0c665ea"), looks := true }, kinds := [], alts := [], laidByText := true, laidKinds := [.handle, .sentinel, .sentinel, .sentinel, .sentinel, .sentinel, .sentinel, .sentinel, .sentinel, .sentinel, .sentinel, .sentinel, .sentinel, .sentinel, .sentinel, .sentinel, .sentinel, .sentinel, .sentinel], laidTests := true, laidLooks := .later }
def PctPartsUptoCardSaid : Prop := Claim7.holds Tryd.pinned (.plain (OpenSpec.upto pctPartsSpec)) pctPartsUptoCard

/-- THE SECOND FORM's CARD OF 'eponymlaw02.PctTexts'. -/
def pctTextsUptoCard : Claim7 := { stood := { row := pctTextsUptoRow, standIns := [], harness := (true, "27b072655863acf340d6c2779810c13654f5377495355be1efec89f5b0c665ea"), looks := true }, kinds := [], alts := [], laidByText := true, laidKinds := [.handle, .sentinel, .sentinel, .sentinel, .sentinel, .sentinel, .sentinel, .sentinel, .sentinel, .sentinel, .sentinel, .sentinel, .sentinel, .sentinel, .sentinel, .sentinel, .sentinel, .sentinel, .sentinel], laidTests := true, laidLooks := .later }
def PctTextsUptoCardSaid : Prop := Claim7.holds Tryd.pinned (.plain (OpenSpec.upto pctTextsSpec)) pctTextsUptoCard
end Rows
end Go.Proofs.YtkaepipnbgdoeaaDoor
