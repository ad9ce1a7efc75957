/-
  DERIVED. GIVEN WITH THE SEED: THE CARDS: each row of YtpdpgppaoipnlaaDoorRows.lean that lists a variable, with what it lists TIED to the program's text (the seventh form; the later family's looks); each row that meets fmt, with fmt's text TOLD by the authors' own Lean function (tested against real Go, not proved from fmt's source: count such statements apart). THE CARD IS WHAT COUNTS. Prove the row's statement (the work); the ties are given (YtpdpgppaoipnlaaDoorTie.lean); close each card by the builder's one call (the guide's Derived/Test/ToyasCard.lean, 'card_holds'). Laid BY PROGRAM, IN A SANDBOX (cutbox-door.mjs). By AI agents, Wed Nov 11 2026. No macro, syntax, notation, axiom, sorry.
-/
import Derived.Test.YtpdpgppaoipnlaaDoorRows
import GoSem.ClaimSeven
namespace Go.Proofs.YtpdpgppaoipnlaaDoor
namespace Rows

/-- THE TIED CARD OF 'eponymlaw13.JsonreadReads'. -/
def jsonreadReadsCard : Claim7 := { stood := { row := jsonreadReadsRow, standIns := [], harness := (true, "632ca6cf3cd8ce57349516480a1cc6af08f321759c9d7cc136e6380b399e2c16"), looks := true }, kinds := [], alts := [], laidByText := true, laidKinds := [.handle, .sentinel, .sentinel, .sentinel, .sentinel, .sentinel, .sentinel, .sentinel, .sentinel, .sentinel, .sentinel, .sentinel, .sentinel, .sentinel, .sentinel, .sentinel, .sentinel, .sentinel, .sentinel], laidTests := true, laidLooks := .later }
def JsonreadReadsCardSaid : Prop := Claim7.holds Tryd.pinned (.plain (OpenSpec.ofChange jsonreadReadsSpec)) jsonreadReadsCard

/-- THE TIED CARD OF 'eponymlaw13.JsonreadOnes'. -/
def jsonreadOnesCard : Claim7 := { stood := { row := jsonreadOnesRow, standIns := [], harness := (true, "632ca6cf3cd8ce57349516480a1cc6af08f321759c9d7cc136e6380b399e2c16"), looks := true }, kinds := [], alts := [], laidByText := true, laidKinds := [.handle, .sentinel, .sentinel, .sentinel, .sentinel, .sentinel, .sentinel, .sentinel, .sentinel, .sentinel, .sentinel, .sentinel, .sentinel, .sentinel, .sentinel, .sentinel, .sentinel, .sentinel, .sentinel], laidTests := true, laidLooks := .later }
def JsonreadOnesCardSaid : Prop := Claim7.holds Tryd.pinned (.plain (OpenSpec.ofChange jsonreadOnesSpec)) jsonreadOnesCard

/-- THE TIED CARD OF 'eponymlaw12.JsonvalOnce'. -/
def jsonvalOnceCard : Claim7 := { stood := { row := jsonvalOnceRow, standIns := [], harness := (true, "632ca6cf3cd8ce57349516480a1cc6af08f321759c9d7cc136e6380b399e2c16"), looks := true }, kinds := [], alts := [], laidByText := true, laidKinds := [.data, .data, .data, .handle, .sentinel, .sentinel, .sentinel, .sentinel, .sentinel, .sentinel, .sentinel], laidTests := true, laidLooks := .later }
def JsonvalOnceCardSaid : Prop := Claim7.holds Tryd.pinned (.plain (OpenSpec.ofChange jsonvalOnceSpec)) jsonvalOnceCard

/-- THE TIED CARD OF 'eponymlaw12.JsonvalMakes'. -/
def jsonvalMakesCard : Claim7 := { stood := { row := jsonvalMakesRow, standIns := [], harness := (true, "632ca6cf3cd8ce57349516480a1cc6af08f321759c9d7cc136e6380b399e2c16"), looks := true }, kinds := [], alts := [], laidByText := true, laidKinds := [.data, .data, .data, .handle, .sentinel, .sentinel, .sentinel, .sentinel, .sentinel, .sentinel, .sentinel], laidTests := true, laidLooks := .later }
def JsonvalMakesCardSaid : Prop := Claim7.holds Tryd.pinned (.plain (OpenSpec.ofChange jsonvalMakesSpec)) jsonvalMakesCard

/-- THE TIED CARD OF 'eponymlaw12.JsonvalTexts'. -/
def jsonvalTextsCard : Claim7 := { stood := { row := jsonvalTextsRow, standIns := [], harness := (true, "632ca6cf3cd8ce57349516480a1cc6af08f321759c9d7cc136e6380b399e2c16"), looks := true }, kinds := [], alts := [], laidByText := true, laidKinds := [.data, .data, .data, .handle, .sentinel, .sentinel, .sentinel, .sentinel, .sentinel, .sentinel, .sentinel], laidTests := true, laidLooks := .later }
def JsonvalTextsCardSaid : Prop := Claim7.holds Tryd.pinned (.plain (OpenSpec.ofChange jsonvalTextsSpec)) jsonvalTextsCard

/-- THE TIED CARD OF 'eponymlaw12.JsonvalEquals'. -/
def jsonvalEqualsCard : Claim7 := { stood := { row := jsonvalEqualsRow, standIns := [], harness := (true, "632ca6cf3cd8ce57349516480a1cc6af08f321759c9d7cc136e6380b399e2c16"), looks := true }, kinds := [], alts := [], laidByText := true, laidKinds := [.data, .data, .data, .handle, .sentinel, .sentinel, .sentinel, .sentinel, .sentinel, .sentinel, .sentinel], laidTests := true, laidLooks := .later }
def JsonvalEqualsCardSaid : Prop := Claim7.holds Tryd.pinned (.plain (OpenSpec.ofChange jsonvalEqualsSpec)) jsonvalEqualsCard

/-- THE TIED CARD OF 'eponymlaw12.JsonvalChecks'. -/
def jsonvalChecksCard : Claim7 := { stood := { row := jsonvalChecksRow, standIns := [], harness := (true, "632ca6cf3cd8ce57349516480a1cc6af08f321759c9d7cc136e6380b399e2c16"), looks := true }, kinds := [], alts := [], laidByText := true, laidKinds := [.data, .data, .data, .handle, .sentinel, .sentinel, .sentinel, .sentinel, .sentinel, .sentinel, .sentinel, .sentinel, .sentinel, .sentinel, .sentinel, .sentinel, .sentinel, .sentinel, .sentinel, .sentinel, .sentinel, .sentinel], laidTests := true, laidLooks := .later }
def JsonvalChecksCardSaid : Prop := Claim7.holds Tryd.pinned (.plain (OpenSpec.ofChange jsonvalChecksSpec)) jsonvalChecksCard

/-- THE TIED CARD OF 'eponymlaw13.JsonreadRight'. -/
def jsonreadRightCard : Claim7 := { stood := { row := jsonreadRightRow, standIns := [], harness := (true, "632ca6cf3cd8ce57349516480a1cc6af08f321759c9d7cc136e6380b399e2c16"), looks := true }, kinds := [], alts := [], laidByText := true, laidKinds := [.handle, .sentinel, .sentinel, .sentinel, .sentinel, .sentinel, .sentinel, .sentinel, .sentinel, .sentinel, .sentinel, .sentinel, .sentinel, .sentinel, .sentinel, .sentinel, .sentinel, .sentinel, .sentinel], laidTests := true, laidLooks := .later }
def JsonreadRightCardSaid : Prop := Claim7.holds Tryd.pinned (.plain (OpenSpec.ofChange jsonreadRightSpec)) jsonreadRightCard

/-- THE TIED CARD OF 'eponymlaw13.JsonreadBack'. -/
def jsonreadBackCard : Claim7 := { stood := { row := jsonreadBackRow, standIns := [], harness := (true, "632ca6cf3cd8ce57349516480a1cc6af08f321759c9d7cc136e6380b399e2c16"), looks := true }, kinds := [], alts := [], laidByText := true, laidKinds := [.handle, .sentinel, .sentinel, .sentinel, .sentinel, .sentinel, .sentinel, .sentinel, .sentinel, .sentinel, .sentinel, .sentinel, .sentinel, .sentinel, .sentinel, .sentinel, .sentinel, .sentinel, .sentinel], laidTests := true, laidLooks := .later }
def JsonreadBackCardSaid : Prop := Claim7.holds Tryd.pinned (.plain (OpenSpec.ofChange jsonreadBackSpec)) jsonreadBackCard

/-- THE SECOND FORM's CARD OF 'eponymlaw13.JsonreadReads'. -/
def jsonreadReadsUptoCard : Claim7 := { stood := { row := jsonreadReadsUptoRow, standIns := [], harness := (true, "632ca6cf3cd8ce57349516480a1cc6af08f321759c9d7cc136e6380b399e2c16"), looks := true }, kinds := [], alts := [], laidByText := true, laidKinds := [.handle, .sentinel, .sentinel, .sentinel, .sentinel, .sentinel, .sentinel, .sentinel, .sentinel, .sentinel, .sentinel, .sentinel, .sentinel, .sentinel, .sentinel, .sentinel, .sentinel, .sentinel, .sentinel], laidTests := true, laidLooks := .later }
def JsonreadReadsUptoCardSaid : Prop := Claim7.holds Tryd.pinned (.plain (OpenSpec.upto jsonreadReadsSpec)) jsonreadReadsUptoCard

/-- THE SECOND FORM's CARD OF 'eponymlaw13.JsonreadOnes'. -/
def jsonreadOnesUptoCard : Claim7 := { stood := { row := jsonreadOnesUptoRow, standIns := [], harness := (true, "632ca6cf3cd8ce57349516480a1cc6af08f321759c9d7cc136e6380b399e2c16"), looks := true }, kinds := [], alts := [], laidByText := true, laidKinds := [.handle, .sentinel, .sentinel, .sentinel, .sentinel, .sentinel, .sentinel, .sentinel, .sentinel, .sentinel, .sentinel, .sentinel, .sentinel, .sentinel, .sentinel, .sentinel, .sentinel, .sentinel, .sentinel], laidTests := true, laidLooks := .later }
def JsonreadOnesUptoCardSaid : Prop := Claim7.holds Tryd.pinned (.plain (OpenSpec.upto jsonreadOnesSpec)) jsonreadOnesUptoCard

/-- THE SECOND FORM's CARD OF 'eponymlaw12.JsonvalOnce'. -/
def jsonvalOnceUptoCard : Claim7 := { stood := { row := jsonvalOnceUptoRow, standIns := [], harness := (true, "632ca6cf3cd8ce57349516480a1cc6af08f321759c9d7cc136e6380b399e2c16"), looks := true }, kinds := [], alts := [], laidByText := true, laidKinds := [.data, .data, .data, .handle, .sentinel, .sentinel, .sentinel, .sentinel, .sentinel, .sentinel, .sentinel], laidTests := true, laidLooks := .later }
def JsonvalOnceUptoCardSaid : Prop := Claim7.holds Tryd.pinned (.plain (OpenSpec.upto jsonvalOnceSpec)) jsonvalOnceUptoCard

/-- THE SECOND FORM's CARD OF 'eponymlaw12.JsonvalMakes'. -/
def jsonvalMakesUptoCard : Claim7 := { stood := { row := jsonvalMakesUptoRow, standIns := [], harness := (true, "632ca6cf3cd8ce57349516480a1cc6af08f321759c9d7cc136e6380b399e2c16"), looks := true }, kinds := [], alts := [], laidByText := true, laidKinds := [.data, .data, .data, .handle, .sentinel, .sentinel, .sentinel, .sentinel, .sentinel, .sentinel, .sentinel], laidTests := true, laidLooks := .later }
def JsonvalMakesUptoCardSaid : Prop := Claim7.holds Tryd.pinned (.plain (OpenSpec.upto jsonvalMakesSpec)) jsonvalMakesUptoCard

/-- THE SECOND FORM's CARD OF 'eponymlaw12.JsonvalTexts'. -/
def jsonvalTextsUptoCard : Claim7 := { stood := { row := jsonvalTextsUptoRow, standIns := [], harness := (true, "632ca6cf3cd8ce57349516480a1cc6af08f321759c9d7cc136e6380b399e2c16"), looks := true }, kinds := [], alts := [], laidByText := true, laidKinds := [.data, .data, .data, .handle, .sentinel, .sentinel, .sentinel, .sentinel, .sentinel, .sentinel, .sentinel], laidTests := true, laidLooks := .later }
def JsonvalTextsUptoCardSaid : Prop := Claim7.holds Tryd.pinned (.plain (OpenSpec.upto jsonvalTextsSpec)) jsonvalTextsUptoCard

/-- THE SECOND FORM's CARD OF 'eponymlaw12.JsonvalEquals'. -/
def jsonvalEqualsUptoCard : Claim7 := { stood := { row := jsonvalEqualsUptoRow, standIns := [], harness := (true, "632ca6cf3cd8ce57349516480a1cc6af08f321759c9d7cc136e6380b399e2c16"), looks := true }, kinds := [], alts := [], laidByText := true, laidKinds := [.data, .data, .data, .handle, .sentinel, .sentinel, .sentinel, .sentinel, .sentinel, .sentinel, .sentinel], laidTests := true, laidLooks := .later }
def JsonvalEqualsUptoCardSaid : Prop := Claim7.holds Tryd.pinned (.plain (OpenSpec.upto jsonvalEqualsSpec)) jsonvalEqualsUptoCard

/-- THE SECOND FORM's CARD OF 'eponymlaw12.JsonvalChecks'. -/
def jsonvalChecksUptoCard : Claim7 := { stood := { row := jsonvalChecksUptoRow, standIns := [], harness := (true, "632ca6cf3cd8ce57349516480a1cc6af08f321759c9d7cc136e6380b399e2c16"), looks := true }, kinds := [], alts := [], laidByText := true, laidKinds := [.data, .data, .data, .handle, .sentinel, .sentinel, .sentinel, .sentinel, .sentinel, .sentinel, .sentinel, .sentinel, .sentinel, .sentinel, .sentinel, .sentinel, .sentinel, .sentinel, .sentinel, .sentinel, .sentinel, .sentinel], laidTests := true, laidLooks := .later }
def JsonvalChecksUptoCardSaid : Prop := Claim7.holds Tryd.pinned (.plain (OpenSpec.upto jsonvalChecksSpec)) jsonvalChecksUptoCard

/-- THE SECOND FORM's CARD OF 'eponymlaw13.JsonreadRight'. -/
def jsonreadRightUptoCard : Claim7 := { stood := { row := jsonreadRightUptoRow, standIns := [], harness := (true, "632ca6cf3cd8ce57349516480a1cc6af08f321759c9d7cc136e6380b399e2c16"), looks := true }, kinds := [], alts := [], laidByText := true, laidKinds := [.handle, .sentinel, .sentinel, .sentinel, .sentinel, .sentinel, .sentinel, .sentinel, .sentinel, .sentinel, .sentinel, .sentinel, .sentinel, .sentinel, .sentinel, .sentinel, .sentinel, .sentinel, .sentinel], laidTests := true, laidLooks := .later }
def JsonreadRightUptoCardSaid : Prop := Claim7.holds Tryd.pinned (.plain (OpenSpec.upto jsonreadRightSpec)) jsonreadRightUptoCard

/-- THE SECOND FORM's CARD OF 'eponymlaw13.JsonreadBack'. -/
def jsonreadBackUptoCard : Claim7 := { stood := { row := jsonreadBackUptoRow, standIns := [], harness := (true, "632ca6cf3cd8ce57349516480a1cc6af08f321759c9d7cc136e6380b399e2c16"), looks := true }, kinds := [], alts := [], laidByText := true, laidKinds := [.handle, .sentinel, .sentinel, .sentinel, .sentinel, .sentinel, .sentinel, .sentinel, .sentinel, .sentinel, .sentinel, .sentinel, .sentinel, .sentinel, .sentinel, .sentinel, .sentinel, .sentinel, .sentinel], laidTests := true, laidLooks := .later }
def JsonreadBackUptoCardSaid : Prop := Claim7.holds Tryd.pinned (.plain (OpenSpec.upto jsonreadBackSpec)) jsonreadBackUptoCard
end Rows
end Go.Proofs.YtpdpgppaoipnlaaDoor
