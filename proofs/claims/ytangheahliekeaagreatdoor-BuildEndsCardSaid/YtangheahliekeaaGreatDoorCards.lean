/-
  DERIVED. GIVEN WITH THE SEED: THE CARDS: each row of YtangheahliekeaaGreatDoorRows.lean that lists a variable, with what it lists TIED to the program's text (the seventh form; the later family's looks); each row that meets fmt, with fmt's text TOLD by the authors' own Lean function (tested against real Go, not proved from fmt's source: count such statements apart). THE CARD IS WHAT COUNTS. Prove the row's statement (the work); the ties are given (YtangheahliekeaaGreatDoorTie.lean); close each card by the builder's one call (the guide's Derived/Test/ToyasCard.lean, 'card_holds'). Laid BY PROGRAM, IN A SANDBOX (cutbox-door.mjs). By AI agents, Wed Nov 11 2026. No macro, syntax, notation, axiom, sorry.
-/
import Derived.Test.YtangheahliekeaaGreatDoorRows
import GoSem.ClaimSeven
namespace Go.Proofs.YtangheahliekeaaGreatDoor
namespace Rows

/-- THE TIED CARD OF 'eponymlaw28.BuildEnds'. -/
def buildEndsCard : Claim7 := { stood := { row := buildEndsRow, standIns := [], harness := (true, "7516d9c3f64451b2a3dc0cc8bcabb7f953061e876a8f5a0f1c6a2678b393d4ed"), looks := true }, kinds := [], alts := [], laidByText := true, laidKinds := [.data, .data, .data, .data, .handle, .sentinel, .sentinel, .sentinel, .sentinel, .sentinel, .sentinel, .sentinel, .sentinel, .sentinel, .sentinel, .sentinel, .sentinel, .sentinel, .pinned], laidTests := true, laidLooks := .later }
def BuildEndsCardSaid : Prop := Claim7.holds Tryz.pinned (.plain (OpenSpec.ofChange buildEndsSpec)) buildEndsCard

/-- THE SECOND FORM's CARD OF 'eponymlaw28.BuildEnds'. -/
def buildEndsUptoCard : Claim7 := { stood := { row := buildEndsUptoRow, standIns := [], harness := (true, "7516d9c3f64451b2a3dc0cc8bcabb7f953061e876a8f5a0f1c6a2678b393d4ed"), looks := true }, kinds := [], alts := [], laidByText := true, laidKinds := [.data, .data, .data, .data, .handle, .sentinel, .sentinel, .sentinel, .sentinel, .sentinel, .sentinel, .sentinel, .sentinel, .sentinel, .sentinel, .sentinel, .sentinel, .sentinel, .pinned], laidTests := true, laidLooks := .later }
def BuildEndsUptoCardSaid : Prop := Claim7.holds Tryz.pinned (.plain (OpenSpec.upto buildEndsSpec)) buildEndsUptoCard
end Rows
end Go.Proofs.YtangheahliekeaaGreatDoor
