/-
  DERIVED. GIVEN WITH THE SEED: THE CARDS: each row of YtngokkebjadoiaaGreatDoorRows.lean that lists a variable, with what it lists TIED to the program's text (the seventh form; the later family's looks); each row that meets fmt, with fmt's text TOLD by the authors' own Lean function (tested against real Go, not proved from fmt's source: count such statements apart). THE CARD IS WHAT COUNTS. Prove the row's statement (the work); the ties are given (YtngokkebjadoiaaGreatDoorTie.lean); close each card by the builder's one call (the guide's Derived/Test/ToyasCard.lean, 'card_holds'). Laid BY PROGRAM, IN A SANDBOX (cutbox-door.mjs). By AI agents, Wed Nov 11 2026. No macro, syntax, notation, axiom, sorry.
-/
import Derived.Test.YtngokkebjadoiaaGreatDoorRows
import GoSem.ClaimSeven
namespace Go.Proofs.YtngokkebjadoiaaGreatDoor
namespace Rows

/-- THE TIED CARD OF 'eponymlaw25.RoutePaths'. -/
def routePathsCard : Claim7 := { stood := { row := routePathsRow, standIns := [], harness := (true, "cf4b9256e5f61aafff57a73e1e65680bea2b116511af74d827bb87b06e4a6285"), looks := true }, kinds := [], alts := [], laidByText := true, laidKinds := [.data, .data, .data, .data, .handle, .sentinel, .sentinel, .sentinel, .sentinel, .sentinel, .sentinel, .sentinel, .sentinel, .pinned], laidTests := true, laidLooks := .later }
def RoutePathsCardSaid : Prop := Claim7.holds Tryz.pinned (.plain (OpenSpec.ofChange routePathsSpec)) routePathsCard

/-- THE SECOND FORM's CARD OF 'eponymlaw25.RoutePaths'. -/
def routePathsUptoCard : Claim7 := { stood := { row := routePathsUptoRow, standIns := [], harness := (true, "cf4b9256e5f61aafff57a73e1e65680bea2b116511af74d827bb87b06e4a6285"), looks := true }, kinds := [], alts := [], laidByText := true, laidKinds := [.data, .data, .data, .data, .handle, .sentinel, .sentinel, .sentinel, .sentinel, .sentinel, .sentinel, .sentinel, .sentinel, .pinned], laidTests := true, laidLooks := .later }
def RoutePathsUptoCardSaid : Prop := Claim7.holds Tryz.pinned (.plain (OpenSpec.upto routePathsSpec)) routePathsUptoCard
end Rows
end Go.Proofs.YtngokkebjadoiaaGreatDoor
