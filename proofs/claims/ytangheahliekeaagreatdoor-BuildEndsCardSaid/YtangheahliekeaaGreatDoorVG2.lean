/- What the claim uses of the text G2. -/
import Derived.Test.YtangheahliekeaaGreatDoorVG1
import Derived.Deep.RegionWith
set_option linter.unusedVariables false
namespace Go.Proofs.YtangheahliekeaaGreatDoor
open Go.RowKit Go.PlainAid
open Go.Proofs.YtangheahliekeaaGreatDoorW.PrintWords (below_step)

theorem SetAt.below {b : Nat} {f : Nat → Bool} {w w' : World} (h : SetAt b f w) (hb : Below w.heap.size w w') : SetAt b f w' := (hb.block b h.lt).trans h
/-- The place of a digit. -/
def hexc (n : Int) : Int := if n < 10 then 48 + n else 55 + n
theorem hexc_range (n : Int) (h0 : 0 ≤ n) (h1 : n ≤ 15) : 0 ≤ hexc n ∧ hexc n ≤ 255 := by unfold hexc; omega

end Go.Proofs.YtangheahliekeaaGreatDoor

