/- What the claim uses of the text PAllx0. -/
import Derived.Test.YtangheahliekeaaGreatDoorProg
import Derived.Below
import Derived.Deep.Draws
import Derived.Deep.AppendLies
import Derived.Maps.AppendAt
import Derived.OwnWalk
import Derived.Laws.BytesArg
import Derived.Laws.MakeOwn
import Derived.Laws.OwnMore
import Derived.Deep.OwnRows
import Derived.Tactics
import Derived.Lib.ConvBytes
import Derived.Laws.Slices
import Derived.WalkKit
import Derived.KernelRfl
import Derived.RowKit3
import Derived.Deep.LoopGhost
import Derived.Deep.QuietTactic
import Derived.BigQuiet
import Derived.WideLaws
import Derived.Deep.DeepCutAuto
import Derived.Deep.CutBlock
import Derived.Deep.RegionHeld3
import Derived.Laws.Rows
import Derived.Lib.AppendStr
import Derived.ArgAppend
import Derived.Laws.IdiomCopy
import Derived.OrdersHeld
import Derived.Laws.BitsLemmas
import Derived.RowKit
import Derived.Test.YtangheahliekeaaGreatDoorVWWords
section
namespace Go.Proofs.YtangheahliekeaaGreatDoor.PAll
open Go.RowKit Go.Proofs.YtangheahliekeaaGreatDoorW.PrintWords Go.Proofs.YtangheahliekeaaGreatDoorW.PrintLast Go.Proofs.YtangheahliekeaaGreatDoorW.PrintMore
set_option linter.unusedVariables false
set_option linter.unusedSimpArgs false



-- the values' own types

end Go.Proofs.YtangheahliekeaaGreatDoor.PAll
end

section
namespace Go.Proofs.YtangheahliekeaaGreatDoor.PAll
open Go.RowKit Go.Proofs.YtangheahliekeaaGreatDoorW.PrintWords Go.Proofs.YtangheahliekeaaGreatDoorW.PrintLast Go.Proofs.YtangheahliekeaaGreatDoorW.PrintMore
set_option linter.unusedVariables false
set_option linter.unusedSimpArgs false

mutual
def ip_gap.l0 : Nat → List Int → Int → Int → Int → Option (Int × Int)
  | 0, _, _, _, _ => none
  | k + 1, x0, x2, x3, x4 => if x4 < (x0.length : Int) then (ip_gap.l1 k x0 x2 x3 x4 0) else (some (x2, x3))
def ip_gap.l1 : Nat → List Int → Int → Int → Int → Int → Option (Int × Int)
  | 0, _, _, _, _, _ => none
  | k + 1, x0, x2, x3, x4, x5 => if (wrap64 (x4 + x5)) < (x0.length : Int) then (if 0 ≤ (wrap64 (x4 + x5)) then (if (rd x0 (wrap64 (x4 + x5))) = 0 then (ip_gap.l1 k x0 x2 x3 x4 (wrap64 (x5 + 1))) else (if x5 > (mx x3 1) then (ip_gap.l0 k x0 x4 x5 (wrap64 (x4 + 1))) else (ip_gap.l0 k x0 x2 x3 (wrap64 (x4 + 1))))) else (none)) else (if x5 > (mx x3 1) then (ip_gap.l0 k x0 x4 x5 (wrap64 (x4 + 1))) else (ip_gap.l0 k x0 x2 x3 (wrap64 (x4 + 1))))
end
def ip_gap.f (k : Nat) (l0 : List Int) : Option (Int × Int) := ip_gap.l0 k l0 0 0 0
theorem ip_gap.mono_l : ∀ k, (∀ y0 y1 y2 y3, LeO (ip_gap.l0 k y0 y1 y2 y3) (ip_gap.l0 (k + 1) y0 y1 y2 y3)) ∧ (∀ y0 y1 y2 y3 y4, LeO (ip_gap.l1 k y0 y1 y2 y3 y4) (ip_gap.l1 (k + 1) y0 y1 y2 y3 y4))
  | 0 => ⟨fun _ _ _ _ r h => by simp [ip_gap.l0] at h, fun _ _ _ _ _ r h => by simp [ip_gap.l1] at h⟩
  | k + 1 => by
    obtain ⟨ih0, ih1⟩ := ip_gap.mono_l k
    refine ⟨?_, ?_⟩
    · intro y0 y1 y2 y3
      unfold ip_gap.l0
      repeat' first
      | (with_reducible exact ih0 _ _ _ _)
      | (with_reducible exact ih1 _ _ _ _ _)
      | (with_reducible exact LeO.refl _)
      | (with_reducible exact LeO.none _)
      | (with_reducible refine LeO.ite ?_ ?_)
      | (with_reducible refine LeO.bind ?_ (fun _ => ?_))
      | exact ih0 _ _ _ _
      | exact ih1 _ _ _ _ _
      | exact LeO.none _
      | refine LeO.ite ?_ ?_
      | refine LeO.bind ?_ (fun _ => ?_)
    · intro y0 y1 y2 y3 y4
      unfold ip_gap.l1
      repeat' first
      | (with_reducible exact ih0 _ _ _ _)
      | (with_reducible exact ih1 _ _ _ _ _)
      | (with_reducible exact LeO.refl _)
      | (with_reducible exact LeO.none _)
      | (with_reducible refine LeO.ite ?_ ?_)
      | (with_reducible refine LeO.bind ?_ (fun _ => ?_))
      | exact ih0 _ _ _ _
      | exact ih1 _ _ _ _ _
      | exact LeO.none _
      | refine LeO.ite ?_ ?_
      | refine LeO.bind ?_ (fun _ => ?_)
theorem ip_gap.mono : ∀ a0 k, LeO (ip_gap.f k a0) (ip_gap.f (k + 1) a0) := by
  intro a0 k
  obtain ⟨ih0, ih1⟩ := ip_gap.mono_l k
  unfold ip_gap.f
  repeat' first
      | (with_reducible exact ih0 _ _ _ _)
      | (with_reducible exact ih1 _ _ _ _ _)
      | (with_reducible exact LeO.refl _)
      | (with_reducible exact LeO.none _)
      | (with_reducible refine LeO.ite ?_ ?_)
      | (with_reducible refine LeO.bind ?_ (fun _ => ?_))
      | exact ih0 _ _ _ _
      | exact ih1 _ _ _ _ _
      | exact LeO.none _
      | refine LeO.ite ?_ ?_
      | refine LeO.bind ?_ (fun _ => ?_)
end Go.Proofs.YtangheahliekeaaGreatDoor.PAll
end

