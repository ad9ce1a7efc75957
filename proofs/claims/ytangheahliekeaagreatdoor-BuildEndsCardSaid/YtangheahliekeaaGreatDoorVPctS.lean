/- What the claim uses of the text PctS. -/
import Derived.Test.YtangheahliekeaaGreatDoorProg
import Derived.Test.YtangheahliekeaaGreatDoorVBase
import Derived.WalkKit
import Derived.Deep.WholeRow
import Derived.Deep.LoopGhost
import Derived.Handy
import Derived.Laws.ResultCell
import Derived.Lib.Hide
import Derived.Lib.Builder
set_option linter.unusedVariables false
namespace Go.Proofs.YtangheahliekeaaGreatDoor
open Go.RowKit Go.PlainAid

def tab (f : Nat → Bool) : Array Value := ((List.range 256).map fun i => Value.bool (f i)).toArray
theorem tab_size (f : Nat → Bool) : (tab f).size = 256 := by simp [tab]
theorem tab_get (f : Nat → Bool) (i : Nat) (h : i < 256) : (tab f)[i]? = some (.bool (f i)) := by
  simp [tab, h]
theorem tab_set (f : Nat → Bool) (i : Nat) (v : Bool) (h : i < 256) : (tab f).setIfInBounds i (.bool v) = tab fun j => if j = i then v else f j := by
  apply Array.ext_getElem?
  intro j
  by_cases hj : j < 256
  · rw [tab_get _ j hj, Array.getElem?_setIfInBounds]
    by_cases e : i = j
    · subst e; simp [tab_size, h]
    · rw [if_neg e, tab_get _ j hj, if_neg (fun x => e x.symm)]
  · rw [Array.getElem?_eq_none (by rw [Array.size_setIfInBounds, tab_size]; omega), Array.getElem?_eq_none (by rw [tab_size]; omega)]
/-- A block of the call's own that holds a set of bytes. -/
def SetAt (b : Nat) (f : Nat → Bool) (w : World) : Prop := w.heap[b]? = some (.cells (tab f) 165 (0, 0))
theorem SetAt.cell {b : Nat} {f : Nat → Bool} {w : World} (h : SetAt b f w) (i : Nat) (hi : i < 256) : w.cell? ⟨b, i, none⟩ = some (.bool (f i)) := by
  rw [cell_of_row _ _ i _ _ _ h, tab_get f i hi]
theorem SetAt.lt {b : Nat} {f : Nat → Bool} {w : World} (h : SetAt b f w) : b < w.heap.size := (Array.getElem?_eq_some_iff.1 h).1
theorem SetAt.frozen {b : Nat} {f : Nat → Bool} {w : World} (h : SetAt b f w) (i : Nat) : w.frozen? ⟨b, i, none⟩ = false := Lib.frozen_of_heap h i
theorem SetAt.set {b : Nat} {f : Nat → Bool} {w : World} (h : SetAt b f w) (i : Nat) (hi : i < 256) (v : Bool) : SetAt b (fun j => if j = i then v else f j) (w.setCell ⟨b, i, none⟩ (.bool v)) := by
  unfold SetAt at *
  rw [← tab_set f i v hi]
  simp [World.setCell, Array.getElem?_modify, h]
theorem SetAt.other {b c i : Nat} {f : Nat → Bool} {w : World} (h : SetAt b f w) (hc : c ≠ b) (v : Value) : SetAt b f (w.setCell ⟨c, i, none⟩ v) := by
  unfold SetAt at *
  simp [World.setCell, Array.getElem?_modify, h, hc]

theorem SetAt.row {b c : Nat} {f g : Nat → Bool} {w : World} (h : SetAt b f w) : SetAt b g (w.setRow b (tab g)) := by
  unfold SetAt at *
  simp [World.setRow, Array.getElem?_modify, h]
theorem below_setRow {B b : Nat} {w w' : World} {c : Array Value} (h : Below B w w') (hb : B ≤ b) : Below B w (w'.setRow b c) := by
  refine ⟨h.os, h.tape, h.output, ?_, ?_⟩
  · have := h.size; simpa [World.setRow] using this
  · intro k hk
    have := h.block k hk
    rw [← this]
    simp only [World.setRow]
    rw [Array.getElem?_modify, if_neg (by omega)]
end Go.Proofs.YtangheahliekeaaGreatDoor

