/- What the claim uses of the text K1. -/
import Derived.Test.YtpdpgppaoipnlaaDoorUJ4
import Derived.Test.YtpdpgppaoipnlaaDoorURef
import Derived.Deep.MidRow
import Derived.Test.YtpdpgppaoipnlaaDoorUJ3
import Derived.Deep.DeepCutAuto
import Derived.Deep.CutBlock
set_option linter.unusedVariables false
set_option linter.unusedSimpArgs false
namespace Go.Proofs.YtpdpgppaoipnlaaDoor
section
open Go.RowKit Go.PlainAid
open Go.Proofs.YtpdpgppaoipnlaaDoorW.PrintWords hiding bt
open Go.Proofs.YtpdpgppaoipnlaaDoorW.PrintMore

/-- A block of cells. -/
def Row (t : TypeId) (b : Nat) (cs : Array Value) (w : World) : Prop := w.heap[b]? = some (.cells cs t (0, 0))
section
variable {t : TypeId} {b : Nat} {cs : Array Value} {w w' : World}
theorem Row.lt (h : Row t b cs w) : b < w.heap.size := (Array.getElem?_eq_some_iff.1 h).1
theorem Row.new (w : World) (t : TypeId) (cs : Array Value) {n : Nat} (h : n = w.heap.size) : Row t n cs (w.alloc (.cells cs t)) := by subst h; exact Go.heap_alloc_new w _
theorem Row.old (h : Row t b cs w) (o : Obj) : Row t b cs (w.alloc o) := (Go.heap_alloc_old _ _ h.lt).trans h
theorem Row.kept {row : Option Nat} (h : Row t b cs w) (hg : w.grownBy w' row) (hr : some b ≠ row) : Row t b cs w' := (hg.block b h.lt hr).trans h
theorem Row.below (h : Row t b cs w) (hb : Below w.heap.size w w') : Row t b cs w' := (hb.block b h.lt).trans h
theorem Row.set (h : Row t b cs w) {ds : Array Value} : Row t b ds (w.setRow b ds) := by
  unfold Row at *
  simp [World.setRow, Array.getElem?_modify, h]
theorem Row.far (h : Row t b cs w) {c o : Nat} (hc : b ≠ c) (v : Value) : Row t b cs (w.setCell ⟨c, o, none⟩ v) := (Below.heap_setCell _ _ _ _ hc).trans h
theorem Row.cell (h : Row t b cs w) (o : Nat) (v : Value) (hv : cs[o]? = some v) : w.cell? ⟨b, o, none⟩ = some v := by rw [Lib.cell_of_heap h]; exact hv
theorem Row.frozen (h : Row t b cs w) (o : Nat) : w.frozen? ⟨b, o, none⟩ = false := Lib.frozen_of_heap h o
theorem Row.setCell (h : Row t b cs w) (o : Nat) (v : Value) : Row t b (cs.setIfInBounds o v) (w.setCell ⟨b, o, none⟩ v) := by
  unfold Row at *
  simp [World.setCell, Array.getElem?_modify, h]
end
section
variable {ops : Array Oper} {rest : List Oper} {a : Act} {w : World} {Q : Exit → Act → World → Prop} {dst : Option Tmp} {x y : Operand} {ty : TypeId} {pos : String} {after : Array Edge} {b : Nat}
end
def GotBad (s : ByteArray) (i : Nat) (w : World) (e : Ending) (w' : World) : Prop := e = .returned (.agg #[.int .i64 0, .string ⟨#[]⟩, .slice none 0 0, .slice none 0 0, .string ⟨#[]⟩, .int .i64 (badAt s i).1, .int .i64 (badAt s i).2]) ∧ Hid (Below w.heap.size w w')
end

section
open Go.RowKit Go.PlainAid
open Go.Proofs.YtpdpgppaoipnlaaDoorW.PrintWords hiding bt
open Go.Proofs.YtpdpgppaoipnlaaDoorW.PrintMore

def GotIs (L : Nat) (r : JV × Int × Int) (w : World) (e : Ending) (w' : World) : Prop :=
  ∃ a0 a1 a2 a3 t, e = .returned (.agg #[a0, a1, a2, a3, .string t, .int .i64 r.2.1, .int .i64 r.2.2]) ∧ Hid (r.2.2 = 0 → (jd L).M w' w.heap.size (fun k => w.heap.size ≤ k) r.1 [a0, a1, a2, a3]) ∧ Hid ((#[a0, a1, a2, a3] : Array Value).all (·.oneCell') = true) ∧ Hid (Below w.heap.size w w')
theorem GotIs.bad {L : Nat} {s : ByteArray} {i : Nat} {r : JV × Int × Int} {x : JV} {w w' : World} {e : Ending} (h : r = (x, badAt s i)) (hb : GotBad s i w e w') : GotIs L r w e w' := by
  obtain ⟨rfl, hb⟩ := hb
  rw [h]
  exact ⟨_, _, _, _, _, rfl, fun h => absurd h (badAt_ne _ _), (show (_ : Bool) = true by simp [Value.oneCell']), hb⟩

end

section
open Go.RowKit Go.PlainAid

/-- A map of the call's own, from bytes to numbers. -/
def SeenB (mb N : Nat) (f : Int → Int) (w : World) : Prop := ∃ (D : DataW Unit) (n : Nat), w.ownsMap Tryd.prog 5 (plainElem Tryd.prog 3) mb n D ∧ Maps.IsMap D ∧ n ≤ N ∧ ∀ c : Int, D.atKey (.int .u8 c) (.lit (.int .i64 0)) = .lit (.int .i64 (f c))
theorem SeenB.made (w : World) : SeenB w.heap.size 0 (fun _ => 0) (w.alloc (.map #[] 0)) := ⟨.map [], 0, World.ownsMap_made w _ _ _, Maps.isMap_empty, by simp, fun t => by simp [DataW.atKey]⟩
end

end Go.Proofs.YtpdpgppaoipnlaaDoor

