/- What the claim uses of the text K3. -/
import Derived.Test.YtpdpgppaoipnlaaDoorUK1
set_option linter.unusedVariables false
set_option linter.unusedSimpArgs false
namespace Go.Proofs.YtpdpgppaoipnlaaDoor

section
open Go.RowKit Go.PlainAid
open Go.Proofs.YtpdpgppaoipnlaaDoorW.PrintWords hiding bt
open Go.Proofs.YtpdpgppaoipnlaaDoorW.PrintMore

/-- A world in which a block was written, and nothing else turned. -/
structure Wrote (b : Nat) (w W : World) : Prop where
  os : W.os = w.os
  tape : W.tape = w.tape
  output : W.output = w.output
  size : W.heap.size = w.heap.size
  rest : ∀ k, k ≠ b → W.heap[k]? = w.heap[k]?
theorem Wrote.setRow (w : World) (b : Nat) (cs : Array Value) : Wrote b w (w.setRow b cs) := ⟨rfl, rfl, rfl, by simp [World.setRow], fun k hk => setRow_other _ _ _ _ hk⟩
theorem Wrote.setCell (w : World) (b o : Nat) (v : Value) : Wrote b w (w.setCell ⟨b, o, none⟩ v) := ⟨rfl, rfl, rfl, by simp [World.setCell], fun k hk => Below.heap_setCell _ _ _ _ hk⟩
theorem Wrote.below {B b : Nat} {w0 w W : World} (hw : Wrote b w W) (h : Below B w0 w) (hb : B ≤ b) : Below B w0 W :=
  ⟨hw.os.trans h.os, hw.tape.trans h.tape, hw.output.trans h.output, by rw [hw.size]; exact h.size, fun k hk => (hw.rest k (by omega)).trans (h.block k hk)⟩
theorem Wrote.row {t : TypeId} {b k : Nat} {cs : Array Value} {w W : World} (hw : Wrote b w W) (h : Row t k cs w) (hk : k ≠ b) : Row t k cs W := (hw.rest k hk).trans h
section
variable {ops : Array Oper} {rest : List Oper} {a : Act} {w : World} {Q : Exit → Act → World → Prop} {dst : Option Tmp} {x y : Operand} {ty : TypeId} {pos : String} {after : Array Edge} {b : Nat}
theorem wpl_put {t : TypeId} {n : Nat} (hi : (Tryd.prog.info? t).map (·.size) = some n) {old cs : Array Value} (H : Row t b old w) (ho : old.size = n) (hx : a.eval x = .pointer (some ⟨b, 0, none⟩)) (hy : a.eval y = .agg cs) (hs : cs.size = n) (h1 : cs.all (·.oneCell') = true) (h : ∀ W, Row t b cs W → Wrote b w W → wpList Tryd.prog ops Q rest (a.put dst undef) W) :
    wpList Tryd.prog ops Q ({ dst := dst, op := .store t x y, type := ty, pos := pos, after := after, guard := none } :: rest) a w :=
  wpList_store_row rfl t x y rfl b _ hx hy t _ H (by rw [hs]; exact hi) (by rw [ho, hs]) h1 (h _ H.set (Wrote.setRow _ _ _))
theorem wpl_put_val {old cs : Array Value} (H : Row 26 b old w) (ho : old.size = 4) (hx : a.eval x = .pointer (some ⟨b, 0, none⟩)) (hy : a.eval y = .agg cs) (hs : cs.size = 4) (h1 : cs.all (·.oneCell') = true) (h : ∀ W, Row 26 b cs W → Wrote b w W → wpList Tryd.prog ops Q rest (a.put dst undef) W) :
    wpList Tryd.prog ops Q ({ dst := dst, op := .store 26 x y, type := ty, pos := pos, after := after, guard := none } :: rest) a w := wpl_put info_val H ho hx hy hs h1 h
end
end

end Go.Proofs.YtpdpgppaoipnlaaDoor

