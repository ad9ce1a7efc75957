/- What the claim uses of the text G1. -/
import Derived.Test.YtangheahliekeaaGreatDoorProg
import Derived.Test.YtangheahliekeaaGreatDoorVWWords
import Derived.Test.YtangheahliekeaaGreatDoorVPAllx0
import Derived.Test.YtangheahliekeaaGreatDoorVBase
import Derived.Test.YtangheahliekeaaGreatDoorVBuild
import Derived.Test.YtangheahliekeaaGreatDoorVPctS
import Derived.WalkKit
import Derived.WalkSpells
import Derived.WalkLawsBesides
import Derived.Handy
import Derived.PlainAid
import Derived.Lib.Hide
import Derived.Lib.Builder
import Derived.Deep.RegionWith
import Derived.Deep.QuietTactic
import Derived.BigQuiet
import Derived.Deep.DeepMust
import Derived.Maps.AppendAt
import Derived.Deep.DeepCutAuto
import Derived.Deep.CutBlock
import Derived.Laws.BitsLemmas
import Derived.Deep.WholeRow
import Derived.Deep.MidRow
import Derived.StillTailTactics
set_option linter.unusedVariables false
set_option linter.unusedSimpArgs false
namespace Go.Proofs.YtangheahliekeaaGreatDoor
open Go.RowKit Go.PlainAid
open Go.Proofs.YtangheahliekeaaGreatDoorW.PrintWords hiding bt
open Go.Proofs.YtangheahliekeaaGreatDoorW.PrintMore
open Go.Proofs.YtangheahliekeaaGreatDoor.PAll

theorem cell_below {w w1 : World} (h : Below w.heap.size w w1) {a : Addr} {v : Value} (hc : w.cell? a = some v) : w1.cell? a = some v := (h.cell (World.block_lt_of_cell? w a hc)).trans hc
theorem below_less {B C : Nat} {w w' : World} (h : Below C w w') (hBC : B ≤ C) : Below B w w' := ⟨h.os, h.tape, h.output, h.size, fun k hk => h.block k (by omega)⟩
theorem setRow_other (w : World) (g : Nat) (ds : Array Value) (k : Nat) (h : k ≠ g) : (w.setRow g ds).heap[k]? = w.heap[k]? := by
  simp only [World.setRow]
  rw [Array.getElem?_modify, if_neg (fun e => h e.symm)]
/-- A block of cells. -/
def Row (t : TypeId) (b : Nat) (cs : Array Value) (w : World) : Prop := w.heap[b]? = some (.cells cs t (0, 0))
section
variable {t : TypeId} {b : Nat} {cs : Array Value} {w w' : World}
theorem Row.lt (h : Row t b cs w) : b < w.heap.size := (Array.getElem?_eq_some_iff.1 h).1
end
section
variable {t : TypeId} {b : Nat} {cs : Array Value} {w w' : World}
theorem Row.new (w : World) (t : TypeId) (cs : Array Value) {n : Nat} (h : n = w.heap.size) : Row t n cs (w.alloc (.cells cs t)) := by subst h; exact Go.heap_alloc_new w _
end
section
variable {t : TypeId} {b : Nat} {cs : Array Value} {w w' : World}
theorem Row.old (h : Row t b cs w) (o : Obj) : Row t b cs (w.alloc o) := (Go.heap_alloc_old _ _ h.lt).trans h
end
section
variable {t : TypeId} {b : Nat} {cs : Array Value} {w w' : World}
theorem Row.kept {row : Option Nat} (h : Row t b cs w) (hg : w.grownBy w' row) (hr : some b ≠ row) : Row t b cs w' := (hg.block b h.lt hr).trans h
end
section
variable {t : TypeId} {b : Nat} {cs : Array Value} {w w' : World}
theorem Row.below (h : Row t b cs w) (hb : Below w.heap.size w w') : Row t b cs w' := (hb.block b h.lt).trans h
end
section
variable {t : TypeId} {b : Nat} {cs : Array Value} {w w' : World}
theorem Row.set (h : Row t b cs w) {ds : Array Value} : Row t b ds (w.setRow b ds) := by
  unfold Row at *
  simp [World.setRow, Array.getElem?_modify, h]
end
section
variable {t : TypeId} {b : Nat} {cs : Array Value} {w w' : World}
theorem Row.other (h : Row t b cs w) {g : Nat} (hg : b ≠ g) (ds : Array Value) : Row t b cs (w.setRow g ds) := (setRow_other _ _ _ _ hg).trans h
end
section
variable {t : TypeId} {b : Nat} {cs : Array Value} {w w' : World}
theorem Row.far (h : Row t b cs w) {c o : Nat} (hc : b ≠ c) (v : Value) : Row t b cs (w.setCell ⟨c, o, none⟩ v) := (Below.heap_setCell _ _ _ _ hc).trans h
end
section
variable {t : TypeId} {b : Nat} {cs : Array Value} {w w' : World}
theorem Row.cell (h : Row t b cs w) (o : Nat) (v : Value) (hv : cs[o]? = some v) : w.cell? ⟨b, o, none⟩ = some v := by rw [Lib.cell_of_heap h]; exact hv
end
section
variable {t : TypeId} {b : Nat} {cs : Array Value} {w w' : World}
theorem Row.frozen (h : Row t b cs w) (o : Nat) : w.frozen? ⟨b, o, none⟩ = false := Lib.frozen_of_heap h o
end
section
variable {t : TypeId} {b : Nat} {cs : Array Value} {w w' : World}
theorem Row.setCell (h : Row t b cs w) (o : Nat) (v : Value) : Row t b (cs.setIfInBounds o v) (w.setCell ⟨b, o, none⟩ v) := by
  unfold Row at *
  simp [World.setCell, Array.getElem?_modify, h]
end
/-- A world in which a block was written, and nothing else turned. -/
structure Wrote (b : Nat) (w W : World) : Prop where
  os : W.os = w.os
  tape : W.tape = w.tape
  output : W.output = w.output
  size : W.heap.size = w.heap.size
  rest : ∀ k, k ≠ b → W.heap[k]? = w.heap[k]?
theorem Wrote.setRow (w : World) (b : Nat) (cs : Array Value) : Wrote b w (w.setRow b cs) := ⟨rfl, rfl, rfl, by simp [World.setRow], fun k hk => setRow_other _ _ _ _ hk⟩
theorem Wrote.setCell (w : World) (b o : Nat) (v : Value) : Wrote b w (w.setCell ⟨b, o, none⟩ v) := ⟨rfl, rfl, rfl, by simp [World.setCell], fun k hk => Below.heap_setCell _ _ _ _ hk⟩
theorem Wrote.below {B b : Nat} {w0 w W : World} (hw : Wrote b w W) (h : Below B w0 w) (hb : B ≤ b) : Below B w0 W :=
  ⟨hw.os.trans h.os, hw.tape.trans h.tape, hw.output.trans h.output, by rw [hw.size]; exact h.size, fun k hk => (hw.rest k (by omega)).trans (h.block k hk)⟩
theorem Wrote.row {t : TypeId} {b k : Nat} {cs : Array Value} {w W : World} (hw : Wrote b w W) (h : Row t k cs w) (hk : k ≠ b) : Row t k cs W := (hw.rest k hk).trans h
section
variable {ops : Array Oper} {rest : List Oper} {a : Act} {w : World} {Q : Exit → Act → World → Prop} {dst : Option Tmp} {x y : Operand} {ty : TypeId} {pos : String} {after : Array Edge} {b : Nat}
theorem wpl_put {t : TypeId} {n : Nat} (hi : (Tryz.prog.info? t).map (·.size) = some n) {old cs : Array Value} (H : Row t b old w) (ho : old.size = n) (hx : a.eval x = .pointer (some ⟨b, 0, none⟩)) (hy : a.eval y = .agg cs) (hs : cs.size = n) (h1 : cs.all (·.oneCell') = true) (h : ∀ W, Row t b cs W → Wrote b w W → wpList Tryz.prog ops Q rest (a.put dst undef) W) :
    wpList Tryz.prog ops Q ({ dst := dst, op := .store t x y, type := ty, pos := pos, after := after, guard := none } :: rest) a w :=
  wpList_store_row rfl t x y rfl b _ hx hy t _ H (by rw [hs]; exact hi) (by rw [ho, hs]) h1 (h _ H.set (Wrote.setRow _ _ _))
end
theorem cell_lt {w : World} {p : Addr} {v : Value} (h : w.cell? p = some v) : p.block < w.heap.size := by
  rcases Nat.lt_or_ge p.block w.heap.size with h' | h'
  · exact h'
  · simp [World.cell?, Array.getElem?_eq_none h'] at h
theorem cell_under {B : World} {w' : World} {p : Addr} {v : Value} (hb : Below B.heap.size B w') (h : B.cell? p = some v) : w'.cell? p = some v := (hb.cell (cell_lt h)).trans h
theorem byteCells_nums (bs : List Int) (h : ∀ x ∈ bs, 0 ≤ x ∧ x ≤ 255) : Lib.byteCells (bs.map fun n => UInt8.ofNat n.toNat) = bs.map (Value.int .u8) := by
  unfold Lib.byteCells
  rw [List.map_map]
  apply List.map_congr_left
  intro x hx
  have := h x hx
  simp
  omega
theorem build_text {b : Nat} {bs : List Int} {w0 w : World} (h : ∀ x ∈ bs, 0 ≤ x ∧ x ≤ 255) (hb : Lib.IsBuilder 170 5 w0.heap.size b (bs.map (Value.int .u8)) w) (hw : Below w0.heap.size w0 w) :
    Calls Tryz.prog 88 #[.pointer (some ⟨b, 0, none⟩)] w fun e w' => e = .returned (.string (strOfNums bs)) ∧ Below w0.heap.size w0 w' := by
  refine (Builder_String_any w0.heap.size b (bs.map fun n => UInt8.ofNat n.toNat) w (by rw [byteCells_nums bs h]; exact hb) hw.size).mono ?_
  rintro e w' ⟨rfl, h2⟩
  exact ⟨rfl, hw.trans h2⟩
/-- A builder of the call's own holds these bytes. -/
def Bld (B b : Nat) (bs : List Int) (w : World) : Prop := (∀ x ∈ bs, 0 ≤ x ∧ x ≤ 255) ∧ Lib.IsBuilder 170 5 B b (bs.map (Value.int .u8)) w
theorem Bld.drewN {B b : Nat} {bs : List Int} {w : World} (h : Bld B b bs w) (n : Nat) : Bld B b bs (w.drewN n) := h
theorem Bld.text {b : Nat} {bs : List Int} {w0 w : World} (h : Bld w0.heap.size b bs w) (hb : Below w0.heap.size w0 w) :
    Calls Tryz.prog 88 #[.pointer (some ⟨b, 0, none⟩)] w fun e w' => e = .returned (.string (strOfNums bs)) ∧ Hid (Below w0.heap.size w0 w') := build_text h.1 h.2 hb
/-- Every row of cells that is neither a builder nor bytes is as it was. -/
def Keeps (w w' : World) : Prop := w.heap.size ≤ w'.heap.size ∧ ∀ (k : Nat) (cs : Array Value) (t : TypeId) (fr : Nat × Nat), w.heap[k]? = some (Obj.cells cs t fr) → t ≠ 170 → t ≠ 5 → w'.heap[k]? = some (Obj.cells cs t fr)
theorem Keeps.refl (w : World) : Keeps w w := ⟨Nat.le_refl _, fun _ _ _ _ h _ _ => h⟩
theorem Keeps.trans {a b c : World} (h : Keeps a b) (g : Keeps b c) : Keeps a c := ⟨Nat.le_trans h.1 g.1, fun k cs t fr e h1 h2 => g.2 k cs t fr (h.2 k cs t fr e h1 h2) h1 h2⟩
theorem Keeps.alloc (w : World) (o : Obj) : Keeps w (w.alloc o) := ⟨by show _ ≤ (w.heap.push o).size; rw [Array.size_push]; omega, fun k cs t fr e _ _ => (Go.heap_alloc_old _ _ (Array.getElem?_eq_some_iff.1 e).1).trans e⟩
theorem Keeps.drew (w : World) : Keeps w w.drew := ⟨Nat.le_refl _, fun _ _ _ _ h _ _ => h⟩
theorem Keeps.set {w : World} {b o : Nat} {ds : Array Value} {fr' : Nat × Nat} (h : w.heap[b]? = some (Obj.cells ds 170 fr')) (v : Value) : Keeps w (w.setCell ⟨b, o, none⟩ v) :=
  ⟨by simp [World.setCell], fun k cs t fr e h1 _ => (Below.heap_setCell _ _ _ _ (fun hk => by simp at hk; subst hk; rw [h] at e; injection e with e; injection e with e; exact h1 (by simp_all))).trans e⟩
theorem Keeps.grown {w w' : World} {v : Value} {B n : Nat} {xs : List Value} (hg : w.grownBy w' v.ownBlock) (ho : w.ownsRow B 5 1 v n xs) : Keeps w w' :=
  ⟨hg.size, fun k cs t fr e _ h2 => (hg.block k (Array.getElem?_eq_some_iff.1 e).1 (fun hk => Lib.ownBlock_ne ho e h2 hk.symm)).trans e⟩
theorem Bld.alloc {B b : Nat} {bs : List Int} {w : World} (h : Bld B b bs w) (o : Obj) : Bld B b bs (w.alloc o) := by
  have ha : ∀ p cs, Lib.BuilderAt 170 5 B b p cs w → Lib.BuilderAt 170 5 B b p cs (w.alloc o) := by
    intro p cs g
    have hlt := g.lt
    obtain ⟨h1, v, h2, h3, h4⟩ := g
    exact ⟨h1, v, (Go.heap_alloc_old _ _ hlt).trans h2, h3.alloc _, h4⟩
  exact ⟨h.1, h.2.imp (ha _ _) (ha _ _)⟩
theorem Keeps.row {t : TypeId} {c : Nat} {cs : Array Value} {w w' : World} (h : Row t c cs w) (hk : Keeps w w') (h1 : t ≠ 170) (h2 : t ≠ 5) : Row t c cs w' := hk.2 _ _ _ _ h h1 h2
theorem tl_true {a b : ByteArray} (h : a = b) : (a.toList == b.toList) = true := by subst h; exact beq_self_eq_true _
theorem tl_false {a b : ByteArray} (h : ¬ a = b) : (a.toList == b.toList) = false := by
  rw [beq_eq_false_iff_ne]
  intro e
  apply h
  cases a; cases b
  simpa [ByteArray.toList_eq, Array.toList_inj] using e
end Go.Proofs.YtangheahliekeaaGreatDoor

