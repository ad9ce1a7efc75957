/- What the claim uses of the text PctS. -/
import Derived.Test.YtngokkebjadoiaaGreatDoorProg
import Derived.Test.YtngokkebjadoiaaGreatDoorVBase
import Derived.WalkKit
import Derived.Deep.WholeRow
import Derived.Deep.LoopGhost
import Derived.Handy
import Derived.Laws.ResultCell
import Derived.Lib.Hide
import Derived.Lib.Builder
set_option linter.unusedVariables false
namespace Go.Proofs.YtngokkebjadoiaaGreatDoor
open Go.RowKit Go.PlainAid

def tab (f : Nat → Bool) : Array Value := ((List.range 256).map fun i => Value.bool (f i)).toArray
theorem tab_size (f : Nat → Bool) : (tab f).size = 256 := by simp [tab]
theorem tab_get (f : Nat → Bool) (i : Nat) (h : i < 256) : (tab f)[i]? = some (.bool (f i)) := by
  simp [tab, h]
theorem tab_set (f : Nat → Bool) (i : Nat) (v : Bool) (h : i < 256) : (tab f).setIfInBounds i (.bool v) = tab fun j => if j = i then v else f j := by
  apply Array.ext_getElem?
  intro j
  by_cases hj : j < 256
  · rw [tab_get _ j hj, Array.getElem?_setIfInBounds]
    by_cases e : i = j
    · subst e; simp [tab_size, h]
    · rw [if_neg e, tab_get _ j hj, if_neg (fun x => e x.symm)]
  · rw [Array.getElem?_eq_none (by rw [Array.size_setIfInBounds, tab_size]; omega), Array.getElem?_eq_none (by rw [tab_size]; omega)]
theorem tab_one (f : Nat → Bool) : (tab f).all (·.oneCell') = true := by
  rw [Array.all_eq_true]
  intro i h
  simp [tab, Value.oneCell']
theorem zero_tab : Tryz.zeroCells67 = tab fun _ => false := by kernel_rfl

/-- A block of the call's own that holds a set of bytes. -/
def SetAt (b : Nat) (f : Nat → Bool) (w : World) : Prop := w.heap[b]? = some (.cells (tab f) 67 (0, 0))
theorem SetAt.cell {b : Nat} {f : Nat → Bool} {w : World} (h : SetAt b f w) (i : Nat) (hi : i < 256) : w.cell? ⟨b, i, none⟩ = some (.bool (f i)) := by
  rw [cell_of_row _ _ i _ _ _ h, tab_get f i hi]
theorem SetAt.lt {b : Nat} {f : Nat → Bool} {w : World} (h : SetAt b f w) : b < w.heap.size := (Array.getElem?_eq_some_iff.1 h).1
theorem SetAt.frozen {b : Nat} {f : Nat → Bool} {w : World} (h : SetAt b f w) (i : Nat) : w.frozen? ⟨b, i, none⟩ = false := Lib.frozen_of_heap h i
theorem SetAt.set {b : Nat} {f : Nat → Bool} {w : World} (h : SetAt b f w) (i : Nat) (hi : i < 256) (v : Bool) : SetAt b (fun j => if j = i then v else f j) (w.setCell ⟨b, i, none⟩ (.bool v)) := by
  unfold SetAt at *
  rw [← tab_set f i v hi]
  simp [World.setCell, Array.getElem?_modify, h]
theorem SetAt.other {b c i : Nat} {f : Nat → Bool} {w : World} (h : SetAt b f w) (hc : c ≠ b) (v : Value) : SetAt b f (w.setCell ⟨c, i, none⟩ v) := by
  unfold SetAt at *
  simp [World.setCell, Array.getElem?_modify, h, hc]

def bin (s : ByteArray) (i : Nat) : Bool := decide ((i : Int) ∈ ints s)
theorem info_set : (Tryz.prog.info? 67).map (·.size) = some 256 := by kernel_rfl
theorem SetAt.row {b c : Nat} {f g : Nat → Bool} {w : World} (h : SetAt b f w) : SetAt b g (w.setRow b (tab g)) := by
  unfold SetAt at *
  simp [World.setRow, Array.getElem?_modify, h]
theorem below_setRow {B b : Nat} {w w' : World} {c : Array Value} (h : Below B w w') (hb : B ≤ b) : Below B w (w'.setRow b c) := by
  refine ⟨h.os, h.tape, h.output, ?_, ?_⟩
  · have := h.size; simpa [World.setRow] using this
  · intro k hk
    have := h.block k hk
    rw [← this]
    simp only [World.setRow]
    rw [Array.getElem?_modify, if_neg (by omega)]
theorem take_mem_succ (s : ByteArray) (i : Nat) (h : i < s.size) (f : Nat → Bool) :
    (fun j => if j = (bt s i).toNat then true else (f j || decide ((j : Int) ∈ (ints s).take i))) = fun j => f j || decide ((j : Int) ∈ (ints s).take (i + 1)) := by
  have h' : i < (ints s).length := by rw [ints_length]; exact h
  have n0 := bt_nonneg s i
  have e : (ints s)[i] = bt s i := by rw [bt_ints, List.getD_eq_getElem?_getD, List.getElem?_eq_getElem h']; rfl
  funext j
  rw [List.take_succ_eq_append_getElem h', e]
  by_cases hj : j = (bt s i).toNat
  · rw [if_pos hj]
    have : (j : Int) = bt s i := by omega
    simp [this]
  · rw [if_neg hj]
    have : ¬ (j : Int) = bt s i := by omega
    simp [this]

theorem wpl_load_set {ops : Array Oper} {rest : List Oper} {a : Act} {w : World} {Q : Exit → Act → World → Prop} {dst : Option Tmp} {x : Operand} {ty : TypeId} {pos : String} {after : Array Edge} {b : Nat} {f : Nat → Bool}
    (H : SetAt b f w) (hx : a.eval x = .pointer (some ⟨b, 0, none⟩)) (h : wpList Tryz.prog ops Q rest (a.put dst (.agg (tab f))) w) :
    wpList Tryz.prog ops Q ({ dst := dst, op := .load 67 x, type := ty, pos := pos, after := after, guard := none } :: rest) a w :=
  wpList_load_row rfl 67 x rfl b hx 67 _ (0, 0) _ H Tryz.underlying67 rfl (by rw [tab_size]; exact info_set) h
theorem wpl_store_set {ops : Array Oper} {rest : List Oper} {a : Act} {w : World} {Q : Exit → Act → World → Prop} {dst : Option Tmp} {x y : Operand} {ty : TypeId} {pos : String} {after : Array Edge} {b : Nat} {f g : Nat → Bool}
    (H : SetAt b f w) (hx : a.eval x = .pointer (some ⟨b, 0, none⟩)) (hy : a.eval y = .agg (tab g)) (h : wpList Tryz.prog ops Q rest (a.put dst undef) (w.setRow b (tab g))) :
    wpList Tryz.prog ops Q ({ dst := dst, op := .store 67 x y, type := ty, pos := pos, after := after, guard := none } :: rest) a w :=
  wpList_store_row rfl 67 x y rfl b (tab g) hx hy 67 _ H (by rw [tab_size]; exact info_set) (by rw [tab_size, tab_size]) (tab_one _) h

set_option maxHeartbeats 1000000 in
set_option maxRecDepth 100000 in
theorem set_with_any (f : Nat → Bool) (s : ByteArray) (w : World) (hs : s.size ≤ 1000000) :
    Calls Tryz.prog 30 #[.agg (tab f), .string s] w fun e w' => e = .returned (.agg (tab fun i => f i || bin s i)) ∧ Below w.heap.size w w' := by
  have hbt := get_bt s
  have HZ : Hid (SetAt w.heap.size f ((w.alloc (Obj.cells (tab f) 67)).alloc (Obj.cells Tryz.zeroCells67 67))) :=
    (Go.heap_alloc_old (w.alloc (Obj.cells (tab f) 67)) (Obj.cells Tryz.zeroCells67 67) (by simp)).trans (Go.heap_alloc_new w _)
  have HZ2 : Hid (SetAt (w.heap.size + 1) (fun _ => false) ((w.alloc (Obj.cells (tab f) 67)).alloc (Obj.cells Tryz.zeroCells67 67))) := by
    show SetAt _ _ _
    unfold SetAt
    rw [← zero_tab, show w.heap.size + 1 = (w.alloc (Obj.cells (tab f) 67)).heap.size by simp]
    exact Go.heap_alloc_new _ _
  go_enter Tryz.func30, Tryz.ntmps30
  go_wp2
  go_loopg [5] s.size (fun k v5 w' => ∃ i : Nat, v5 = .int .i64 i ∧ Hid (i + k = s.size) ∧ Hid (SetAt w.heap.size (fun j => f j || decide ((j : Int) ∈ (ints s).take i)) w') ∧ Hid (SetAt (w.heap.size + 1) (fun _ => false) w') ∧ Hid (Below w.heap.size w w'))
  case atStart => exact ⟨0, rfl, by show _ = _; omega, by show SetAt _ _ _; simpa using HZ.out, HZ2.out, ((Below.refl _ _).alloc (Nat.le_refl _) _).alloc (by simp) _⟩
  case round =>
    obtain ⟨i, rfl, HI, H1, H2, HB⟩ := hrel
    clear HZ HZ2
    by_cases hlt : i < s.size
    · cases gk with
      | zero => have := HI.out; omega
      | succ k1 =>
        have n0 := bt_nonneg s i
        have l0 := bt_le s i
        have hc := H1.out.cell (bt s i).toNat (by omega)
        have hf := H1.out.frozen (bt s i).toNat
        have HI2 : Hid (i + 1 + k1 = s.size) := by have := HI.out; show _ = _; omega
        go_wp2
        go_roundg k1
        case measure => omega
        case rel => exact ⟨i + 1, by go_num, HI2, by rw [← take_mem_succ s i hlt f]; exact H1.out.set _ (by omega) true, H2.out.other (by omega) _, HB.out.setCell (Nat.le_refl _) _⟩
    · have HE : Hid ((fun j => f j || decide ((j : Int) ∈ (ints s).take i)) = fun j => f j || bin s j) := by
        show _ = _
        funext j
        unfold bin
        rw [List.take_of_length_le (by rw [ints_length]; omega)]
      rw [HE.out] at H1
      have h2 : SetAt (w.heap.size + 1) (fun j => f j || bin s j) (wr.setRow (w.heap.size + 1) (tab fun j => f j || bin s j)) := SetAt.row (c := 0) H2.out
      have HR2 := Lib.hid h2
      clear h2
      go_wp2_with (first | ((with_reducible refine wpl_load_set H1.out ?hx ?_); (case hx => rfl)) | ((with_reducible refine wpl_store_set (g := fun j => f j || bin s j) H2.out ?hx ?hy ?_); (case hx => rfl); (case hy => rfl)))
      (try simp only [Exit.inBlock, Exit.then])
      refine bodyPost_ret (v := .agg (tab fun j => f j || bin s j)) ?_ rfl ⟨rfl, below_setRow HB.out (by omega)⟩
      exact results_cell_row rfl _ _ _ _ _ _ _ rfl HR2.out Tryz.underlying67 rfl (by rw [tab_size]; exact info_set)
end Go.Proofs.YtngokkebjadoiaaGreatDoor

