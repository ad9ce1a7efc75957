/- What the claim uses of the text G1. -/
import Derived.Test.YtngokkebjadoiaaGreatDoorProg
import Derived.Test.YtngokkebjadoiaaGreatDoorVWWords
import Derived.Test.YtngokkebjadoiaaGreatDoorVPAllx0
import Derived.Test.YtngokkebjadoiaaGreatDoorVBase
import Derived.Test.YtngokkebjadoiaaGreatDoorVBuild
import Derived.Test.YtngokkebjadoiaaGreatDoorVPctS
import Derived.WalkKit
import Derived.WalkSpells
import Derived.WalkLawsBesides
import Derived.Handy
import Derived.PlainAid
import Derived.Lib.Hide
import Derived.Lib.Builder
import Derived.Deep.RegionWith
import Derived.Deep.QuietTactic
import Derived.BigQuiet
import Derived.Deep.DeepMust
import Derived.Maps.AppendAt
import Derived.Deep.DeepCutAuto
import Derived.Deep.CutBlock
import Derived.Laws.BitsLemmas
import Derived.Deep.WholeRow
import Derived.Deep.MidRow
import Derived.StillTailTactics
set_option linter.unusedVariables false
set_option linter.unusedSimpArgs false
namespace Go.Proofs.YtngokkebjadoiaaGreatDoor
open Go.RowKit Go.PlainAid
open Go.Proofs.YtngokkebjadoiaaGreatDoorW.PrintWords hiding bt
open Go.Proofs.YtngokkebjadoiaaGreatDoorW.PrintMore
open Go.Proofs.YtngokkebjadoiaaGreatDoor.PAll

theorem cell_below {w w1 : World} (h : Below w.heap.size w w1) {a : Addr} {v : Value} (hc : w.cell? a = some v) : w1.cell? a = some v := (h.cell (World.block_lt_of_cell? w a hc)).trans hc
theorem setRow_other (w : World) (g : Nat) (ds : Array Value) (k : Nat) (h : k ≠ g) : (w.setRow g ds).heap[k]? = w.heap[k]? := by
  simp only [World.setRow]
  rw [Array.getElem?_modify, if_neg (fun e => h e.symm)]
/-- A block of cells. -/
def Row (t : TypeId) (b : Nat) (cs : Array Value) (w : World) : Prop := w.heap[b]? = some (.cells cs t (0, 0))
section
variable {t : TypeId} {b : Nat} {cs : Array Value} {w w' : World}
theorem Row.lt (h : Row t b cs w) : b < w.heap.size := (Array.getElem?_eq_some_iff.1 h).1
end
section
variable {t : TypeId} {b : Nat} {cs : Array Value} {w w' : World}
theorem Row.new (w : World) (t : TypeId) (cs : Array Value) {n : Nat} (h : n = w.heap.size) : Row t n cs (w.alloc (.cells cs t)) := by subst h; exact Go.heap_alloc_new w _
end
section
variable {t : TypeId} {b : Nat} {cs : Array Value} {w w' : World}
theorem Row.old (h : Row t b cs w) (o : Obj) : Row t b cs (w.alloc o) := (Go.heap_alloc_old _ _ h.lt).trans h
end
section
variable {t : TypeId} {b : Nat} {cs : Array Value} {w w' : World}
theorem Row.kept {row : Option Nat} (h : Row t b cs w) (hg : w.grownBy w' row) (hr : some b ≠ row) : Row t b cs w' := (hg.block b h.lt hr).trans h
end
section
variable {t : TypeId} {b : Nat} {cs : Array Value} {w w' : World}
theorem Row.below (h : Row t b cs w) (hb : Below w.heap.size w w') : Row t b cs w' := (hb.block b h.lt).trans h
end
section
variable {t : TypeId} {b : Nat} {cs : Array Value} {w w' : World}
theorem Row.set (h : Row t b cs w) {ds : Array Value} : Row t b ds (w.setRow b ds) := by
  unfold Row at *
  simp [World.setRow, Array.getElem?_modify, h]
end
section
variable {t : TypeId} {b : Nat} {cs : Array Value} {w w' : World}
theorem Row.other (h : Row t b cs w) {g : Nat} (hg : b ≠ g) (ds : Array Value) : Row t b cs (w.setRow g ds) := (setRow_other _ _ _ _ hg).trans h
end
section
variable {t : TypeId} {b : Nat} {cs : Array Value} {w w' : World}
theorem Row.far (h : Row t b cs w) {c o : Nat} (hc : b ≠ c) (v : Value) : Row t b cs (w.setCell ⟨c, o, none⟩ v) := (Below.heap_setCell _ _ _ _ hc).trans h
end
section
variable {t : TypeId} {b : Nat} {cs : Array Value} {w w' : World}
theorem Row.cell (h : Row t b cs w) (o : Nat) (v : Value) (hv : cs[o]? = some v) : w.cell? ⟨b, o, none⟩ = some v := by rw [Lib.cell_of_heap h]; exact hv
end
section
variable {t : TypeId} {b : Nat} {cs : Array Value} {w w' : World}
theorem Row.frozen (h : Row t b cs w) (o : Nat) : w.frozen? ⟨b, o, none⟩ = false := Lib.frozen_of_heap h o
end
section
variable {t : TypeId} {b : Nat} {cs : Array Value} {w w' : World}
theorem Row.setCell (h : Row t b cs w) (o : Nat) (v : Value) : Row t b (cs.setIfInBounds o v) (w.setCell ⟨b, o, none⟩ v) := by
  unfold Row at *
  simp [World.setCell, Array.getElem?_modify, h]
end
/-- A world in which a block was written, and nothing else turned. -/
structure Wrote (b : Nat) (w W : World) : Prop where
  os : W.os = w.os
  tape : W.tape = w.tape
  output : W.output = w.output
  size : W.heap.size = w.heap.size
  rest : ∀ k, k ≠ b → W.heap[k]? = w.heap[k]?
theorem Wrote.setRow (w : World) (b : Nat) (cs : Array Value) : Wrote b w (w.setRow b cs) := ⟨rfl, rfl, rfl, by simp [World.setRow], fun k hk => setRow_other _ _ _ _ hk⟩
theorem Wrote.setCell (w : World) (b o : Nat) (v : Value) : Wrote b w (w.setCell ⟨b, o, none⟩ v) := ⟨rfl, rfl, rfl, by simp [World.setCell], fun k hk => Below.heap_setCell _ _ _ _ hk⟩
theorem Wrote.below {B b : Nat} {w0 w W : World} (hw : Wrote b w W) (h : Below B w0 w) (hb : B ≤ b) : Below B w0 W :=
  ⟨hw.os.trans h.os, hw.tape.trans h.tape, hw.output.trans h.output, by rw [hw.size]; exact h.size, fun k hk => (hw.rest k (by omega)).trans (h.block k hk)⟩
theorem Wrote.row {t : TypeId} {b k : Nat} {cs : Array Value} {w W : World} (hw : Wrote b w W) (h : Row t k cs w) (hk : k ≠ b) : Row t k cs W := (hw.rest k hk).trans h
section
variable {ops : Array Oper} {rest : List Oper} {a : Act} {w : World} {Q : Exit → Act → World → Prop} {dst : Option Tmp} {x y : Operand} {ty : TypeId} {pos : String} {after : Array Edge} {b : Nat}
theorem wpl_put {t : TypeId} {n : Nat} (hi : (Tryz.prog.info? t).map (·.size) = some n) {old cs : Array Value} (H : Row t b old w) (ho : old.size = n) (hx : a.eval x = .pointer (some ⟨b, 0, none⟩)) (hy : a.eval y = .agg cs) (hs : cs.size = n) (h1 : cs.all (·.oneCell') = true) (h : ∀ W, Row t b cs W → Wrote b w W → wpList Tryz.prog ops Q rest (a.put dst undef) W) :
    wpList Tryz.prog ops Q ({ dst := dst, op := .store t x y, type := ty, pos := pos, after := after, guard := none } :: rest) a w :=
  wpList_store_row rfl t x y rfl b _ hx hy t _ H (by rw [hs]; exact hi) (by rw [ho, hs]) h1 (h _ H.set (Wrote.setRow _ _ _))
end
theorem grown_drewN (w : World) (n : Nat) (row : Option Nat) : w.grownBy (w.drewN n) row := ⟨rfl, rfl, rfl, Nat.le_refl _, fun _ _ _ => rfl⟩
theorem cell_lt {w : World} {p : Addr} {v : Value} (h : w.cell? p = some v) : p.block < w.heap.size := by
  rcases Nat.lt_or_ge p.block w.heap.size with h' | h'
  · exact h'
  · simp [World.cell?, Array.getElem?_eq_none h'] at h
theorem byteCells_nums (bs : List Int) (h : ∀ x ∈ bs, 0 ≤ x ∧ x ≤ 255) : Lib.byteCells (bs.map fun n => UInt8.ofNat n.toNat) = bs.map (Value.int .u8) := by
  unfold Lib.byteCells
  rw [List.map_map]
  apply List.map_congr_left
  intro x hx
  have := h x hx
  simp
  omega
theorem build_text {b : Nat} {bs : List Int} {w0 w : World} (h : ∀ x ∈ bs, 0 ≤ x ∧ x ≤ 255) (hb : Lib.IsBuilder 73 5 w0.heap.size b (bs.map (Value.int .u8)) w) (hw : Below w0.heap.size w0 w) :
    Calls Tryz.prog 32 #[.pointer (some ⟨b, 0, none⟩)] w fun e w' => e = .returned (.string (strOfNums bs)) ∧ Below w0.heap.size w0 w' := by
  refine (Builder_String_any w0.heap.size b (bs.map fun n => UInt8.ofNat n.toNat) w (by rw [byteCells_nums bs h]; exact hb) hw.size).mono ?_
  rintro e w' ⟨rfl, h2⟩
  exact ⟨rfl, hw.trans h2⟩
/-- A builder of the call's own holds these bytes. -/
def Bld (B b : Nat) (bs : List Int) (w : World) : Prop := (∀ x ∈ bs, 0 ≤ x ∧ x ≤ 255) ∧ Lib.IsBuilder 73 5 B b (bs.map (Value.int .u8)) w
theorem Bld.write {b : Nat} {bs : List Int} {w0 w : World} (h : Bld w0.heap.size b bs w) (c : Int) (h0 : 0 ≤ c) (h1 : c ≤ 255) (hl : (bs.length : Int) ≤ 1000000000) (hb : Below w0.heap.size w0 w) :
    Calls Tryz.prog 31 #[.pointer (some ⟨b, 0, none⟩), .int .u8 c] w fun e w' => e = .returned .nilIface ∧ Hid (Bld w0.heap.size b (bs ++ [c]) w') ∧ Hid (Below w0.heap.size w0 w') := by
  refine (Builder_WriteByte w0.heap.size b (bs.map (Value.int .u8)) c w h.2 (by simp; omega) hb.size).mono ?_
  rintro e w' ⟨rfl, hat, hb2⟩
  refine ⟨rfl, ⟨?_, ?_⟩, hb.trans hb2⟩
  · intro x hx
    rcases List.mem_append.1 hx with hx | hx
    · exact h.1 x hx
    · rw [List.mem_singleton.1 hx]; exact ⟨h0, h1⟩
  · rw [List.map_append]; exact .inr hat
theorem Bld.drewN {B b : Nat} {bs : List Int} {w : World} (h : Bld B b bs w) (n : Nat) : Bld B b bs (w.drewN n) := h
theorem Bld.text {b : Nat} {bs : List Int} {w0 w : World} (h : Bld w0.heap.size b bs w) (hb : Below w0.heap.size w0 w) :
    Calls Tryz.prog 32 #[.pointer (some ⟨b, 0, none⟩)] w fun e w' => e = .returned (.string (strOfNums bs)) ∧ Hid (Below w0.heap.size w0 w') := build_text h.1 h.2 hb
/-- Every row of cells that is neither a builder nor bytes is as it was. -/
def Keeps (w w' : World) : Prop := w.heap.size ≤ w'.heap.size ∧ ∀ (k : Nat) (cs : Array Value) (t : TypeId) (fr : Nat × Nat), w.heap[k]? = some (Obj.cells cs t fr) → t ≠ 73 → t ≠ 5 → w'.heap[k]? = some (Obj.cells cs t fr)
theorem Keeps.refl (w : World) : Keeps w w := ⟨Nat.le_refl _, fun _ _ _ _ h _ _ => h⟩
theorem Keeps.trans {a b c : World} (h : Keeps a b) (g : Keeps b c) : Keeps a c := ⟨Nat.le_trans h.1 g.1, fun k cs t fr e h1 h2 => g.2 k cs t fr (h.2 k cs t fr e h1 h2) h1 h2⟩
theorem Keeps.alloc (w : World) (o : Obj) : Keeps w (w.alloc o) := ⟨by show _ ≤ (w.heap.push o).size; rw [Array.size_push]; omega, fun k cs t fr e _ _ => (Go.heap_alloc_old _ _ (Array.getElem?_eq_some_iff.1 e).1).trans e⟩
theorem Keeps.drew (w : World) : Keeps w w.drew := ⟨Nat.le_refl _, fun _ _ _ _ h _ _ => h⟩
theorem Keeps.set {w : World} {b o : Nat} {ds : Array Value} {fr' : Nat × Nat} (h : w.heap[b]? = some (Obj.cells ds 73 fr')) (v : Value) : Keeps w (w.setCell ⟨b, o, none⟩ v) :=
  ⟨by simp [World.setCell], fun k cs t fr e h1 _ => (Below.heap_setCell _ _ _ _ (fun hk => by simp at hk; subst hk; rw [h] at e; injection e with e; injection e with e; exact h1 (by simp_all))).trans e⟩
theorem Keeps.grown {w w' : World} {v : Value} {B n : Nat} {xs : List Value} (hg : w.grownBy w' v.ownBlock) (ho : w.ownsRow B 5 1 v n xs) : Keeps w w' :=
  ⟨hg.size, fun k cs t fr e _ h2 => (hg.block k (Array.getElem?_eq_some_iff.1 e).1 (fun hk => Lib.ownBlock_ne ho e h2 hk.symm)).trans e⟩
theorem Builder_copyCheck_k (B b : Nat) (bs : List Value) (w : World) (h : Lib.IsBuilder 73 5 B b bs w) :
    Calls Tryz.prog 47 #[.pointer (some ⟨b, 0, none⟩)] w fun e w' => e = .returned (.tuple #[]) ∧ (Lib.BuilderAt 73 5 B b (.pointer (some ⟨b, 0, none⟩)) bs w' ∧ Below B w w') ∧ Keeps w w' := by
  rcases h with h | h
  · refine (Builder_copyCheck_fresh b w h.cell0 h.shape h.frozen0).mono ?_
    rintro e w' ⟨rfl, rfl⟩
    refine ⟨rfl, ⟨h.used _, (Below.refl B w).setCell (p := ⟨b, 0, none⟩) h.1 _⟩, ?_⟩
    obtain ⟨_, v, hb, _⟩ := h
    exact Keeps.set hb _
  · refine (Builder_copyCheck_used b w h.cell0).mono ?_
    rintro e w' ⟨rfl, rfl⟩
    exact ⟨rfl, ⟨h, Below.refl B _⟩, Keeps.refl _⟩
set_option maxHeartbeats 2000000 in
set_option maxRecDepth 100000 in
theorem Builder_WriteByte_k (B b : Nat) (bs : List Value) (c : Int) (w : World) (h : Lib.IsBuilder 73 5 B b bs w) (hlen : bs.length + 1 ≤ 140737488355328) (hBw : B ≤ w.heap.size) :
    Calls Tryz.prog 31 #[.pointer (some ⟨b, 0, none⟩), .int .u8 c] w fun e w' => e = .returned .nilIface ∧ (Lib.BuilderAt 73 5 B b (.pointer (some ⟨b, 0, none⟩)) (bs ++ [.int .u8 c]) w' ∧ Below B w w') ∧ Keeps w w' := by
  obtain ⟨i0, hi, hz0, hz1, hz2⟩ := info_parts build_infoByte
  go_enter Tryz.func31, Tryz.ntmps31
  go_wp2_with (go_at_call 47; refine (Builder_copyCheck_k B b bs _ h).mono ?_)
  rintro e w1 ⟨rfl, ⟨h1, hb1⟩, hk1⟩
  obtain ⟨hB, v, hbk, hown, hne⟩ := h1
  have c0 : w1.cell? ⟨b, 0, none⟩ = some (.pointer (some ⟨b, 0, none⟩)) := by rw [Lib.cell_of_heap hbk]; rfl
  have c1 : w1.cell? ⟨b, 1, none⟩ = some v := by rw [Lib.cell_of_heap hbk]; rfl
  go_wp2_with (at_builtin; refine wpList_append_own _ rfl _ _ 71 rfl B 5 i0 (.int .u8 0) 1 1 Tryz.underlying71 hi hz0 hz1 hz2 rfl (by decide) _ _ _ rfl (hown.alloc _) ⟨w1.heap.size, 0, none⟩ 1 1 [.int .u8 c] rfl rfl ?c1 ?c2 ?c3 ?c4 ?c5 ?_)
  case c1 =>
    intro j u hj
    match j, hj with
    | 0, hj => simp at hj; subst hj; simp [Addr.add]
  case c2 => intro u hu; simp at hu; subst hu; rfl
  case c3 => unfold maxLen; omega
  case c4 => omega
  case c5 => have := hb1.size; simp; omega
  intro v' w2 hown' hgrow _
  have hlt : b < w1.heap.size := by
    rcases Nat.lt_or_ge b w1.heap.size with h' | h'
    · exact h'
    · simp [Array.getElem?_eq_none h'] at hbk
  have hb2 : w2.heap[b]? = some (.cells #[.pointer (some ⟨b, 0, none⟩), v] 73 (0, 0)) := by
    rw [hgrow.block b (by simp; omega) (fun e => hne e.symm), Lib.alloc_old w1 _ b hlt]
    exact hbk
  have d0 : w2.cell? ⟨b, 0, none⟩ = some (.pointer (some ⟨b, 0, none⟩)) := by rw [Lib.cell_of_heap hb2]; rfl
  have d1 : w2.cell? ⟨b, 1, none⟩ = some v := by rw [Lib.cell_of_heap hb2]; rfl
  have f1 : w2.frozen? ⟨b, 1, none⟩ = false := Lib.frozen_of_heap hb2 1
  obtain ⟨g, cap, rfl⟩ : ∃ g cap, v' = .slice (some ⟨g, 0, none⟩) (bs.length + 1) cap := by
    rcases hown'.2 with ⟨_, h0⟩ | ⟨g, cap, cur, hv, _⟩
    · omega
    · exact ⟨g, cap, hv⟩
  go_wp2
  go_ret
  refine ⟨rfl, ⟨?_, ?_⟩, ?_⟩
  · exact Lib.BuilderAt.put (T := 73) (e := 5) hB hb2 (bs' := bs ++ [.int .u8 c]) (by simpa using hown') build_neB5
  · exact ((hb1.alloc (by have := hb1.size; omega) _).grown hgrow (by have := hb1.size; simp; omega) (fun k hk => (hown.lt k hk).1)).setCell (p := ⟨b, 1, none⟩) hB _
  · exact (hk1.trans (Keeps.alloc _ _)).trans ((Keeps.grown hgrow (hown.alloc _)).trans (Keeps.set hb2 _))
set_option maxHeartbeats 2000000 in
set_option maxRecDepth 100000 in
theorem Builder_WriteString_k (B b : Nat) (bs : List Value) (s : ByteArray) (w : World) (h : Lib.IsBuilder 73 5 B b bs w) (hlen : bs.length + s.size ≤ 140737488355328) (hBw : B ≤ w.heap.size) :
    Calls Tryz.prog 36 #[.pointer (some ⟨b, 0, none⟩), .string s] w fun e w' => e = .returned (.tuple #[.int .i64 s.size, .nilIface]) ∧ (Lib.BuilderAt 73 5 B b (.pointer (some ⟨b, 0, none⟩)) (bs ++ Lib.strCells s) w' ∧ Below B w w') ∧ Keeps w w' := by
  obtain ⟨i0, hi, hz0, hz1, hz2⟩ := info_parts build_infoByte
  go_enter Tryz.func36, Tryz.ntmps36
  go_wp2_with (go_at_call 47; refine (Builder_copyCheck_k B b bs _ h).mono ?_)
  rintro e w1 ⟨rfl, ⟨h1, hb1⟩, hk1⟩
  obtain ⟨hB, v, hbk, hown, hne⟩ := h1
  have c0 : w1.cell? ⟨b, 0, none⟩ = some (.pointer (some ⟨b, 0, none⟩)) := by rw [Lib.cell_of_heap hbk]; rfl
  have c1 : w1.cell? ⟨b, 1, none⟩ = some v := by rw [Lib.cell_of_heap hbk]; rfl
  go_wp2_with (at_builtin; refine Lib.wpList_append_own_string _ rfl _ _ 71 9 rfl B 5 i0 Tryz.underlying71 Tryz.underlying9 hi hz0 hz1 hz2 _ _ _ rfl hown s rfl ?c3 ?c4 ?c5 ?_)
  case c3 => unfold maxLen; omega
  case c4 => omega
  case c5 => have := hb1.size; omega
  intro v' w2 hown' hgrow _
  have hlt : b < w1.heap.size := by
    rcases Nat.lt_or_ge b w1.heap.size with h' | h'
    · exact h'
    · simp [Array.getElem?_eq_none h'] at hbk
  have hb2 : w2.heap[b]? = some (.cells #[.pointer (some ⟨b, 0, none⟩), v] 73 (0, 0)) := by
    rw [hgrow.block b hlt (fun e => hne e.symm)]
    exact hbk
  have d0 : w2.cell? ⟨b, 0, none⟩ = some (.pointer (some ⟨b, 0, none⟩)) := by rw [Lib.cell_of_heap hb2]; rfl
  have d1 : w2.cell? ⟨b, 1, none⟩ = some v := by rw [Lib.cell_of_heap hb2]; rfl
  have f1 : w2.frozen? ⟨b, 1, none⟩ = false := Lib.frozen_of_heap hb2 1
  obtain ⟨ao, n', cap, rfl⟩ : ∃ ao n' cap, v' = .slice ao n' cap := by
    rcases hown'.2 with ⟨hv, _⟩ | ⟨g, cap, cur, hv, _⟩
    · exact ⟨_, _, _, hv⟩
    · exact ⟨_, _, _, hv⟩
  go_wp2
  go_ret2
  refine ⟨rfl, ⟨?_, ?_⟩, ?_⟩
  · exact Lib.BuilderAt.put (T := 73) (e := 5) hB hb2 (bs' := bs ++ Lib.strCells s) (by simpa [Lib.strCells_length] using hown') build_neB5
  · exact (hb1.grown hgrow (by have := hb1.size; omega) (fun k hk => (hown.lt k hk).1)).setCell (p := ⟨b, 1, none⟩) hB _
  · exact hk1.trans ((Keeps.grown hgrow hown).trans (Keeps.set hb2 _))
theorem strCells_ints (s : ByteArray) : Lib.strCells s = (ints s).map (Value.int .u8) := by
  unfold Lib.strCells ints
  rw [List.map_map]
  rfl
/-- A builder's state, and what is kept since w. -/
theorem Bld.putB {b : Nat} {bs : List Int} {w0 w : World} (h : Bld w0.heap.size b bs w) (c : Int) (h0 : 0 ≤ c) (h1 : c ≤ 255) (hl : (bs.length : Int) ≤ 1000000000) (hb : Below w0.heap.size w0 w) :
    Calls Tryz.prog 31 #[.pointer (some ⟨b, 0, none⟩), .int .u8 c] w fun e w' => e = .returned .nilIface ∧ Hid (Bld w0.heap.size b (bs ++ [c]) w') ∧ Hid (Below w0.heap.size w0 w') ∧ Hid (Keeps w w') := by
  refine (Builder_WriteByte_k w0.heap.size b (bs.map (Value.int .u8)) c w h.2 (by rw [List.length_map]; omega) hb.size).mono ?_
  rintro e w' ⟨rfl, ⟨h3, h2⟩, h4⟩
  refine ⟨rfl, ⟨?_, ?_⟩, hb.trans h2, h4⟩
  · intro x hx
    rcases List.mem_append.1 hx with hx | hx
    · exact h.1 x hx
    · rw [List.mem_singleton] at hx; omega
  · rw [List.map_append]
    exact .inr h3
theorem Bld.putS {b : Nat} {bs : List Int} {w0 w : World} (h : Bld w0.heap.size b bs w) (s : ByteArray) (l : List Int) (hsl : ints s = l) (hs : s.size ≤ 100000000) (hl : (bs.length : Int) ≤ 1000000000) (hb : Below w0.heap.size w0 w) :
    Calls Tryz.prog 36 #[.pointer (some ⟨b, 0, none⟩), .string s] w fun e w' => e = .returned (.tuple #[.int .i64 s.size, .nilIface]) ∧ Hid (Bld w0.heap.size b (bs ++ l) w') ∧ Hid (Below w0.heap.size w0 w') ∧ Hid (Keeps w w') := by
  subst hsl
  refine (Builder_WriteString_k w0.heap.size b (bs.map (Value.int .u8)) s w h.2 (by rw [List.length_map]; omega) hb.size).mono ?_
  rintro e w' ⟨rfl, ⟨h1, h2⟩, h4⟩
  refine ⟨rfl, ⟨?_, ?_⟩, hb.trans h2, h4⟩
  · intro x hx
    rcases List.mem_append.1 hx with hx | hx
    · exact h.1 x hx
    · exact ints_range s x hx
  · rw [List.map_append, ← strCells_ints]
    exact .inr h1
theorem Bld.alloc {B b : Nat} {bs : List Int} {w : World} (h : Bld B b bs w) (o : Obj) : Bld B b bs (w.alloc o) := by
  have ha : ∀ p cs, Lib.BuilderAt 73 5 B b p cs w → Lib.BuilderAt 73 5 B b p cs (w.alloc o) := by
    intro p cs g
    have hlt := g.lt
    obtain ⟨h1, v, h2, h3, h4⟩ := g
    exact ⟨h1, v, (Go.heap_alloc_old _ _ hlt).trans h2, h3.alloc _, h4⟩
  exact ⟨h.1, h.2.imp (ha _ _) (ha _ _)⟩
theorem Keeps.row {t : TypeId} {c : Nat} {cs : Array Value} {w w' : World} (h : Row t c cs w) (hk : Keeps w w') (h1 : t ≠ 73) (h2 : t ≠ 5) : Row t c cs w' := hk.2 _ _ _ _ h h1 h2
theorem tl_false {a b : ByteArray} (h : ¬ a = b) : (a.toList == b.toList) = false := by
  rw [beq_eq_false_iff_ne]
  intro e
  apply h
  cases a; cases b
  simpa [ByteArray.toList_eq, Array.toList_inj] using e
theorem nums_append' (bs cs : List Int) : strOfNums bs ++ strOfNums cs = strOfNums (bs ++ cs) := by
  apply ints_inj
  rw [ints_append]
  unfold ints
  rw [strOfNums_data, strOfNums_data, strOfNums_data, List.map_append, List.map_append]
end Go.Proofs.YtngokkebjadoiaaGreatDoor

