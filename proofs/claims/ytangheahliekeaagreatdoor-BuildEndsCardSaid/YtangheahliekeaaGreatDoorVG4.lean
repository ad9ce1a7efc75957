/- What the claim uses of the text G4. -/
import Derived.Test.YtangheahliekeaaGreatDoorVG3
import Derived.Laws.StructEq
import Derived.Deep.RegionHeld3
set_option linter.unusedVariables false
set_option linter.unusedSimpArgs false
namespace Go.Proofs.YtangheahliekeaaGreatDoor
open Go.RowKit Go.PlainAid
open Go.Proofs.YtangheahliekeaaGreatDoorW.PrintWords hiding bt
open Go.Proofs.YtangheahliekeaaGreatDoorW.PrintMore

set_option maxRecDepth 100000 in
theorem run_equalIn_arr (d : Nat) (f g : Nat → Nat) (w : World) : (Op.equalIn (d + 2) 22 (.agg (arr f)) (.agg (arr g))).run Tryz.prog w = .ok ((List.range 16).all fun i => f i == g i) w := by
  have hsz : ∀ w, (sizeOf 5).run Tryz.prog w = .ok 1 w := fun w => by kernel_rfl
  rw [List.range_eq_range', Op.equalIn]
  simp only [Sem.run_bind, run_underlying Tryz.underlying22, Result.andThen_ok, hsz, Std.Legacy.Range.forIn_eq_forIn_range', Std.Legacy.Range.size, Nat.sub_zero, Nat.add_sub_cancel, Nat.div_one]
  have hl : ∀ i ∈ List.range' 0 16 1, i < 16 := fun i hi => by simpa using (List.mem_range'_1.1 hi).2
  generalize List.range' 0 16 1 = l at hl ⊢
  induction l with
  | nil => simp
  | cons i l ih =>
    have hi : i < 16 := hl i (by simp)
    have px : (part 5 (arr f) (i * 1)).run Tryz.prog w = .ok (.int .u8 (f i)) w := by
      simp [part, isAgg, run_underlying Tryz.underlying5, arr_get f i hi]
    have py : (part 5 (arr g) (i * 1)).run Tryz.prog w = .ok (.int .u8 (g i)) w := by
      simp [part, isAgg, run_underlying Tryz.underlying5, arr_get g i hi]
    have pe : (Op.equalIn (d + 1) 5 (.int .u8 (f i)) (.int .u8 (g i))).run Tryz.prog w = .ok (f i == g i) w := by
      rw [run_equalIn_int w d 5 .u8 .u8 _ _ Tryz.underlying5]
      congr 1
      rw [Bool.eq_iff_iff]
      simp
      omega
    simp only [List.forIn_cons, Sem.run_bind, px, py, pe, Result.andThen_ok, List.all_cons]
    cases hb : (f i == g i)
    · simp
    · simp only [Bool.not_true, Bool.false_eq_true, if_false, Sem.run_pure, Result.andThen_ok, Bool.true_and]
      exact ih fun j hj => hl j (by simp [hj])
/-- A network. -/
structure PV where
  six : Bool
  addr : Nat → Nat
  bits : Int
def preA (p : PV) : Array Value := (Value.bool p.six :: (((List.range 16).map fun i => Value.int .u8 (p.addr i)) ++ [Value.int .i64 p.bits])).toArray
theorem preA_size (p : PV) : (preA p).size = 18 := by simp [preA]
theorem preA_six (p : PV) : (preA p)[0]? = some (.bool p.six) := by simp [preA]
theorem preA_bits (p : PV) : (preA p)[17]? = some (.int .i64 p.bits) := by simp [preA]
theorem preA_addr (p : PV) (i : Nat) (h : i < 16) : (preA p)[1 + i]? = some (.int .u8 (p.addr i)) := by
  unfold preA
  rw [List.getElem?_toArray, Nat.add_comm, List.getElem?_cons_succ, List.getElem?_append_left (by simpa using h)]
  simp [h]
theorem info_pre : (Tryz.prog.info? 24).map (·.size) = some 18 := by kernel_rfl
/-- A block that holds a network. -/
def PreAt (b : Nat) (p : PV) (w : World) : Prop := Row 24 b (preA p) w
section
variable {b : Nat} {p : PV} {w w' : World}
theorem PreAt.six (h : PreAt b p w) : w.cell? ⟨b, 0, none⟩ = some (.bool p.six) := Row.cell h 0 _ (preA_six p)
theorem PreAt.bits (h : PreAt b p w) : w.cell? ⟨b, 17, none⟩ = some (.int .i64 p.bits) := Row.cell h 17 _ (preA_bits p)
theorem PreAt.byte (h : PreAt b p w) (i : Nat) (hi : i < 16) : w.cell? ⟨b, 1 + i, none⟩ = some (.int .u8 (p.addr i)) := Row.cell h _ _ (preA_addr p i hi)
theorem PreAt.lt (h : PreAt b p w) : b < w.heap.size := Row.lt h
theorem PreAt.below (h : PreAt b p w) (hb : Below w.heap.size w w') : PreAt b p w' := Row.below h hb
theorem PreAt.old (h : PreAt b p w) (o : Obj) : PreAt b p (w.alloc o) := Row.old h o
theorem PreAt.range (h : PreAt b p w) : w.rangeAt b 1 (arr p.addr).toList := fun j v hv => by
  have hj : j < 16 := by
    have := (List.getElem?_eq_some_iff.1 hv).1
    simpa [arr] using this
  rw [Array.getElem?_toList, arr_get p.addr j hj] at hv
  injection hv with hv
  rw [h.byte j hj, hv]
end
section
variable {ops : Array Oper} {rest : List Oper} {a : Act} {w : World} {Q : Exit → Act → World → Prop} {dst : Option Tmp} {x y : Operand} {ty : TypeId} {pos : String} {after : Array Edge} {b : Nat} {p : PV}
theorem wpl_load_pre (H : PreAt b p w) (hx : a.eval x = .pointer (some ⟨b, 0, none⟩)) (h : wpList Tryz.prog ops Q rest (a.put dst (.agg (preA p))) w) :
    wpList Tryz.prog ops Q ({ dst := dst, op := .load 24 x, type := ty, pos := pos, after := after, guard := none } :: rest) a w :=
  wpList_load_row rfl 24 x rfl b hx 24 _ (0, 0) _ H Tryz.underlying24 rfl (by rw [preA_size]; exact info_pre) h
theorem wpl_load_addr (H : PreAt b p w) (hx : a.eval x = .pointer (some ⟨b, 1, none⟩)) (h : wpList Tryz.prog ops Q rest (a.put dst (.agg (arr p.addr))) w) :
    wpList Tryz.prog ops Q ({ dst := dst, op := .load 22 x, type := ty, pos := pos, after := after, guard := none } :: rest) a w :=
  wpList_load_mid rfl 22 x rfl b 1 hx (arr p.addr).toList _ H.range Tryz.underlying22 rfl (by rw [Array.length_toList, arr_size]; exact info_arr) h
end

/-- How many bits an address has. -/
def widthV (p : PV) : Int := if p.six = true then 128 else 32
/-- What is wrong with a network. -/
def sameF (f g : Nat → Nat) : Bool := (List.range 16).all fun i => f i == g i
def ipOk (p : PV) : Bool := decide (0 ≤ p.bits) && (decide (p.bits ≤ widthV p) && sameF (maskF p.addr p.bits) p.addr)

set_option maxHeartbeats 1000000 in
theorem Width_any (p : PV) (w : World) : Calls Tryz.prog 13 #[.agg (preA p)] w fun e w' => e = .returned (.int .i64 (widthV p)) ∧ Hid (Below w.heap.size w w') := by
  have H : Hid (PreAt w.heap.size p (w.alloc (.cells (preA p) 24))) := Row.new w _ _ rfl
  have HB : Hid (Below w.heap.size w (w.alloc (.cells (preA p) 24))) := (Below.refl _ _).alloc (Nat.le_refl _) _
  have c0 := preA_six p
  go_enter Tryz.func13, Tryz.ntmps13
  cases hs : p.six with
  | true =>
    rw [hs] at c0
    have HW : Hid (widthV p = 128) := by show _ = _; unfold widthV; rw [if_pos hs]
    clear hs
    go_wp2_with fail
    go_ret
    exact ⟨by rw [HW.out]; rfl, HB.out⟩
  | false =>
    rw [hs] at c0
    have HW : Hid (widthV p = 32) := by show _ = _; unfold widthV; rw [if_neg (by rw [hs]; simp)]
    clear hs
    go_wp2_with fail
    go_ret
    exact ⟨by rw [HW.out]; rfl, HB.out⟩
/-- The three errors that a query may have. -/
structure Ges (E : Nat → Addr) (w : World) : Prop where
  c4 : w.cell? ⟨1, 0, none⟩ = some (.iface 358 (.pointer (some (E 4))))
  c5 : w.cell? ⟨0, 0, none⟩ = some (.iface 358 (.pointer (some (E 5))))
  c17 : w.cell? ⟨2, 0, none⟩ = some (.iface 358 (.pointer (some (E 17))))
theorem Ges.below {E : Nat → Addr} {w w' : World} (h : Ges E w) (hb : Below w.heap.size w w') : Ges E w' := ⟨cell_below hb h.c4, cell_below hb h.c5, cell_below hb h.c17⟩
/-- nil, or a fault. -/
def NilOr (ok : Bool) (w : World) (e : Ending) (w' : World) : Prop := ((ok = true ∧ e = .returned .nilIface) ∨ (ok = false ∧ ∃ q, e = .returned (.iface 183 (.pointer (some q))))) ∧ Hid (Below w.heap.size w w')

theorem NilOr.bad {w w' : World} {ok : Bool} {q : Addr} (ho : ok = false) (h : Below w.heap.size w w') : NilOr ok w (.returned (.iface 183 (.pointer (some q)))) w' := ⟨.inr ⟨ho, q, rfl⟩, h⟩
theorem NilOr.good {w w' : World} {ok : Bool} (ho : ok = true) (h : Below w.heap.size w w') : NilOr ok w (.returned .nilIface) w' := ⟨.inl ⟨ho, rfl⟩, h⟩
theorem PreAt.whole {b : Nat} {p : PV} {w : World} (h : PreAt b p w) : (loadVar 24 ⟨b, 0, none⟩).run Tryz.prog w = .ok (.agg (preA p)) w := by
  have := run_loadVar_mid (P := Tryz.prog) w b 0 24 (preA p).toList _ (fun j v hv => by rw [Nat.zero_add]; exact Row.cell h j v (by rwa [Array.getElem?_toList] at hv)) Tryz.underlying24 rfl (by rw [Array.length_toList, preA_size]; exact info_pre)
  simpa using this
set_option maxHeartbeats 1000000 in
theorem ip_fault_any (a : Addr) (w : World) : Calls Tryz.prog 114 #[.iface 358 (.pointer (some a))] w fun e w' => (∃ q, e = .returned (.iface 183 (.pointer (some q)))) ∧ Hid (Below w.heap.size w w') := by
  go_enter Tryz.func114, Tryz.ntmps114
  go_wp2_with fail
  go_ret
  exact ⟨⟨_, rfl⟩, by show Below _ _ _; go_grown⟩

theorem preA_lit (p : PV) : preA p = #[.bool p.six, .int .u8 (p.addr 0 : Nat), .int .u8 (p.addr 1 : Nat), .int .u8 (p.addr 2 : Nat), .int .u8 (p.addr 3 : Nat), .int .u8 (p.addr 4 : Nat), .int .u8 (p.addr 5 : Nat), .int .u8 (p.addr 6 : Nat), .int .u8 (p.addr 7 : Nat), .int .u8 (p.addr 8 : Nat), .int .u8 (p.addr 9 : Nat), .int .u8 (p.addr 10 : Nat), .int .u8 (p.addr 11 : Nat), .int .u8 (p.addr 12 : Nat), .int .u8 (p.addr 13 : Nat), .int .u8 (p.addr 14 : Nat), .int .u8 (p.addr 15 : Nat), .int .i64 p.bits] := rfl
theorem PreAt.cells {b : Nat} {p : PV} {w : World} (h : PreAt b p w) : w.cell? ⟨b, 0, none⟩ = some (.bool p.six) ∧ w.cell? ⟨b, 1, none⟩ = some (.int .u8 (p.addr 0 : Nat)) ∧ w.cell? ⟨b, 2, none⟩ = some (.int .u8 (p.addr 1 : Nat)) ∧ w.cell? ⟨b, 3, none⟩ = some (.int .u8 (p.addr 2 : Nat)) ∧ w.cell? ⟨b, 4, none⟩ = some (.int .u8 (p.addr 3 : Nat)) ∧ w.cell? ⟨b, 5, none⟩ = some (.int .u8 (p.addr 4 : Nat)) ∧ w.cell? ⟨b, 6, none⟩ = some (.int .u8 (p.addr 5 : Nat)) ∧ w.cell? ⟨b, 7, none⟩ = some (.int .u8 (p.addr 6 : Nat)) ∧ w.cell? ⟨b, 8, none⟩ = some (.int .u8 (p.addr 7 : Nat)) ∧ w.cell? ⟨b, 9, none⟩ = some (.int .u8 (p.addr 8 : Nat)) ∧ w.cell? ⟨b, 10, none⟩ = some (.int .u8 (p.addr 9 : Nat)) ∧ w.cell? ⟨b, 11, none⟩ = some (.int .u8 (p.addr 10 : Nat)) ∧ w.cell? ⟨b, 12, none⟩ = some (.int .u8 (p.addr 11 : Nat)) ∧ w.cell? ⟨b, 13, none⟩ = some (.int .u8 (p.addr 12 : Nat)) ∧ w.cell? ⟨b, 14, none⟩ = some (.int .u8 (p.addr 13 : Nat)) ∧ w.cell? ⟨b, 15, none⟩ = some (.int .u8 (p.addr 14 : Nat)) ∧ w.cell? ⟨b, 16, none⟩ = some (.int .u8 (p.addr 15 : Nat)) ∧ w.cell? ⟨b, 17, none⟩ = some (.int .i64 p.bits) :=
  ⟨h.six, h.byte 0 (by omega), h.byte 1 (by omega), h.byte 2 (by omega), h.byte 3 (by omega), h.byte 4 (by omega), h.byte 5 (by omega), h.byte 6 (by omega), h.byte 7 (by omega), h.byte 8 (by omega), h.byte 9 (by omega), h.byte 10 (by omega), h.byte 11 (by omega), h.byte 12 (by omega), h.byte 13 (by omega), h.byte 14 (by omega), h.byte 15 (by omega), h.bits⟩
theorem Width_lit (p : PV) (w : World) : Calls Tryz.prog 13 #[.agg #[.bool p.six, .int .u8 (p.addr 0 : Nat), .int .u8 (p.addr 1 : Nat), .int .u8 (p.addr 2 : Nat), .int .u8 (p.addr 3 : Nat), .int .u8 (p.addr 4 : Nat), .int .u8 (p.addr 5 : Nat), .int .u8 (p.addr 6 : Nat), .int .u8 (p.addr 7 : Nat), .int .u8 (p.addr 8 : Nat), .int .u8 (p.addr 9 : Nat), .int .u8 (p.addr 10 : Nat), .int .u8 (p.addr 11 : Nat), .int .u8 (p.addr 12 : Nat), .int .u8 (p.addr 13 : Nat), .int .u8 (p.addr 14 : Nat), .int .u8 (p.addr 15 : Nat), .int .i64 p.bits]] w fun e w' => e = .returned (.int .i64 (widthV p)) ∧ Hid (Below w.heap.size w w') := Width_any p w
end Go.Proofs.YtangheahliekeaaGreatDoor

