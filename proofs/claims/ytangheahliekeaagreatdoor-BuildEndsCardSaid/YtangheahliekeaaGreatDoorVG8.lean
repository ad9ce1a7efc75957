/- What the claim uses of the text G8. -/
import Derived.Test.YtangheahliekeaaGreatDoorVG4
set_option linter.unusedVariables false
set_option linter.unusedSimpArgs false
namespace Go.Proofs.YtangheahliekeaaGreatDoor
open Go.RowKit Go.PlainAid
open Go.Proofs.YtangheahliekeaaGreatDoorW.PrintWords hiding bt
open Go.Proofs.YtangheahliekeaaGreatDoorW.PrintMore

/-- A query. -/
structure QV where
  kind : Int
  by_ : Int
  name : ByteArray
  net : PV
  num : Int
  whole : Bool
  pieces : List (ByteArray × Bool)
/-- A piece's text, and whether it is open. -/
def pk : Kd (ByteArray × Bool) := Kd.pair Kd.string Kd.bool
def qryL (q : QV) (A : Option Addr) (c : Nat) : List Value := .int .i64 q.kind :: .int .i64 q.by_ :: .string q.name :: ((preA q.net).toList ++ [.int .u32 q.num, .bool q.whole, .slice A q.pieces.length c])
def qryA (q : QV) (A : Option Addr) (c : Nat) : Array Value := (qryL q A c).toArray
section
variable {q : QV} {A : Option Addr} {c : Nat}
theorem qryA_size : (qryA q A c).size = 24 := by simp [qryA, qryL, preA_size]
theorem qryA_kind : (qryA q A c)[0]? = some (.int .i64 q.kind) := by simp [qryA, qryL]
theorem qryA_by : (qryA q A c)[1]? = some (.int .i64 q.by_) := by simp [qryA, qryL]
theorem qryA_name : (qryA q A c)[2]? = some (.string q.name) := by simp [qryA, qryL]
theorem qryA_net (j : Nat) (v : Value) (h : (preA q.net)[j]? = some v) : (qryA q A c)[3 + j]? = some v := by
  have hj : j < 18 := by
    have := (Array.getElem?_eq_some_iff.1 h).1
    rwa [preA_size] at this
  unfold qryA qryL
  rw [List.getElem?_toArray, show 3 + j = j + 1 + 1 + 1 by omega, List.getElem?_cons_succ, List.getElem?_cons_succ, List.getElem?_cons_succ, List.getElem?_append_left (by rw [Array.length_toList, preA_size]; exact hj), Array.getElem?_toList]
  exact h
theorem qryA_tail (j : Nat) (v : Value) (h : [Value.int .u32 q.num, .bool q.whole, .slice A q.pieces.length c][j]? = some v) : (qryA q A c)[21 + j]? = some v := by
  unfold qryA qryL
  rw [List.getElem?_toArray, show 21 + j = 18 + j + 1 + 1 + 1 by omega, List.getElem?_cons_succ, List.getElem?_cons_succ, List.getElem?_cons_succ, List.getElem?_append_right (by rw [Array.length_toList, preA_size]; omega), Array.length_toList, preA_size, Nat.add_sub_cancel_left]
  exact h
theorem qryA_num : (qryA q A c)[21]? = some (.int .u32 q.num) := qryA_tail 0 _ rfl
theorem qryA_whole : (qryA q A c)[22]? = some (.bool q.whole) := qryA_tail 1 _ rfl
theorem qryA_pieces : (qryA q A c)[23]? = some (.slice A q.pieces.length c) := qryA_tail 2 _ rfl
theorem qryA_bits : (qryA q A c)[20]? = some (.int .i64 q.net.bits) := qryA_net 17 _ (preA_bits _)
end
theorem info_qry : (Tryz.prog.info? 100).map (·.size) = some 24 := by kernel_rfl
/-- A block that holds a query. -/
def QAt (b : Nat) (q : QV) (A : Option Addr) (c : Nat) (w : World) : Prop := Row 100 b (qryA q A c) w
section
variable {b : Nat} {q : QV} {A : Option Addr} {c : Nat} {w w' : World}
theorem QAt.kind (h : QAt b q A c w) : w.cell? ⟨b, 0, none⟩ = some (.int .i64 q.kind) := Row.cell h 0 _ qryA_kind
theorem QAt.by_ (h : QAt b q A c w) : w.cell? ⟨b, 1, none⟩ = some (.int .i64 q.by_) := Row.cell h 1 _ qryA_by
theorem QAt.name (h : QAt b q A c w) : w.cell? ⟨b, 2, none⟩ = some (.string q.name) := Row.cell h 2 _ qryA_name
theorem QAt.bits (h : QAt b q A c w) : w.cell? ⟨b, 20, none⟩ = some (.int .i64 q.net.bits) := Row.cell h 20 _ qryA_bits
theorem QAt.num (h : QAt b q A c w) : w.cell? ⟨b, 21, none⟩ = some (.int .u32 q.num) := Row.cell h 21 _ qryA_num
theorem QAt.whole (h : QAt b q A c w) : w.cell? ⟨b, 22, none⟩ = some (.bool q.whole) := Row.cell h 22 _ qryA_whole
theorem QAt.pieces (h : QAt b q A c w) : w.cell? ⟨b, 23, none⟩ = some (.slice A q.pieces.length c) := Row.cell h 23 _ qryA_pieces
theorem QAt.below (h : QAt b q A c w) (hb : Below w.heap.size w w') : QAt b q A c w' := Row.below h hb
theorem QAt.lt (h : QAt b q A c w) : b < w.heap.size := Row.lt h
theorem QAt.range (h : QAt b q A c w) : w.rangeAt b 3 (preA q.net).toList := fun j v hv => Row.cell h _ v (qryA_net j v (by rwa [Array.getElem?_toList] at hv))
theorem QAt.net (h : QAt b q A c w) (j : Nat) (v : Value) (hv : (preA q.net)[j]? = some v) : w.cell? ⟨b, 3 + j, none⟩ = some v := Row.cell h _ v (qryA_net j v hv)
end
section
variable {ops : Array Oper} {rest : List Oper} {a : Act} {w : World} {Q : Exit → Act → World → Prop} {dst : Option Tmp} {x y : Operand} {ty : TypeId} {pos : String} {after : Array Edge} {b : Nat} {q : QV} {A : Option Addr} {c : Nat}
theorem wpl_load_qry (H : QAt b q A c w) (hx : a.eval x = .pointer (some ⟨b, 0, none⟩)) (h : wpList Tryz.prog ops Q rest (a.put dst (.agg (qryA q A c))) w) :
    wpList Tryz.prog ops Q ({ dst := dst, op := .load 100 x, type := ty, pos := pos, after := after, guard := none } :: rest) a w :=
  wpList_load_row rfl 100 x rfl b hx 100 _ (0, 0) _ H Tryz.underlying100 rfl (by rw [qryA_size]; exact info_qry) h
/-- The same, guarded, and wanted. -/
theorem wpl_load_qryG {o : Oper} (H : QAt b q A c w) (hw : Region.wanted o (yielded ops a.tmps) = true) (ho : o.op = .load 100 x) (hx : a.eval x = .pointer (some ⟨b, 0, none⟩)) (h : wpList Tryz.prog ops Q rest (a.put o.dst (.agg (qryA q A c))) w) : wpList Tryz.prog ops Q (o :: rest) a w := by
  refine wpList_step fun K' hK' => ?_
  rw [if_pos hw]
  exact wp_load_row 100 x ho b hx 100 _ (0, 0) _ H Tryz.underlying100 rfl (by rw [qryA_size]; exact info_qry) (hK' _ _ h)
theorem wpl_load_net (H : QAt b q A c w) (hx : a.eval x = .pointer (some ⟨b, 3, none⟩)) (h : wpList Tryz.prog ops Q rest (a.put dst (.agg (preA q.net))) w) :
    wpList Tryz.prog ops Q ({ dst := dst, op := .load 24 x, type := ty, pos := pos, after := after, guard := none } :: rest) a w :=
  wpList_load_mid rfl 24 x rfl b 3 hx (preA q.net).toList _ H.range Tryz.underlying24 rfl (by rw [Array.length_toList, preA_size]; exact info_pre) h
end
/-- May this be sought by this? -/
def byOk (k b : Int) : Bool := if k = 7 then decide (b = 1) || (decide (b = 2) || decide (b = 3)) else if k = 8 then decide (b = 1) || decide (b = 3) else if k = 9 then decide (b = 4) || decide (b = 5) else true
def manyQ (k : Int) : Bool := decide (7 ≤ k) && decide (k ≤ 9)
/-- May a query be? -/
def qOk (q : QV) : Bool :=
  decide (1 ≤ q.kind) && (decide (q.kind ≤ 9) && (byOk q.kind q.by_ && (if q.kind = 5 then ipOk q.net else if manyQ q.kind = true ∧ q.by_ = 3 then ipOk q.net && decide (q.net.bits = widthV q.net)
    else if manyQ q.kind = true then (q.whole == decide (q.kind = 9)) && (!(decide (q.kind = 9)) || decide (q.pieces.length = 1)) else true)))

set_option maxHeartbeats 1000000 in
theorem find_fault_any (a : Addr) (w : World) : Calls Tryz.prog 82 #[.iface 358 (.pointer (some a))] w fun e w' => (∃ q, e = .returned (.iface 183 (.pointer (some q)))) ∧ Hid (Below w.heap.size w w') := by
  go_enter Tryz.func82, Tryz.ntmps82
  go_wp2_with fail
  go_ret
  exact ⟨⟨_, rfl⟩, by show Below _ _ _; go_grown⟩
set_option maxHeartbeats 1000000 in
theorem Many_any (q : QV) (A : Option Addr) (c : Nat) (w : World) : Calls Tryz.prog 84 #[.agg (qryA q A c)] w fun e w' => e = .returned (.bool (manyQ q.kind)) ∧ Hid (Below w.heap.size w w') := by
  have HB : Hid (Below w.heap.size w (w.alloc (.cells (qryA q A c) 100))) := (Below.refl _ _).alloc (Nat.le_refl _) _
  have z0 := qryA_kind (q := q) (A := A) (c := c)
  go_enter Tryz.func84, Tryz.ntmps84
  by_cases h7 : 7 ≤ q.kind
  · have d1 : decide (7 ≤ q.kind) = true := decide_eq_true h7
    have HM : Hid (manyQ q.kind = decide (q.kind ≤ 9)) := by show _ = _; unfold manyQ; rw [d1, Bool.true_and]
    clear h7
    go_wp2_with fail
    go_ret
    exact ⟨by rw [HM.out]; rfl, HB.out⟩
  · have d1 : decide (7 ≤ q.kind) = false := decide_eq_false h7
    have HM : Hid (manyQ q.kind = false) := by show _ = _; unfold manyQ; rw [d1, Bool.false_and]
    clear h7
    go_wp2_with fail
    go_ret
    exact ⟨by rw [HM.out]; rfl, HB.out⟩
set_option maxHeartbeats 2000000 in
theorem by_any (q : QV) (A : Option Addr) (c : Nat) (w : World) : Calls Tryz.prog 81 #[.agg (qryA q A c)] w fun e w' => e = .returned (.bool (byOk q.kind q.by_)) ∧ Hid (Below w.heap.size w w') := by
  have HB : Hid (Below w.heap.size w (w.alloc (.cells (qryA q A c) 100))) := (Below.refl _ _).alloc (Nat.le_refl _) _
  have H : Hid (QAt w.heap.size q A c (w.alloc (.cells (qryA q A c) 100))) := Row.new w _ _ rfl
  have z0 := qryA_kind (q := q) (A := A) (c := c)
  have z1 := qryA_by (q := q) (A := A) (c := c)
  obtain ⟨k, hk⟩ : ∃ k, q.kind = k := ⟨_, rfl⟩
  obtain ⟨b, hb⟩ : ∃ b, q.by_ = b := ⟨_, rfl⟩
  rw [hk] at z0 ⊢
  rw [hb] at z1 ⊢
  clear hk hb
  go_enter Tryz.func81, Tryz.ntmps81
  go_wp2
  all_goals
    go_ret
    refine ⟨?_, HB.out⟩
    unfold byOk
    (try simp_all [Array.getD])
    all_goals (first | rfl | (rw [Bool.eq_iff_iff]; simp_all; done) | (rw [Bool.eq_iff_iff]; simp_all; omega))
end Go.Proofs.YtangheahliekeaaGreatDoor

