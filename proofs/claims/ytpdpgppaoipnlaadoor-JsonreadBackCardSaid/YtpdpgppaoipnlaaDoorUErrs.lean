/- What the claim uses of the text Errs. -/
import Derived.Test.YtpdpgppaoipnlaaDoorProg
import Derived.WalkKit
import Derived.WalkSpells
import Derived.WalkLawsBesides
import Derived.LaidEql
import Derived.Stop.Asserts
import Derived.RowKitTokens
import Derived.Deep.QuietTactic
import Derived.BigQuiet
import Derived.Handy
import Derived.Deep.Light
set_option linter.unusedVariables false
set_option linter.unusedSimpArgs false
namespace Go.Proofs.YtpdpgppaoipnlaaDoor
section
open Go.RowKit Go.Extern.Stop Go.Stop Go.Extern

theorem ret_bool {a b : Bool} (h : a = b) : Ending.returned (.bool a) = .returned (.bool b) := by rw [h]
theorem ret_int {k : IntKind} {a b : Int} (h : a = b) : Ending.returned (.int k a) = .returned (.int k b) := by rw [h]

/-- Are all of them known (not only the ones that JSON values want)? -/
def allE (E : Nat → Addr) : Prop := E 0 = ⟨1, 1, none⟩
abbrev AllE (E : Nat → Addr) : Prop := Nonempty (allE E)
theorem AllE.out {E : Nat → Addr} [h : AllE E] : allE E := h.elim id
/-- What the package-level variables hold. -/
structure Sents (E : Nat → Addr) (w : World) : Prop where
  et : w.cell? ⟨3, 0, none⟩ = some (.iface 137 (.agg #[.pointer (some ⟨23, 28, none⟩)]))
  c1 : w.cell? ⟨1, 0, none⟩ = some (.iface 180 (.pointer (some (E 1))))
  c2 : w.cell? ⟨4, 0, none⟩ = some (.iface 180 (.pointer (some (E 2))))
  c3 : allE E → w.cell? ⟨0, 0, none⟩ = some (.iface 180 (.pointer (some (E 3))))
  c4 : w.cell? ⟨2, 0, none⟩ = some (.iface 180 (.pointer (some (E 4))))
  c5 : w.cell? ⟨5, 0, none⟩ = some (.iface 180 (.pointer (some (E 5))))
  c6 : allE E → w.cell? ⟨6, 0, none⟩ = some (.iface 180 (.pointer (some (E 6))))
  c7 : w.cell? ⟨7, 0, none⟩ = some (.iface 180 (.pointer (some (E 7))))
  c8 : allE E → w.cell? ⟨8, 0, none⟩ = some (.iface 180 (.pointer (some (E 8))))
  c9 : w.cell? ⟨9, 0, none⟩ = some (.iface 180 (.pointer (some (E 9))))
  c10 : allE E → w.cell? ⟨10, 0, none⟩ = some (.iface 180 (.pointer (some (E 10))))
  c11 : allE E → w.cell? ⟨11, 0, none⟩ = some (.iface 180 (.pointer (some (E 11))))
  c12 : allE E → w.cell? ⟨12, 0, none⟩ = some (.iface 180 (.pointer (some (E 12))))
  c13 : allE E → w.cell? ⟨13, 0, none⟩ = some (.iface 180 (.pointer (some (E 13))))
  c14 : allE E → w.cell? ⟨14, 0, none⟩ = some (.iface 180 (.pointer (some (E 14))))
  c15 : allE E → w.cell? ⟨15, 0, none⟩ = some (.iface 180 (.pointer (some (E 15))))
  c16 : allE E → w.cell? ⟨16, 0, none⟩ = some (.iface 180 (.pointer (some (E 16))))
  c17 : w.cell? ⟨17, 0, none⟩ = some (.iface 180 (.pointer (some (E 17))))
  c18 : allE E → w.cell? ⟨18, 0, none⟩ = some (.iface 180 (.pointer (some (E 18))))

theorem cell_below {w w1 : World} (h : Below w.heap.size w w1) {a : Addr} {v : Value} (hc : w.cell? a = some v) : w1.cell? a = some v := (h.cell (World.block_lt_of_cell? w a hc)).trans hc

theorem Sents.below {E : Nat → Addr} {w w' : World} (h : Sents E w) (hb : Below w.heap.size w w') : Sents E w' :=
  ⟨cell_below hb h.et, cell_below hb h.c1, cell_below hb h.c2, fun a => cell_below hb (h.c3 a), cell_below hb h.c4, cell_below hb h.c5, fun a => cell_below hb (h.c6 a), cell_below hb h.c7, fun a => cell_below hb (h.c8 a), cell_below hb h.c9, fun a => cell_below hb (h.c10 a), fun a => cell_below hb (h.c11 a), fun a => cell_below hb (h.c12 a), fun a => cell_below hb (h.c13 a), fun a => cell_below hb (h.c14 a), fun a => cell_below hb (h.c15 a), fun a => cell_below hb (h.c16 a), cell_below hb h.c17, fun a => cell_below hb (h.c18 a)⟩

def NamedIs (E : Nat → Addr) (code : Int) (w : World) (e : Ending) (w' : World) : Prop := e = .returned (.iface 180 (.pointer (some (E code.toNat)))) ∧ w' = w
theorem NamedIs.mk {E : Nat → Addr} {code : Int} {w : World} {k : Nat} (h : code = k) : NamedIs E code w (.returned (.iface 180 (.pointer (some (E k))))) w := by
  subst h; exact ⟨by simp, rfl⟩

set_option maxHeartbeats 1000000 in
theorem Named_any (E : Nat → Addr) [AllE E] (code : Int) (w : World) (h1 : 1 ≤ code) (h2 : code ≤ 18) (hs : Sents E w) :
    Calls Tryd.prog 49 #[.int .i64 code] w (NamedIs E code w) := by
  obtain ⟨et, c1, c2, c3, c4, c5, c6, c7, c8, c9, c10, c11, c12, c13, c14, c15, c16, c17, c18⟩ := hs
  replace c3 := c3 AllE.out
  replace c6 := c6 AllE.out
  replace c8 := c8 AllE.out
  replace c10 := c10 AllE.out
  replace c11 := c11 AllE.out
  replace c12 := c12 AllE.out
  replace c13 := c13 AllE.out
  replace c14 := c14 AllE.out
  replace c15 := c15 AllE.out
  replace c16 := c16 AllE.out
  replace c18 := c18 AllE.out
  go_enter Tryd.func49, Tryd.ntmps49
  go_wp2
  all_goals
    simp only [beq_iff_eq, beq_eq_false_iff_ne, ne_eq] at *
    first | (exfalso; omega) | (go_ret; exact NamedIs.mk (by omega))

theorem isTypeOf (v : Value) (w : World) : (Extern.ReflectliteType.typeOf #[.iface 180 v]).run Tryd.prog w = .ok (.iface 137 (.agg #[.pointer (some ⟨23, 180, none⟩)])) w := by kernel_rfl
def cmpEntry : TypeId → Sem Value := fun t => do Extern.Rtype.noPackHeld "Comparable" t; pure (.bool (← typeInfo t).comparable)
theorem isComparable (w : World) : ((Extern.ReflectliteType.method cmpEntry) #[.agg #[.pointer (some ⟨23, 180, none⟩)]]).run Tryd.prog w = .ok (.bool true) w := by kernel_rfl
theorem isMethodComparable (v : Value) (w : World) : (Go.method 311 137 v "Comparable").run Tryd.prog w = .ok (160, v) w := by kernel_rfl
theorem isComp : (Tryd.prog.info? 180).map (·.comparable) = some true := by kernel_rfl
theorem isSize : (Tryd.prog.info? 199).map (·.size) = some 1 := by kernel_rfl
theorem noIsW (v : Value) (xT : TypeId) (w : World) : (Instr.typeAssert (.iface 69 v) xT 149 true).run Tryd.prog w = .ok (.tuple #[.nilIface, .bool false]) w := run_typeAssert_lacksB Tryd.underlying149 (by kernel_rfl) (by kernel_rfl) v xT w
theorem hasUnwrapW (v : Value) (xT : TypeId) (w : World) : (Instr.typeAssert (.iface 69 v) xT 144 true).run Tryd.prog w = .ok (.tuple #[.iface 69 v, .bool true]) w := run_typeAssert_hasB Tryd.underlying144 (by kernel_rfl) v xT w
theorem methodUnwrap (v : Value) (w : World) : (Go.method 311 69 v "Unwrap").run Tryd.prog w = .ok (153, v) w := by kernel_rfl

/-- errors.Is(e, x), e a fault around x itself. -/
theorem is_fault_same (b : Nat) (s : Addr) (w : World) (h1 : w.cell? ⟨b, 1, none⟩ = some (.iface 180 (.pointer (some s)))) :
    Calls Tryd.prog 48 #[.iface 69 (.pointer (some ⟨b, 0, none⟩)), .iface 180 (.pointer (some s))] w fun e w' => e = .returned (.bool true) ∧ w' = w := by
  obtain ⟨i, hi, hcmp⟩ := Option.map_eq_some_iff.1 isComp
  obtain ⟨j, hj, hjs⟩ := Option.map_eq_some_iff.1 isSize
  have h8 := @run_callFunc_extern Tryd.prog 81 _ Extern.ReflectliteType.typeOf Tryd.func81 (by kernel_rfl) (by kernel_rfl) (by kernel_rfl) (by kernel_rfl)
  have h32 := @run_callFunc_extern Tryd.prog 160 _ (Extern.ReflectliteType.method cmpEntry) Tryd.func160 (by kernel_rfl) (by kernel_rfl) (by kernel_rfl) (by kernel_rfl)
  have tT := isTypeOf
  have cT := isComparable
  have mR := isMethodComparable
  have nW := noIsW
  have uW := hasUnwrapW
  have mU := methodUnwrap
  have heq := run_eql_iface_ptr_same (P := Tryd.prog) w s Tryd.underlying28 Tryd.underlying180 hi hcmp hj
  have hty := run_eql_iface_types (P := Tryd.prog) 69 180 (.pointer (some ⟨b, 0, none⟩)) (.pointer (some s)) Tryd.underlying28 (by decide) w
  go_enter Tryd.func48, Tryd.ntmps48
  go_wp2
  refine wp_loop_rounds 2 ?_
  rw [rounds_succ]
  go_wp2
  rw [rounds_succ]
  go_wp2
  go_ret
  exact ⟨rfl, rfl⟩

end

section
open Go.RowKit Go.Extern.Stop Go.Stop Go.Extern

/-- errors.As(nil, target). -/
theorem as_nil (t : Value) (w : World) :
    Calls Tryd.prog 47 #[.nilIface, t] w fun e w' => e = .returned (.bool false) ∧ w' = w := by
  go_enter Tryd.func47, Tryd.ntmps47
  go_wp2
  go_ret
  exact ⟨rfl, rfl⟩

theorem valueOfPP (t : Addr) (w : World) : (ReflectliteValue.unpack (.iface 73 (.pointer (some t)))).run Tryd.prog w
    = .ok (.agg #[.pointer (some ⟨23, 73, none⟩), .pointer (some ⟨w.heap.size, 0, none⟩), .int .u64 150]) (w.alloc (.cells #[.pointer (some t)] 73)) := by kernel_rfl
theorem typePP (a : Addr) (w : World) : (ReflectliteValue.methodAny (ReflectliteValue.valueError "reflectlite.Value.Type" 0) (fun t _ _ _ => ReflectliteType.toType t) #[.agg #[.pointer (some ⟨23, 73, none⟩), .pointer (some a), .int .u64 150]]).run Tryd.prog w
    = .ok (.iface 137 (.agg #[.pointer (some ⟨23, 73, none⟩)])) w := by kernel_rfl
theorem methodKind (h : Value) (w : World) : (Go.method 311 137 (.agg #[h]) "Kind").run Tryd.prog w = .ok (149, h) w := by kernel_rfl
theorem kindPP (w : World) : ((ReflectliteType.abiMethod fun t => (fun a : Nat => Value.int IntKind.u8 (a : Int)) <$> Rtype.kind t) #[.pointer (some ⟨23, 73, none⟩)]).run Tryd.prog w = .ok (.int .u8 22) w := by kernel_rfl
theorem kindP (w : World) : ((ReflectliteType.abiMethod fun t => (fun a : Nat => Value.int IntKind.u8 (a : Int)) <$> Rtype.kind t) #[.pointer (some ⟨23, 69, none⟩)]).run Tryd.prog w = .ok (.int .u8 22) w := by kernel_rfl
theorem rlm (z : Sem Value) (f : TypeId → Addr → Nat → Nat → Sem Value) (v : Value) :
    ReflectliteValue.method z f #[v] = (do match ← ReflectliteValue.parts v with | none => z | some (t, a, fl) => f t a fl (fl % 32)) := rfl
theorem partsPP (a : Addr) (w : World) : (ReflectliteValue.parts (.agg #[.pointer (some ⟨23, 73, none⟩), .pointer (some a), .int .u64 150])).run Tryd.prog w = .ok (some (73, a, 150)) w := by kernel_rfl
theorem isNilPP (a p : Addr) (W : World) (ha : W.cell? a = some (.pointer (some p))) :
    (ReflectliteValue.method (ReflectliteValue.valueError "reflectlite.Value.IsNil" 0) ReflectliteValue.isNil #[.agg #[.pointer (some ⟨23, 73, none⟩), .pointer (some a), .int .u64 150]]).run Tryd.prog W = .ok (.bool false) W := by
  rw [rlm]
  simp only [Sem.run_bind, partsPP, Result.andThen]
  simp [ReflectliteValue.isNil, loadVar, isAgg, underlying, Tryd.underlying73, ha, Result.andThen]
theorem methodElem (h : Value) (w : World) : (Go.method 311 137 (.agg #[h]) "Elem").run Tryd.prog w = .ok (161, .agg #[h]) w := by kernel_rfl
theorem methodImplements (h : Value) (w : World) : (Go.method 311 137 (.agg #[h]) "Implements").run Tryd.prog w = .ok (162, .agg #[h]) w := by kernel_rfl
theorem methodAssignableTo (h : Value) (w : World) : (Go.method 311 137 (.agg #[h]) "AssignableTo").run Tryd.prog w = .ok (159, .agg #[h]) w := by kernel_rfl
theorem elemPP (w : World) : (ReflectliteType.method ReflectliteType.elem #[.agg #[.pointer (some ⟨23, 73, none⟩)]]).run Tryd.prog w = .ok (.iface 137 (.agg #[.pointer (some ⟨23, 69, none⟩)])) w := by kernel_rfl
theorem implementsP (w : World) : (ReflectliteType.relation "Implements" ReflectliteType.implements_ #[.agg #[.pointer (some ⟨23, 69, none⟩)], .iface 137 (.agg #[.pointer (some ⟨23, 28, none⟩)])]).run Tryd.prog w = .ok (.bool true) w := by kernel_rfl
theorem typeOfP (v : Value) (w : World) : (ReflectliteType.typeOf #[.iface 69 v]).run Tryd.prog w = .ok (.iface 137 (.agg #[.pointer (some ⟨23, 69, none⟩)])) w := by kernel_rfl
theorem assignableP (w : World) : (ReflectliteType.relation "AssignableTo" ReflectliteType.assignableTo #[.agg #[.pointer (some ⟨23, 69, none⟩)], .iface 137 (.agg #[.pointer (some ⟨23, 69, none⟩)])]).run Tryd.prog w = .ok (.bool true) w := by kernel_rfl
theorem valueOfP (e : Addr) (w : World) : (ReflectliteValue.unpack (.iface 69 (.pointer (some e)))).run Tryd.prog w
    = .ok (.agg #[.pointer (some ⟨23, 69, none⟩), .pointer (some ⟨w.heap.size, 0, none⟩), .int .u64 150]) (w.alloc (.cells #[.pointer (some e)] 69)) := by kernel_rfl
theorem elemOfPP (w : World) : (Rtype.elem? 73).run Tryd.prog w = .ok (some 69) w := by kernel_rfl
theorem mkP (p : Addr) (w : World) : (ReflectliteValue.mk 69 p ReflectliteValue.flagAddr).run Tryd.prog w = .ok (.agg #[.pointer (some ⟨23, 69, none⟩), .pointer (some p), .int .u64 406]) w := by kernel_rfl
theorem elemVPP (a p : Addr) (W : World) (ha : W.cell? a = some (.pointer (some p))) :
    (ReflectliteValue.method (ReflectliteValue.valueError "reflectlite.Value.Elem" 0) ReflectliteValue.elem #[.agg #[.pointer (some ⟨23, 73, none⟩), .pointer (some a), .int .u64 150]]).run Tryd.prog W
      = .ok (.agg #[.pointer (some ⟨23, 69, none⟩), .pointer (some p), .int .u64 406]) W := by
  rw [rlm]
  simp only [Sem.run_bind, partsPP, Result.andThen]
  simp [ReflectliteValue.elem, loadVar, isAgg, underlying, Tryd.underlying73, ha, Result.andThen, elemOfPP, mkP]
theorem rls (v x : Value) : ReflectliteValue.set #[v, x] = (do
    let (some (dst, a, fl), some (src, b, _)) := (← ReflectliteValue.parts v, ← ReflectliteValue.parts x)
      | unsupported (.noEntry "extern/(internal/reflectlite.Value).Set.zeroValue")
    if fl / ReflectliteValue.flagAddr % 2 == 0 then unsupported (.noEntry "extern/(internal/reflectlite.Value).Set.unaddressable")
    let val ← loadVar src b
    if ← Rtype.directlyAssignable dst src then storeVar dst a val
    else if ← Rtype.implements dst src then
      if (← Rtype.kind src) == 20 then
        match val with
        | .nilIface => unsupported (.noEntry "extern/reflectlite: a nil value of one interface type handed on as a value of another")
        | _ => storeVar dst a val
      else storeVar dst a (.iface src val)
    else panicString ("reflectlite.Set: value of type " ++ (← Rtype.spelt src) ++ " is not assignable to type " ++ (← Rtype.spelt dst))
    pure (.tuple #[])) := rfl
theorem partsPa (a : Addr) (w : World) : (ReflectliteValue.parts (.agg #[.pointer (some ⟨23, 69, none⟩), .pointer (some a), .int .u64 406])).run Tryd.prog w = .ok (some (69, a, 406)) w := by kernel_rfl
theorem partsP (a : Addr) (w : World) : (ReflectliteValue.parts (.agg #[.pointer (some ⟨23, 69, none⟩), .pointer (some a), .int .u64 150])).run Tryd.prog w = .ok (some (69, a, 150)) w := by kernel_rfl
theorem directP (w : World) : (Rtype.directlyAssignable 69 69).run Tryd.prog w = .ok true w := by kernel_rfl
theorem setP (ta b e : Addr) (old : Value) (W : World) (hb : W.cell? b = some (.pointer (some e))) (ht : W.cell? ta = some old) (hf : W.frozen? ta = false) :
    (ReflectliteValue.set #[.agg #[.pointer (some ⟨23, 69, none⟩), .pointer (some ta), .int .u64 406], .agg #[.pointer (some ⟨23, 69, none⟩), .pointer (some b), .int .u64 150]]).run Tryd.prog W
      = .ok (.tuple #[]) (W.setCell ta (.pointer (some e))) := by
  rw [rls]
  simp only [Sem.run_bind, partsPa, partsP, Result.andThen]
  simp [ReflectliteValue.flagAddr, loadVar, isAgg, underlying, Tryd.underlying69, hb, Result.andThen, directP, storeVar, Value.cells, storeCells, Addr.add]
  rw [run_store Tryd.prog W ta _ _ (by rfl)]
  simp [ht, hf]

set_option maxHeartbeats 4000000 in
theorem as_hit0 (e t : Addr) (old : Value) (w : World) (hg : w.cell? ⟨3, 0, none⟩ = some (.iface 137 (.agg #[.pointer (some ⟨23, 28, none⟩)]))) (ht0 : w.cell? t = some old) (hf0 : w.frozen? t = false) :
    Calls Tryd.prog 47 #[.iface 69 (.pointer (some e)), .iface 73 (.pointer (some t))] w fun ev w' => ev = .returned (.bool true) ∧ w' = ((((w.alloc (.cells #[.pointer (some t)] 73)).alloc (.cells #[.pointer (some ⟨23, 73, none⟩), .pointer (some ⟨w.heap.size, 0, none⟩), .int .u64 150] 104)).alloc (.cells #[.pointer (some ⟨23, 73, none⟩), .pointer (some ⟨w.heap.size, 0, none⟩), .int .u64 150] 104)).alloc (.cells #[.pointer (some e)] 69)).setCell t (.pointer (some e)) := by
  have h6 := @run_callFunc_extern Tryd.prog 77 _ (fun args => ReflectliteValue.unpack (args.getD 0 (.tuple #[]))) Tryd.func77 (by kernel_rfl) (by kernel_rfl) (by kernel_rfl) (by kernel_rfl)
  have h7 := @run_callFunc_extern Tryd.prog 78 _ (ReflectliteValue.methodAny (ReflectliteValue.valueError "reflectlite.Value.Type" 0) (fun t _ _ _ => ReflectliteType.toType t)) Tryd.func78 (by kernel_rfl) (by kernel_rfl) (by kernel_rfl) (by kernel_rfl)
  have h8 := @run_callFunc_extern Tryd.prog 79 _ (ReflectliteValue.method (ReflectliteValue.valueError "reflectlite.Value.IsNil" 0) ReflectliteValue.isNil) Tryd.func79 (by kernel_rfl) (by kernel_rfl) (by kernel_rfl) (by kernel_rfl)
  have h27 := @run_callFunc_extern Tryd.prog 149 _ (ReflectliteType.abiMethod fun t => do pure (.int .u8 (← Rtype.kind t))) Tryd.func149 (by kernel_rfl) (by kernel_rfl) (by kernel_rfl) (by kernel_rfl)
  have h37 := @run_callFunc_extern Tryd.prog 161 _ (ReflectliteType.method ReflectliteType.elem) Tryd.func161 (by kernel_rfl) (by kernel_rfl) (by kernel_rfl) (by kernel_rfl)
  have h38 := @run_callFunc_extern Tryd.prog 162 _ (ReflectliteType.relation "Implements" ReflectliteType.implements_) Tryd.func162 (by kernel_rfl) (by kernel_rfl) (by kernel_rfl) (by kernel_rfl)
  have h10 := @run_callFunc_extern Tryd.prog 81 _ ReflectliteType.typeOf Tryd.func81 (by kernel_rfl) (by kernel_rfl) (by kernel_rfl) (by kernel_rfl)
  have h35 := @run_callFunc_extern Tryd.prog 159 _ (ReflectliteType.relation "AssignableTo" ReflectliteType.assignableTo) Tryd.func159 (by kernel_rfl) (by kernel_rfl) (by kernel_rfl) (by kernel_rfl)
  have h11 := @run_callFunc_extern Tryd.prog 104 _ (ReflectliteValue.method (ReflectliteValue.valueError "reflectlite.Value.Elem" 0) ReflectliteValue.elem) Tryd.func104 (by kernel_rfl) (by kernel_rfl) (by kernel_rfl) (by kernel_rfl)
  have h12 := @run_callFunc_extern Tryd.prog 105 _ ReflectliteValue.set Tryd.func105 (by kernel_rfl) (by kernel_rfl) (by kernel_rfl) (by kernel_rfl)
  have tO := typeOfP
  have mA := methodAssignableTo
  have a25 := assignableP
  have v25 := valueOfP
  have f6 := valueOfPP
  have f7 := typePP
  have mK := methodKind
  have mE := methodElem
  have mI := methodImplements
  have k27 := kindPP
  have k25 := kindP
  have e27 := elemPP
  have i25 := implementsP
  have n8 := isNilPP ⟨w.heap.size, 0, none⟩ t ((w.alloc (.cells #[.pointer (some t)] 73)).alloc (.cells #[.pointer (some ⟨23, 73, none⟩), .pointer (some ⟨w.heap.size, 0, none⟩), .int .u64 150] 104)) (by simp)
  have hlt : 3 < w.heap.size := World.block_lt_of_cell? w _ hg
  have hg2 : ((w.alloc (.cells #[.pointer (some t)] 73)).alloc (.cells #[.pointer (some ⟨23, 73, none⟩), .pointer (some ⟨w.heap.size, 0, none⟩), .int .u64 150] 104)).cell? ⟨3, 0, none⟩ = some (.iface 137 (.agg #[.pointer (some ⟨23, 28, none⟩)])) := by
    rw [World.cell?_alloc_lt _ _ ⟨3, 0, none⟩ (by simp; omega), World.cell?_alloc_lt _ _ ⟨3, 0, none⟩ hlt]; exact hg
  have htl : t.block < w.heap.size := World.block_lt_of_cell? w _ ht0
  have el := elemVPP ⟨w.heap.size, 0, none⟩ t (((w.alloc (.cells #[.pointer (some t)] 73)).alloc (.cells #[.pointer (some ⟨23, 73, none⟩), .pointer (some ⟨w.heap.size, 0, none⟩), .int .u64 150] 104)).alloc (.cells #[.pointer (some ⟨23, 73, none⟩), .pointer (some ⟨w.heap.size, 0, none⟩), .int .u64 150] 104)) (by rw [World.cell?_alloc_lt _ _ ⟨w.heap.size, 0, none⟩ (by simp; omega)]; simp)
  have st := setP t ⟨w.heap.size + 1 + 1 + 1, 0, none⟩ e old ((((w.alloc (.cells #[.pointer (some t)] 73)).alloc (.cells #[.pointer (some ⟨23, 73, none⟩), .pointer (some ⟨w.heap.size, 0, none⟩), .int .u64 150] 104)).alloc (.cells #[.pointer (some ⟨23, 73, none⟩), .pointer (some ⟨w.heap.size, 0, none⟩), .int .u64 150] 104)).alloc (.cells #[.pointer (some e)] 69))
    (by rw [World.cell?_alloc_at _ _ _ _ (by simp)]; rfl)
    (by rw [World.cell?_alloc_lt _ _ t (by simp; omega), World.cell?_alloc_lt _ _ t (by simp; omega), World.cell?_alloc_lt _ _ t (by simp; omega), World.cell?_alloc_lt _ _ t htl]; exact ht0)
    (by rw [World.frozen?_alloc_old _ _ t (by simp; omega), World.frozen?_alloc_old _ _ t (by simp; omega), World.frozen?_alloc_old _ _ t (by simp; omega), World.frozen?_alloc_old _ _ t (Nat.ne_of_lt htl)]; exact hf0)
  go_enter Tryd.func47, Tryd.ntmps47
  go_wp2
  refine wp_loop_rounds 1 ?_
  rw [rounds_succ]
  go_wp2
  go_ret
  exact ⟨rfl, rfl⟩

/-- errors.As at a fault: '*target' is set; nothing else that was there turns. -/
theorem as_hit {E : Nat → Addr} (e t : Addr) (old : Value) (w : World) (hs : Sents E w) (ht0 : w.cell? t = some old) (hf0 : w.frozen? t = false) :
    Calls Tryd.prog 47 #[.iface 69 (.pointer (some e)), .iface 73 (.pointer (some t))] w fun ev w' => ev = .returned (.bool true) ∧ ∃ w1, Below w.heap.size w w1 ∧ w' = w1.setCell t (.pointer (some e)) := by
  refine (as_hit0 e t old w hs.et ht0 hf0).mono ?_
  rintro ev w' ⟨rfl, rfl⟩
  exact ⟨rfl, _, by go_grown, rfl⟩
end

section
open Go.RowKit Go.Extern.Stop Go.Stop Go.Extern

/-- An error value: none (code 0), or a fault at a place around a sentinel. -/
def ErrV (E : Nat → Addr) (w : World) (v : Value) (at_ : Int) (code : Int) : Prop :=
  (code = 0 ∧ v = .nilIface) ∨ (1 ≤ code ∧ code ≤ 18 ∧ ∃ b, v = .iface 69 (.pointer (some ⟨b, 0, none⟩)) ∧ w.cell? ⟨b, 0, none⟩ = some (.int .i64 at_) ∧ w.cell? ⟨b, 1, none⟩ = some (.iface 180 (.pointer (some (E code.toNat)))))

theorem ErrV.below {E : Nat → Addr} {w w' : World} {v : Value} {at_ code : Int} (h : ErrV E w v at_ code) (hb : Below w.heap.size w w') : ErrV E w' v at_ code := by
  rcases h with h | ⟨h1, h2, b, h3, h4, h5⟩
  · exact .inl h
  · exact .inr ⟨h1, h2, b, h3, cell_below hb h4, cell_below hb h5⟩

theorem is_none (v : Value) (at_ : Int) (w : World) (hv : v = .nilIface) :
    Calls Tryd.prog 15 #[v, .int .i64 at_, .int .i64 0] w fun e w' => e = .returned (.bool true) ∧ w' = w := by
  subst hv
  go_enter Tryd.func15, Tryd.ntmps15
  go_wp2
  go_ret
  exact ⟨rfl, rfl⟩

set_option maxHeartbeats 2000000 in
theorem is_some {E : Nat → Addr} [AllE E] (b : Nat) (at_ code : Int) (w : World) (hs : Sents E w) (h1 : 1 ≤ code) (h2 : code ≤ 18)
    (h4 : w.cell? ⟨b, 0, none⟩ = some (.int .i64 at_)) (h5 : w.cell? ⟨b, 1, none⟩ = some (.iface 180 (.pointer (some (E code.toNat))))) :
    Calls Tryd.prog 15 #[.iface 69 (.pointer (some ⟨b, 0, none⟩)), .int .i64 at_, .int .i64 code] w fun e w' => e = .returned (.bool true) ∧ Below w.heap.size w w' := by
  have hc0 : (code == 0) = false := by rw [beq_eq_false_iff_ne]; omega
  have hbl : b < w.heap.size := World.block_lt_of_cell? w _ h4
  have hs1 : Sents E (w.alloc (.cells #[.pointer none] 69)) := hs.below (by go_grown)
  go_enter Tryd.func15, Tryd.ntmps15
  go_wp2_with fail
  refine (as_hit _ _ (.pointer none) _ hs1 (by simp) (by simp)).mono ?_
  rintro e w' ⟨rfl, w1, hb, rfl⟩
  have hb0 : Below w.heap.size w w1 := (show Below w.heap.size w (w.alloc (.cells #[.pointer none] 69)) by go_grown).trans (hb.mono (by simp))
  have hsz : w.heap.size < w1.heap.size := by have := hb.size; simp at this; omega
  have g4 : w1.cell? ⟨b, 0, none⟩ = some (.int .i64 at_) := cell_below hb0 h4
  have g5 : w1.cell? ⟨b, 1, none⟩ = some (.iface 180 (.pointer (some (E code.toNat)))) := cell_below hb0 h5
  have g0 : w1.cell? ⟨w.heap.size, 0, none⟩ = some (.pointer none) := cell_below hb (by simp)
  have hs2 : Sents E (w1.setCell ⟨w.heap.size, 0, none⟩ (.pointer (some ⟨b, 0, none⟩))) := hs.below (by go_grown)
  go_wp2_with fail
  refine (Named_any E code _ h1 h2 hs2).mono ?_
  rintro e w' ⟨rfl, rfl⟩
  go_wp2_with fail
  refine (is_fault_same b (E code.toNat) _ (by go_cell)).mono ?_
  rintro e w' ⟨rfl, rfl⟩
  go_wp2_with fail
  go_ret
  exact ⟨rfl, hb0.setCell (by simp) _⟩
end
end Go.Proofs.YtpdpgppaoipnlaaDoor

