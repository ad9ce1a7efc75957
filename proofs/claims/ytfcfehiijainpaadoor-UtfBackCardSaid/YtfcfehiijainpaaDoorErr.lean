/- errors.As and errors.Is by their contracts, for faults around sentinels; Named and Is of the statements. (After the guide's Toyas and Sentry texts.) -/
import Derived.Test.YtfcfehiijainpaaDoorProg
import Derived.WalkKit
import Derived.WalkSpells
import Derived.WalkLawsBesides
import Derived.LaidEql
import Derived.Stop.Asserts
import Derived.RowKitTokens
import Derived.Deep.QuietTactic
import Derived.BigQuiet
import Derived.Handy
import Derived.Deep.Light
namespace Go.Proofs.YtfcfehiijainpaaDoor
open Go.RowKit Go.Extern.Stop Go.Stop Go.Extern

theorem ret_bool {a b : Bool} (h : a = b) : Ending.returned (.bool a) = .returned (.bool b) := by rw [h]
theorem ret_int {k : IntKind} {a b : Int} (h : a = b) : Ending.returned (.int k a) = .returned (.int k b) := by rw [h]

/-- What the package-level variables hold. -/
structure Sents (E : Nat → Addr) (w : World) : Prop where
  et : w.cell? ⟨3, 0, none⟩ = some (.iface 111 (.agg #[.pointer (some ⟨20, 24, none⟩)]))
  c1 : w.cell? ⟨1, 0, none⟩ = some (.iface 127 (.pointer (some (E 1))))
  c2 : w.cell? ⟨2, 0, none⟩ = some (.iface 127 (.pointer (some (E 2))))
  c3 : w.cell? ⟨4, 0, none⟩ = some (.iface 127 (.pointer (some (E 3))))
  c4 : w.cell? ⟨0, 0, none⟩ = some (.iface 127 (.pointer (some (E 4))))
  c5 : w.cell? ⟨5, 0, none⟩ = some (.iface 127 (.pointer (some (E 5))))
  c6 : w.cell? ⟨6, 0, none⟩ = some (.iface 127 (.pointer (some (E 6))))
  c7 : w.cell? ⟨7, 0, none⟩ = some (.iface 127 (.pointer (some (E 7))))
  c8 : w.cell? ⟨8, 0, none⟩ = some (.iface 127 (.pointer (some (E 8))))
  c9 : w.cell? ⟨9, 0, none⟩ = some (.iface 127 (.pointer (some (E 9))))
  c10 : w.cell? ⟨10, 0, none⟩ = some (.iface 127 (.pointer (some (E 10))))
  c11 : w.cell? ⟨11, 0, none⟩ = some (.iface 127 (.pointer (some (E 11))))
  c12 : w.cell? ⟨12, 0, none⟩ = some (.iface 127 (.pointer (some (E 12))))
  c13 : w.cell? ⟨13, 0, none⟩ = some (.iface 127 (.pointer (some (E 13))))
  c14 : w.cell? ⟨14, 0, none⟩ = some (.iface 127 (.pointer (some (E 14))))
  c15 : w.cell? ⟨15, 0, none⟩ = some (.iface 127 (.pointer (some (E 15))))
  c16 : w.cell? ⟨16, 0, none⟩ = some (.iface 127 (.pointer (some (E 16))))
  c17 : w.cell? ⟨17, 0, none⟩ = some (.iface 127 (.pointer (some (E 17))))
  c18 : w.cell? ⟨18, 0, none⟩ = some (.iface 127 (.pointer (some (E 18))))

theorem cell_below {w w1 : World} (h : Below w.heap.size w w1) {a : Addr} {v : Value} (hc : w.cell? a = some v) : w1.cell? a = some v := (h.cell (World.block_lt_of_cell? w a hc)).trans hc

theorem Sents.below {E : Nat → Addr} {w w' : World} (h : Sents E w) (hb : Below w.heap.size w w') : Sents E w' :=
  ⟨cell_below hb h.et, cell_below hb h.c1, cell_below hb h.c2, cell_below hb h.c3, cell_below hb h.c4, cell_below hb h.c5, cell_below hb h.c6, cell_below hb h.c7, cell_below hb h.c8, cell_below hb h.c9, cell_below hb h.c10, cell_below hb h.c11, cell_below hb h.c12, cell_below hb h.c13, cell_below hb h.c14, cell_below hb h.c15, cell_below hb h.c16, cell_below hb h.c17, cell_below hb h.c18⟩

def NamedIs (E : Nat → Addr) (code : Int) (w : World) (e : Ending) (w' : World) : Prop := e = .returned (.iface 127 (.pointer (some (E code.toNat)))) ∧ w' = w
theorem NamedIs.mk {E : Nat → Addr} {code : Int} {w : World} {k : Nat} (h : code = k) : NamedIs E code w (.returned (.iface 127 (.pointer (some (E k))))) w := by
  subst h; exact ⟨by simp, rfl⟩

set_option maxHeartbeats 1000000 in
theorem Named_any (E : Nat → Addr) (code : Int) (w : World) (h1 : 1 ≤ code) (h2 : code ≤ 18) (hs : Sents E w) :
    Calls Tryd.prog 47 #[.int .i64 code] w (NamedIs E code w) := by
  obtain ⟨et, c1, c2, c3, c4, c5, c6, c7, c8, c9, c10, c11, c12, c13, c14, c15, c16, c17, c18⟩ := hs
  go_enter Tryd.func47, Tryd.ntmps47
  go_wp2
  all_goals
    simp only [beq_iff_eq, beq_eq_false_iff_ne, ne_eq] at *
    first | (exfalso; omega) | (go_ret; exact NamedIs.mk (by omega))

/-! ### errors.Is: closed facts -/
theorem isTypeOf (v : Value) (w : World) : (Extern.ReflectliteType.typeOf #[.iface 127 v]).run Tryd.prog w = .ok (.iface 111 (.agg #[.pointer (some ⟨20, 127, none⟩)])) w := by kernel_rfl
def cmpEntry : TypeId → Sem Value := fun t => do Extern.Rtype.noPackHeld "Comparable" t; pure (.bool (← typeInfo t).comparable)
theorem isComparable (w : World) : ((Extern.ReflectliteType.method cmpEntry) #[.agg #[.pointer (some ⟨20, 127, none⟩)]]).run Tryd.prog w = .ok (.bool true) w := by kernel_rfl
theorem isMethodComparable (v : Value) (w : World) : (Go.method 259 111 v "Comparable").run Tryd.prog w = .ok (104, v) w := by kernel_rfl
theorem isComp : (Tryd.prog.info? 127).map (·.comparable) = some true := by kernel_rfl
theorem isSize : (Tryd.prog.info? 147).map (·.size) = some 1 := by kernel_rfl
theorem noIsW (v : Value) (xT : TypeId) (w : World) : (Instr.typeAssert (.iface 69 v) xT 123 true).run Tryd.prog w = .ok (.tuple #[.nilIface, .bool false]) w := run_typeAssert_lacksB Tryd.underlying123 (by kernel_rfl) (by kernel_rfl) v xT w
theorem hasUnwrapW (v : Value) (xT : TypeId) (w : World) : (Instr.typeAssert (.iface 69 v) xT 118 true).run Tryd.prog w = .ok (.tuple #[.iface 69 v, .bool true]) w := run_typeAssert_hasB Tryd.underlying118 (by kernel_rfl) v xT w
theorem methodUnwrap (v : Value) (w : World) : (Go.method 259 69 v "Unwrap").run Tryd.prog w = .ok (97, v) w := by kernel_rfl

/-- errors.Is(e, x), e a fault around x itself. -/
theorem is_fault_same (b : Nat) (s : Addr) (w : World) (h1 : w.cell? ⟨b, 1, none⟩ = some (.iface 127 (.pointer (some s)))) :
    Calls Tryd.prog 46 #[.iface 69 (.pointer (some ⟨b, 0, none⟩)), .iface 127 (.pointer (some s))] w fun e w' => e = .returned (.bool true) ∧ w' = w := by
  obtain ⟨i, hi, hcmp⟩ := Option.map_eq_some_iff.1 isComp
  obtain ⟨j, hj, hjs⟩ := Option.map_eq_some_iff.1 isSize
  have h8 := @run_callFunc_extern Tryd.prog 71 _ Extern.ReflectliteType.typeOf Tryd.func71 (by kernel_rfl) (by kernel_rfl) (by kernel_rfl) (by kernel_rfl)
  have h32 := @run_callFunc_extern Tryd.prog 104 _ (Extern.ReflectliteType.method cmpEntry) Tryd.func104 (by kernel_rfl) (by kernel_rfl) (by kernel_rfl) (by kernel_rfl)
  have tT := isTypeOf
  have cT := isComparable
  have mR := isMethodComparable
  have nW := noIsW
  have uW := hasUnwrapW
  have mU := methodUnwrap
  have heq := run_eql_iface_ptr_same (P := Tryd.prog) w s Tryd.underlying24 Tryd.underlying127 hi hcmp hj
  have hty := run_eql_iface_types (P := Tryd.prog) 69 127 (.pointer (some ⟨b, 0, none⟩)) (.pointer (some s)) Tryd.underlying24 (by decide) w
  go_enter Tryd.func46, Tryd.ntmps46
  go_wp2
  refine wp_loop_rounds 2 ?_
  rw [rounds_succ]
  go_wp2
  rw [rounds_succ]
  go_wp2
  go_ret
  exact ⟨rfl, rfl⟩

end Go.Proofs.YtfcfehiijainpaaDoor
