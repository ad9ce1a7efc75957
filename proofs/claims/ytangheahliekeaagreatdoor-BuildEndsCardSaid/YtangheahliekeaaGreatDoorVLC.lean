/- What the claim uses of the text LC. -/
import Derived.Test.YtangheahliekeaaGreatDoorVL9
import Derived.Test.YtangheahliekeaaGreatDoorVLA
import Derived.StillTailTactics
set_option linter.unusedVariables false
set_option linter.unusedSimpArgs false
namespace Go.Proofs.YtangheahliekeaaGreatDoor
open Go.RowKit Go.PlainAid
open Go.Proofs.YtangheahliekeaaGreatDoorW.PrintWords hiding bt
open Go.Proofs.YtangheahliekeaaGreatDoorW.PrintMore

theorem preA_one (p : PV) : (preA p).all (·.oneCell') = true := by
  have h : ∀ x : Int, ∀ k : IntKind, (Value.int k x).oneCell' = true := fun _ _ => rfl
  have hb : ∀ x : Bool, (Value.bool x).oneCell' = true := fun _ => rfl
  rw [preA_lit]
  simp [h, hb]
/-- A network is stored whole. -/
theorem pre_st {b : Nat} {old : Array Value} {p : PV} {W : World} (H : Row 24 b old W) (ho : old.size = 18) : (Instr.storeAt 24 (.pointer (some ⟨b, 0, none⟩)) (.agg (preA p))).run Tryz.prog W = .ok () (W.setRow b (preA p)) := by
  simp only [Instr.storeAt, Instr.sureAddr, Sem.run_bind, Sem.run_pure, Result.andThen_ok]
  exact run_storeVar_row W b _ _ _ _ H (by rw [preA_size]; exact info_pre) (by rw [ho, preA_size]) (preA_one p)
theorem PreAt.setBits {b : Nat} {p : PV} {W : World} (h : PreAt b p W) (x : Int) : PreAt b ⟨p.six, p.addr, x⟩ (W.setCell ⟨b, 17, none⟩ (.int .i64 x)) := by
  have h1 := Row.setCell h 17 (.int .i64 x)
  have e : (preA p).setIfInBounds 17 (.int .i64 x) = preA ⟨p.six, p.addr, x⟩ := by rw [preA_lit, preA_lit]; rfl
  rw [e] at h1
  exact h1
theorem PreAt.setByte {b : Nat} {p : PV} {W : World} (h : PreAt b p W) (i v : Nat) (hi : i < 16) : PreAt b ⟨p.six, fun j => if j = i then v else p.addr j, p.bits⟩ (W.setCell ⟨b, 1 + i, none⟩ (.int .u8 v)) := by
  have h1 := Row.setCell h (1 + i) (.int .u8 v)
  have e : (preA p).setIfInBounds (1 + i) (.int .u8 v) = preA ⟨p.six, fun j => if j = i then v else p.addr j, p.bits⟩ := by
    rw [preA_lit, preA_lit]
    have : i = 0 ∨ i = 1 ∨ i = 2 ∨ i = 3 ∨ i = 4 ∨ i = 5 ∨ i = 6 ∨ i = 7 ∨ i = 8 ∨ i = 9 ∨ i = 10 ∨ i = 11 ∨ i = 12 ∨ i = 13 ∨ i = 14 ∨ i = 15 := by omega
    rcases this with rfl | rfl | rfl | rfl | rfl | rfl | rfl | rfl | rfl | rfl | rfl | rfl | rfl | rfl | rfl | rfl <;> rfl
  rw [e] at h1
  exact h1
def z18 : Array Value := #[.bool false, .int .u8 0, .int .u8 0, .int .u8 0, .int .u8 0, .int .u8 0, .int .u8 0, .int .u8 0, .int .u8 0, .int .u8 0, .int .u8 0, .int .u8 0, .int .u8 0, .int .u8 0, .int .u8 0, .int .u8 0, .int .u8 0, .int .i64 0]
theorem sameF_refl (f : Nat → Nat) : ((List.range 16).all fun i => f i == f i) = true := by simp
theorem preA_ext (p : PV) : (preA p).extract 1 17 = arr p.addr := by
  rw [preA_lit]
  simp [arr, List.range_succ]
/-- A network is the same as itself. -/
theorem eq_pre (p : PV) (w : World) : (binOp .eql 24 (.agg (preA p)) (.agg (preA p))).run Tryz.prog w = .ok (.bool true) w := by
  have h1 : (Op.equalIn 9999 4 (.bool p.six) (.bool p.six)).run Tryz.prog w = .ok true w := by
    rw [run_equalIn_bool' w 9998 4 _ _ Tryz.underlying4]; simp
  have h2 : (Op.equalIn 9999 22 (.agg (arr p.addr)) (.agg (arr p.addr))).run Tryz.prog w = .ok true w := by
    rw [run_equalIn_arr 9997 p.addr p.addr w, sameF_refl]
  have h3 : (Op.equalIn 9999 3 (.int .i64 p.bits) (.int .i64 p.bits)).run Tryz.prog w = .ok true w := by
    rw [run_equalIn_int w 9998 3 .i64 .i64 _ _ Tryz.underlying3]; simp
  rw [run_eql_struct]
  go_simp
  simp only [preA_six, preA_bits, preA_ext, Sem.run_pure, Result.andThen_ok, h1, h2, h3, if_false, Bool.true_eq_false]
end Go.Proofs.YtangheahliekeaaGreatDoor

