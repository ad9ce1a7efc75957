/- What the claim uses of the text LL. -/
import Derived.Test.YtangheahliekeaaGreatDoorRows
import Derived.Test.YtangheahliekeaaGreatDoorVLF
import Derived.ProofKit
import Derived.LaidMore
import Derived.LaidHandle
import Derived.OpenShut
import Derived.Stop.Joined
import Derived.Stop.LaidErr
import Derived.Carry
import Derived.SliceStrings
import Derived.Deep.Slices
import Derived.SizedLaws
import Derived.Lib.LaidTab
set_option linter.unusedVariables false
set_option linter.unusedSimpArgs false
namespace Go.Proofs.YtangheahliekeaaGreatDoor
section
open Go.ChangeShapes Go.WideShapes Go.ChangeAt Go.RowKit

theorem own : ownKnob Tryz.prog.godebug = none := by kernel_rfl
theorem laidOut : laidOutB Tryz.prog = true := by kernel_rfl
theorem row_err : ∀ u, Tryz.prog.typeName? 3 u = some "*errors.errorString" → u = 358 :=
  fun u hu => typeName_ptr_named (nm := "errors.errorString") (tp := 358) (by kernel_rfl) (by kernel_rfl) (by decide) u hu
theorem cells_err : Tryz.prog.cellsOf 376 = 1 := by kernel_rfl
theorem cells_str : Tryz.prog.cellsOf 9 = 1 := by kernel_rfl
theorem sent_head {n : String} {text : List UInt8} {r : List (String × DataW Unit)} {W : World} {g : Nat}
    (h : laidMet Tryz.prog ((n, .iface "*errors.errorString" (.ptr (.agg [.lit (.string text)]))) :: r) W)
    (hg : Tryz.prog.globalNamed n = some g) (ht : (Tryz.prog.globals[g]?).map (·.type) = some 124) :
    (∃ a : Addr, W.cell? ⟨g, 0, none⟩ = some (.iface 358 (.pointer (some a)))) ∧ laidMet Tryz.prog r W := by
  obtain ⟨a, s, hv, _⟩ := laid_sentinel h hg ht Tryz.underlying124 row_err Tryz.underlying358 Tryz.underlying376 rfl rfl Tryz.underlying9 cells_err cells_str
  exact ⟨⟨a, by simpa using World.var?_cell hg hv 0⟩, h.tail⟩
end

section
open Go.ChangeShapes Go.WideShapes Go.ChangeAt Go.RowKit Go.WideMaps Go.WideElems
open Go.Proofs.YtangheahliekeaaGreatDoorW.PrintWords
theorem cells_i : Tryz.prog.cellsOf 3 = 1 := by kernel_rfl
theorem cells_b : Tryz.prog.cellsOf 4 = 1 := by kernel_rfl
theorem cells_u8 : Tryz.prog.cellsOf 5 = 1 := by kernel_rfl
theorem cells_arr : Tryz.prog.cellsOf 22 = 16 := by kernel_rfl
theorem cells_pre : Tryz.prog.cellsOf 24 = 18 := by kernel_rfl
section
variable {H : Type} {enc : TypeId × Value → H} {W : World} {cs : List Value} {x : DataW H × List MemPlace} {n : Nat}
set_option maxRecDepth 100000 in
theorem trod_arr (h : DataW.trod enc Tryz.prog W 0 (fun _ => true) true n 22 cs = some x) : ∃ f : Nat → Nat, (∀ i, i < 16 → f i < 256) ∧ cs = (arr f).toList := by
  obtain ⟨xs, m, rfl, rfl, hl, hlen, hf⟩ := DataW.trod_array Tryz.underlying22 h
  rw [cells_arr] at hl
  simp only [cells_u8] at hf
  have hc : ∀ i, i < 16 → ∃ k : Nat, k < 256 ∧ cs[i]? = some (.int .u8 k) := by
    intro i hi
    have h1 := hf i hi
    rw [List.getElem?_eq_getElem (by rw [hlen]; exact hi), Nat.mul_one] at h1
    obtain ⟨z, e1, _, hw⟩ := DataW.trod_int Tryz.underlying5 h1
    have hb := bounds_u8 hw
    refine ⟨z.toNat, by omega, ?_⟩
    have h2 := congrArg (·[0]?) e1
    simp only [List.getElem?_take, List.getElem?_drop, List.getElem?_cons_zero, Nat.lt_one_iff, if_true, Nat.add_zero] at h2
    rw [h2]
    congr 2
    omega
  obtain ⟨f, hf2⟩ := Go.Deep.choose_lt hc
  refine ⟨f, fun i hi => (hf2 i hi).1, ?_⟩
  apply List.ext_getElem?
  intro i
  by_cases hi : i < 16
  · rw [(hf2 i hi).2, Array.getElem?_toList, arr_get f i hi]
  · rw [List.getElem?_eq_none (by omega), List.getElem?_eq_none (by rw [Array.length_toList, arr_size]; omega)]
set_option maxRecDepth 100000 in
theorem trod_prefix (h : DataW.trod enc Tryz.prog W 0 (fun _ => true) true n 24 cs = some x) : ∃ p : PV, (∀ i, i < 16 → p.addr i < 256) ∧ cs = (preA p).toList := by
  obtain ⟨xs, m, rfl, rfl, hl, hlen, hf⟩ := DataW.trod_struct Tryz.underlying24 h
  rw [cells_pre] at hl
  match xs, hlen with
  | [y0, y1, y2], _ =>
    have h0 := (show DataW.trod enc Tryz.prog W 0 (fun _ => true) true m 4 (List.take (Tryz.prog.cellsOf 4) (List.drop 0 cs)) = some y0 from hf 0 _ rfl)
    have h1 := (show DataW.trod enc Tryz.prog W 0 (fun _ => true) true m 22 (List.take (Tryz.prog.cellsOf 22) (List.drop 1 cs)) = some y1 from hf 1 _ rfl)
    have h2 := (show DataW.trod enc Tryz.prog W 0 (fun _ => true) true m 3 (List.take (Tryz.prog.cellsOf 3) (List.drop 17 cs)) = some y2 from hf 2 _ rfl)
    simp only [cells_b, cells_arr, cells_i] at h0 h1 h2
    obtain ⟨b, e0, _⟩ := DataW.trod_bool Tryz.underlying4 h0
    obtain ⟨f, hf3, e1⟩ := trod_arr h1
    obtain ⟨z, e2, _⟩ := DataW.trod_int Tryz.underlying3 h2
    refine ⟨⟨b, f, z⟩, hf3, ?_⟩
    have e : cs = List.take 1 (List.drop 0 cs) ++ (List.take 16 (List.drop 1 cs) ++ List.take 1 (List.drop 17 cs)) := by
      match cs, hl with
      | [c0, c1, c2, c3, c4, c5, c6, c7, c8, c9, c10, c11, c12, c13, c14, c15, c16, c17], _ => rfl
    rw [e, e0, e1, e2]
    simp [preA, arr]
end
set_option maxRecDepth 100000 in
/-- A network as an argument. -/
theorem open_prefix {H : Type} {enc : TypeId × Value → H} {W : World} {v : Value} {d : DataW H} {ps : List MemPlace} {r : Reach} {base : Nat} (hv : Value.okWide Tryz.prog W r base 24 v) (h : DataW.Trod enc Tryz.prog W 0 (fun _ => true) true 24 v d ps) :
    ∃ p : PV, v = .agg (preA p) ∧ (∀ i, i < 16 → p.addr i < 256) := by
  obtain ⟨cs, rfl, _⟩ := okWide_struct Tryz.underlying24 hv
  obtain ⟨fuel, hf⟩ := h
  obtain ⟨p, h1, e⟩ := trod_prefix hf
  refine ⟨p, ?_, h1⟩
  congr 1
  apply Array.ext'
  exact e
end
end Go.Proofs.YtangheahliekeaaGreatDoor

