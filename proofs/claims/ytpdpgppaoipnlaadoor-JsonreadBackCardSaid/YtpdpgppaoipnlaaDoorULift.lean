/- What the claim uses of the text Lift. -/
import Derived.Test.YtpdpgppaoipnlaaDoorRows
import Derived.Test.YtpdpgppaoipnlaaDoorUErrs
import Derived.ProofKit
import Derived.LaidMore
import Derived.LaidHandle
import Derived.OpenShut
import Derived.Stop.Joined
import Derived.Stop.LaidErr
import Derived.Carry
import Derived.Test.YtpdpgppaoipnlaaDoorUWWords
import Derived.SliceStrings
set_option linter.unusedVariables false
set_option linter.unusedSimpArgs false
namespace Go.Proofs.YtpdpgppaoipnlaaDoor
section
open Go.ChangeShapes Go.WideShapes Go.ChangeAt Go.RowKit

theorem own : ownKnob Tryd.prog.godebug = none := by kernel_rfl
theorem laidOut : laidOutB Tryd.prog = true := by kernel_rfl

theorem rtypeOf : (Tryd.prog.cutTypes.find? (·.1 == "internal/reflectlite.rtype")).map (·.2) = some 137 := by kernel_rfl
theorem gType : Tryd.prog.globalNamed "errors.errorType" = some 3 := by kernel_rfl
theorem typesSize : Tryd.prog.types.size = 211 := by kernel_rfl
theorem oneRow : ((List.range 211).filter fun t => Tryd.prog.rowNamed t [101, 114, 114, 111, 114]) = [28] := by kernel_rfl
theorem handleIs : typeHandle Tryd.prog 28 = .pointer (some ⟨23, 28, none⟩) := by kernel_rfl

theorem row_err : ∀ u, Tryd.prog.typeName? 3 u = some "*errors.errorString" → u = 180 :=
  fun u hu => typeName_ptr_named (nm := "errors.errorString") (tp := 180) (by kernel_rfl) (by kernel_rfl) (by decide) u hu

theorem cells_err : Tryd.prog.cellsOf 199 = 1 := by kernel_rfl
theorem cells_str : Tryd.prog.cellsOf 9 = 1 := by kernel_rfl

theorem sent_head {n : String} {text : List UInt8} {r : List (String × DataW Unit)} {W : World} {g : Nat}
    (h : laidMet Tryd.prog ((n, .iface "*errors.errorString" (.ptr (.agg [.lit (.string text)]))) :: r) W)
    (hg : Tryd.prog.globalNamed n = some g) (ht : (Tryd.prog.globals[g]?).map (·.type) = some 28) :
    (∃ a : Addr, W.cell? ⟨g, 0, none⟩ = some (.iface 180 (.pointer (some a)))) ∧ laidMet Tryd.prog r W := by
  obtain ⟨a, s, hv, _⟩ := laid_sentinel h hg ht Tryd.underlying28 row_err Tryd.underlying180 Tryd.underlying199 rfl rfl Tryd.underlying9 cells_err cells_str
  exact ⟨⟨a, by simpa using World.var?_cell hg hv 0⟩, h.tail⟩

/-- errors.errorType, by what the row lays. -/
theorem et_of_laid {W : World} {ld : DataW Unit} (hld : ld = Rows.laid_errors_errorType) (hh : handlesMet Tryd.prog [("errors.errorType", ld)] W) : W.cell? ⟨3, 0, none⟩ = some (.iface 137 (.agg #[.pointer (some ⟨23, 28, none⟩)])) := by
  subst hld
  obtain ⟨name, u, ty, e1, e2, e3, e4, e5⟩ := hh _ (List.mem_singleton.2 rfl)
  have en : name = [101, 114, 114, 111, 114] := (Option.some.inj e1).symm
  subst en
  obtain rfl := Option.some.inj (rtypeOf.symm.trans e2)
  have hm : ty ∈ (List.range 211).filter fun t => Tryd.prog.rowNamed t [101, 114, 114, 111, 114] := List.mem_filter.2 ⟨List.mem_range.2 (by rw [← typesSize]; exact e3), e4⟩
  rw [oneRow] at hm
  obtain rfl := List.mem_singleton.1 hm
  rw [handleIs] at e5
  simpa using World.var?_cell gType e5 0
end

section
open Go.ChangeShapes Go.WideShapes Go.ChangeAt Go.RowKit Go.WideMaps Go.WideElems
open Go.Proofs.YtpdpgppaoipnlaaDoorW.PrintWords

theorem C_of_cells {α : Type} {enc : α → Value} {h1 : ∀ x, (enc x).oneCell' = true} (w : World) (a : Addr) (n : Nat) (xs : List α) (hn : xs.length = n) (hm : n ≤ 9223372036854775807) (z : α)
    (hc : ∀ i, i < n → w.cell? (a.add i) = some (enc (xs.getD i z))) : (Kd.scalar enc h1).C w (some a) n xs := by
  refine ⟨hn, hm, fun _ => ⟨a, rfl, fun j p hj => ⟨[enc p], rfl, rfl, fun i u hu => ?_⟩⟩⟩
  have hjl : j < n := by rw [← hn]; exact (List.getElem?_eq_some_iff.1 hj).1
  cases i with
  | zero =>
    simp at hu
    subst hu
    have := hc j hjl
    rw [List.getD_eq_getElem?_getD, hj] at this
    simpa [Kd.scalar] using this
  | succ i => simp at hu
theorem C_nil {α : Type} (d : Kd α) (w : World) (A : Option Addr) : d.C w A 0 [] := ⟨rfl, by omega, fun h => by omega⟩

set_option maxRecDepth 100000 in
theorem open_Cints {H : Type} {enc : TypeId × Value → H} {t e : TypeId} {k : IntKind} {W : World} {v : Value} {d : DataW H} {ps : List MemPlace} {r : Reach} {base : Nat} (ht : Tryd.prog.underlying t = some (.slice e)) (he : Tryd.prog.underlying e = some (.int k)) (hc : Tryd.prog.cellsOf e = 1)
    (hv : Value.okWide Tryd.prog W r base t v) (h : DataW.Trod enc Tryd.prog W 0 (fun _ => true) true t v d ps) :
    ∃ (A : Option Addr) (c : Nat) (xs : List Int), v = .slice A xs.length c ∧ xs.length ≤ c ∧ (Kd.int k).C W A xs.length xs ∧ ∀ x ∈ xs, (Lit.int k x).wf = true := by
  obtain ⟨a0, len, cap, rfl⟩ := okWide_slice ht hv
  obtain ⟨fuel, hf⟩ := h
  rcases open_ints ht he hc hf with ⟨hcs, _⟩ | ⟨a, len', cap', zs, hcs, _, hl, hm, hz, _, hcell, hwz⟩
  · simp [Value.cells] at hcs
    obtain ⟨rfl, rfl, rfl⟩ := hcs
    exact ⟨none, 0, [], rfl, Nat.le_refl _, C_nil _ _ _, by simp⟩
  · simp [Value.cells] at hcs
    obtain ⟨rfl, rfl, rfl⟩ := hcs
    have hz' : zs.length = cap := by simpa using hz
    have ht : (zs.take len).length = len := by rw [List.length_take]; omega
    unfold maxLen at hm
    refine ⟨some a, cap, zs.take len, by rw [ht], by rw [ht]; exact hl, ?_, fun x hx => hwz x (List.mem_of_mem_take hx)⟩
    rw [ht]
    refine C_of_cells W a len (zs.take len) ht (by omega) 0 (fun i hi => ?_)
    rw [hcell i (by omega), List.getD_eq_getElem?_getD, List.getD_eq_getElem?_getD, List.getElem?_take, if_pos hi]

end
end Go.Proofs.YtpdpgppaoipnlaaDoor

