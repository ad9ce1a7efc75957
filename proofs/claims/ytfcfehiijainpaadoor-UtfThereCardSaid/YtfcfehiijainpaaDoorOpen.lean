/- Slices that come in, as rows that are read. -/
import Derived.Test.YtfcfehiijainpaaDoorLaid
import Derived.Test.YtfcfehiijainpaaDoorWWords
import Derived.SliceStrings
set_option linter.unusedVariables false
set_option linter.unusedSimpArgs false
namespace Go.Proofs.YtfcfehiijainpaaDoor
open Go.ChangeShapes Go.WideShapes Go.ChangeAt Go.RowKit Go.WideMaps Go.WideElems
open Go.Proofs.YtfcfehiijainpaaDoorW.PrintWords

theorem C_of_cells {α : Type} {enc : α → Value} {h1 : ∀ x, (enc x).oneCell' = true} (w : World) (a : Addr) (n : Nat) (xs : List α) (hn : xs.length = n) (hm : n ≤ 9223372036854775807) (z : α)
    (hc : ∀ i, i < n → w.cell? (a.add i) = some (enc (xs.getD i z))) : (Kd.scalar enc h1).C w (some a) n xs := by
  refine ⟨hn, hm, fun _ => ⟨a, rfl, fun j p hj => ⟨[enc p], rfl, rfl, fun i u hu => ?_⟩⟩⟩
  have hjl : j < n := by rw [← hn]; exact (List.getElem?_eq_some_iff.1 hj).1
  cases i with
  | zero =>
    simp at hu
    subst hu
    have := hc j hjl
    rw [List.getD_eq_getElem?_getD, hj] at this
    simpa [Kd.scalar] using this
  | succ i => simp at hu
theorem C_nil {α : Type} (d : Kd α) (w : World) (A : Option Addr) : d.C w A 0 [] := ⟨rfl, by omega, fun h => by omega⟩

set_option maxRecDepth 100000 in
theorem open_Cints {H : Type} {enc : TypeId × Value → H} {t e : TypeId} {k : IntKind} {W : World} {v : Value} {d : DataW H} {ps : List MemPlace} {r : Reach} {base : Nat} (ht : Tryd.prog.underlying t = some (.slice e)) (he : Tryd.prog.underlying e = some (.int k)) (hc : Tryd.prog.cellsOf e = 1)
    (hv : Value.okWide Tryd.prog W r base t v) (h : DataW.Trod enc Tryd.prog W 0 (fun _ => true) true t v d ps) :
    ∃ (A : Option Addr) (c : Nat) (xs : List Int), v = .slice A xs.length c ∧ xs.length ≤ c ∧ (Kd.int k).C W A xs.length xs ∧ ∀ x ∈ xs, (Lit.int k x).wf = true := by
  obtain ⟨a0, len, cap, rfl⟩ := okWide_slice ht hv
  obtain ⟨fuel, hf⟩ := h
  rcases open_ints ht he hc hf with ⟨hcs, _⟩ | ⟨a, len', cap', zs, hcs, _, hl, hm, hz, _, hcell, hwz⟩
  · simp [Value.cells] at hcs
    obtain ⟨rfl, rfl, rfl⟩ := hcs
    exact ⟨none, 0, [], rfl, Nat.le_refl _, C_nil _ _ _, by simp⟩
  · simp [Value.cells] at hcs
    obtain ⟨rfl, rfl, rfl⟩ := hcs
    have hz' : zs.length = cap := by simpa using hz
    have ht : (zs.take len).length = len := by rw [List.length_take]; omega
    unfold maxLen at hm
    refine ⟨some a, cap, zs.take len, by rw [ht], by rw [ht]; exact hl, ?_, fun x hx => hwz x (List.mem_of_mem_take hx)⟩
    rw [ht]
    refine C_of_cells W a len (zs.take len) ht (by omega) 0 (fun i hi => ?_)
    rw [hcell i (by omega), List.getD_eq_getElem?_getD, List.getD_eq_getElem?_getD, List.getElem?_take, if_pos hi]

set_option maxRecDepth 100000 in
theorem open_Cstrs {H : Type} {enc : TypeId × Value → H} {t e : TypeId} {W : World} {v : Value} {d : DataW H} {ps : List MemPlace} {r : Reach} {base : Nat} (ht : Tryd.prog.underlying t = some (.slice e)) (he : Tryd.prog.underlying e = some .string) (hc : Tryd.prog.cellsOf e = 1)
    (hv : Value.okWide Tryd.prog W r base t v) (h : DataW.Trod enc Tryd.prog W 0 (fun _ => true) true t v d ps) :
    ∃ (A : Option Addr) (c : Nat) (xs : List ByteArray), v = .slice A xs.length c ∧ xs.length ≤ c ∧ Kd.string.C W A xs.length xs := by
  obtain ⟨a0, len, cap, rfl⟩ := okWide_slice ht hv
  obtain ⟨fuel, hf⟩ := h
  rcases open_strings ht he hc hf with ⟨hcs, _⟩ | ⟨a, len', cap', zs, hcs, _, hl, hm, hz, _, hcell, hwz⟩
  · simp [Value.cells] at hcs
    obtain ⟨rfl, rfl, rfl⟩ := hcs
    exact ⟨none, 0, [], rfl, Nat.le_refl _, C_nil _ _ _⟩
  · simp [Value.cells] at hcs
    obtain ⟨rfl, rfl, rfl⟩ := hcs
    have hz' : zs.length = cap := by simpa using hz
    have ht : (zs.take len).length = len := by rw [List.length_take]; omega
    unfold maxLen at hm
    refine ⟨some a, cap, zs.take len, by rw [ht], by rw [ht]; exact hl, ?_⟩
    rw [ht]
    refine C_of_cells W a len (zs.take len) ht (by omega) ByteArray.empty (fun i hi => ?_)
    rw [hcell i (by omega), List.getD_eq_getElem?_getD, List.getD_eq_getElem?_getD, List.getElem?_take, if_pos hi]
end Go.Proofs.YtfcfehiijainpaaDoor
