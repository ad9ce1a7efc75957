/- What the claim uses of the text Base. -/
import Derived.PlainAid
import Derived.Laws.BytesArg
import Derived.Lib.Strings
set_option linter.unusedVariables false
set_option linter.unusedSimpArgs false
namespace Go.Proofs.YtngokkebjadoiaaGreatDoor


section
open Go.PlainAid

/-- A text's bytes, as numbers. -/
def ints (t : ByteArray) : List Int := t.data.toList.map fun b => (b.toNat : Int)

theorem ints_length (t : ByteArray) : (ints t).length = t.size := by
  unfold ints
  rw [List.length_map, Array.length_toList]
  rfl
theorem ints_range (t : ByteArray) : ∀ x ∈ ints t, 0 ≤ x ∧ x ≤ 255 := by
  intro x hx
  obtain ⟨b, _, rfl⟩ := List.mem_map.1 hx
  have := b.toNat_lt
  omega
theorem bt_ints (t : ByteArray) (k : Nat) : bt t k = (ints t).getD k 0 := by
  unfold bt ints
  split
  · rename_i h
    rw [List.getD_eq_getElem?_getD, List.getElem?_map]
    have h' : k < t.data.toList.length := by rw [Array.length_toList]; exact h
    rw [List.getElem?_eq_getElem h']
    rfl
  · rename_i h
    rw [List.getD_eq_getElem?_getD, List.getElem?_eq_none (by rw [List.length_map, Array.length_toList]; exact Nat.le_of_not_lt h)]
    rfl
theorem ints_append (a b : ByteArray) : ints (a ++ b) = ints a ++ ints b := by
  simp [ints]
theorem ints_extract (s : ByteArray) (i j : Nat) : ints (s.extract i j) = ((ints s).take j).drop i := by
  unfold ints
  rw [Lib.extract_data, ← List.map_take, ← List.map_drop, List.drop_take]
theorem ints_inj {a b : ByteArray} (h : ints a = ints b) : a = b := by
  unfold ints at h
  have hb : ∀ l m : List UInt8, l.map (fun b => (b.toNat : Int)) = m.map (fun b => (b.toNat : Int)) → l = m := by
    intro l
    induction l with
    | nil => intro m h; cases m with
      | nil => rfl
      | cons y m => simp at h
    | cons x l ih => intro m h; cases m with
      | nil => simp at h
      | cons y m =>
        simp only [List.map_cons, List.cons.injEq] at h
        rw [ih m h.2]
        congr 1
        exact UInt8.toNat_inj.1 (by omega)
  have := hb _ _ h
  cases a; cases b
  simp at this ⊢
  exact this
theorem toList_ints (a b : ByteArray) : a.toList = b.toList ↔ ints a = ints b := by
  rw [ByteArray.toList_eq, ByteArray.toList_eq]
  constructor
  · intro h; unfold ints; rw [h]
  · intro h; rw [ints_inj h]
theorem ints_nums (xs : List Int) (h : ∀ x ∈ xs, 0 ≤ x ∧ x ≤ 255) : ints (strOfNums xs) = xs := by
  unfold ints
  rw [strOfNums_data, List.map_map]
  conv => rhs; rw [← List.map_id xs]
  apply List.map_congr_left
  intro x hx
  have := h x hx
  simp
  omega
end
end Go.Proofs.YtngokkebjadoiaaGreatDoor

