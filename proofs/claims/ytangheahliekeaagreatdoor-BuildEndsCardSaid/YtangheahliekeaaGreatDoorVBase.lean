/- What the claim uses of the text Base. -/
import Derived.PlainAid
import Derived.Laws.BytesArg
import Derived.Lib.Strings
set_option linter.unusedVariables false
set_option linter.unusedSimpArgs false
namespace Go.Proofs.YtangheahliekeaaGreatDoor


section
open Go.PlainAid

/-- A text's bytes, as numbers. -/
def ints (t : ByteArray) : List Int := t.data.toList.map fun b => (b.toNat : Int)

theorem ints_inj {a b : ByteArray} (h : ints a = ints b) : a = b := by
  unfold ints at h
  have hb : ∀ l m : List UInt8, l.map (fun b => (b.toNat : Int)) = m.map (fun b => (b.toNat : Int)) → l = m := by
    intro l
    induction l with
    | nil => intro m h; cases m with
      | nil => rfl
      | cons y m => simp at h
    | cons x l ih => intro m h; cases m with
      | nil => simp at h
      | cons y m =>
        simp only [List.map_cons, List.cons.injEq] at h
        rw [ih m h.2]
        congr 1
        exact UInt8.toNat_inj.1 (by omega)
  have := hb _ _ h
  cases a; cases b
  simp at this ⊢
  exact this
theorem ints_nums (xs : List Int) (h : ∀ x ∈ xs, 0 ≤ x ∧ x ≤ 255) : ints (strOfNums xs) = xs := by
  unfold ints
  rw [strOfNums_data, List.map_map]
  conv => rhs; rw [← List.map_id xs]
  apply List.map_congr_left
  intro x hx
  have := h x hx
  simp
  omega
end
end Go.Proofs.YtangheahliekeaaGreatDoor

