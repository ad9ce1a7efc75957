/- What the claim uses of the text M4. -/
import Derived.Test.YtpdpgppaoipnlaaDoorUM3
import Derived.Test.YtpdpgppaoipnlaaDoorUQ1
set_option linter.unusedVariables false
set_option linter.unusedSimpArgs false
namespace Go.Proofs.YtpdpgppaoipnlaaDoor
open Go.ChangeShapes Go.WideShapes Go.ChangeAt Go.RowKit Go.WideMaps Go.WideElems
open Go.Proofs.YtpdpgppaoipnlaaDoorW.PrintWords
set_option maxRecDepth 100000 in
/-- Values as an argument. -/
theorem open_values2 {H : Type} {enc : TypeId × Value → H} {W : World} {v : Value} {d : DataW H} {ps : List MemPlace} {r : Reach} {base : Nat} (hv : Value.okWide Tryd.prog W r base 23 v) (h : DataW.Trod enc Tryd.prog W 0 (fun _ => true) true 23 v d ps)
    {ts : List TypeId} {ds : List (DataW H)} (hw : (DataW.weightsEach Tryd.prog ts ds).all (· ≤ reachBytes) = true) {j : Nat} (ht : ts[j]? = some 23) (hd : ds[j]? = some d) :
    ∃ (n : Nat) (A : Option Addr) (c : Nat) (xs : List JV), v = .slice A xs.length c ∧ xs.length ≤ c ∧ (A = none → c = 0) ∧ (jd n).C W A xs.length xs ∧ szL reachBytes xs := by
  obtain ⟨n, A, c, xs, e, h1, h2, h3⟩ := open_values hv h hw ht hd
  refine ⟨n, A, c, xs, e, h1, ?_, h2, h3⟩
  rintro rfl
  subst e
  obtain ⟨fuel, hf⟩ := h
  rcases DataW.trod_slice Tryd.underlying23 hf with ⟨e1, _⟩ | ⟨a, len, cap, elems, rest, m, _, e1, _⟩
  · simp [Value.cells] at e1
    exact e1.2
  · simp [Value.cells] at e1
end Go.Proofs.YtpdpgppaoipnlaaDoor

