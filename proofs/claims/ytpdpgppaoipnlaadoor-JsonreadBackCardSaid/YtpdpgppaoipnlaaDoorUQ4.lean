/- What the claim uses of the text Q4. -/
import Derived.Test.YtpdpgppaoipnlaaDoorUQ3
import Derived.Test.YtpdpgppaoipnlaaDoorUR3
import Derived.Deep.RegionHeld3
set_option linter.unusedVariables false
set_option linter.unusedSimpArgs false
namespace Go.Proofs.YtpdpgppaoipnlaaDoor
open Go.RowKit Go.PlainAid
open Go.Proofs.YtpdpgppaoipnlaaDoorW.PrintWords hiding bt
open Go.Proofs.YtpdpgppaoipnlaaDoorW.PrintMore

/-- What Check tells: nothing, of a right value; or a fault. -/
theorem Check_tells {E : Nat → Addr} (n : Nat) (x : JV) (cs : List Value) (w : World) (hs : Sents E w) (hk : (jd n).K w x cs) (ht : totV x ≤ 100000) :
    Calls Tryd.prog 25 #[.agg cs.toArray] w fun e w' => ((okV x 1 = true ∧ e = .returned .nilIface) ∨ (okV x 1 = false ∧ ∃ q, e = .returned (.iface 69 (.pointer (some q))))) ∧ Hid (Below w.heap.size w w') := by
  refine (Check_any (E := E) n x cs w hs hk ht).mono ?_
  rintro e w' ⟨v, rfl, h1, h2⟩
  cases ho : okV x 1 with
  | true =>
    obtain ⟨_, rfl⟩ := Or.resolve_right h1.out (fun h => absurd h.1 (by rw [(chk_ok x).2 ho]; omega))
    exact ⟨.inl ⟨rfl, rfl⟩, h2⟩
  | false =>
    have hne : (chk x).2 ≠ 0 := fun h => by rw [(chk_ok x).1 h] at ho; cases ho
    obtain ⟨_, _, q, rfl, _, _⟩ := Or.resolve_left h1.out (fun h => hne h.1)
    exact ⟨.inr ⟨rfl, _, rfl⟩, h2⟩

end Go.Proofs.YtpdpgppaoipnlaaDoor

