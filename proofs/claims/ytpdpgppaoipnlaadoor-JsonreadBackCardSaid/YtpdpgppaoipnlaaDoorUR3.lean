/- What the claim uses of the text R3. -/
import Derived.Test.YtpdpgppaoipnlaaDoorURA
import Derived.Test.YtpdpgppaoipnlaaDoorUK5
set_option linter.unusedVariables false
set_option linter.unusedSimpArgs false
namespace Go.Proofs.YtpdpgppaoipnlaaDoor
open Go.RowKit Go.PlainAid
open Go.Proofs.YtpdpgppaoipnlaaDoorW.PrintWords hiding bt
open Go.Proofs.YtpdpgppaoipnlaaDoorW.PrintMore

/-- Text, of a right value. -/
theorem Text_ok {E : Nat → Addr} (n : Nat) (x : JV) (cs : List Value) (w : World) (hs : Sents E w) (hk : (jd n).K w x cs) (ht : totV x ≤ 100000) (ho : okV x 1 = true) :
    Calls Tryd.prog 26 #[.agg cs.toArray] w fun e w' => e = .returned (.string (strOfNums (putV x))) ∧ Hid (Below w.heap.size w w') := by
  have hl := putV_len x
  refine (Text_any (E := E) n x cs w hs hk ht (by omega)).mono ?_
  rintro e w' ⟨rfl, h2⟩
  refine ⟨?_, h2⟩
  unfold txtV
  rw [if_pos ((chk_ok x).2 ho)]

end Go.Proofs.YtpdpgppaoipnlaaDoor

