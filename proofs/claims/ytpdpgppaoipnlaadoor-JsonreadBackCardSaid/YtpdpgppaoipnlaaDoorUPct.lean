/- What the claim uses of the text Pct. -/
import Derived.Test.YtpdpgppaoipnlaaDoorUBase
import Derived.Test.YtpdpgppaoipnlaaDoorUUtf
import Derived.Lib.Hide
import Derived.Deep.QuietTactic
import Derived.BigQuiet
import Derived.Test.YtpdpgppaoipnlaaDoorUBuild
import Derived.Test.YtpdpgppaoipnlaaDoorUPAllx0
set_option linter.unusedVariables false
set_option linter.unusedSimpArgs false
namespace Go.Proofs.YtpdpgppaoipnlaaDoor

section
open Go.RowKit Go.PlainAid

theorem byteCells_nums (bs : List Int) (h : ∀ x ∈ bs, 0 ≤ x ∧ x ≤ 255) : Lib.byteCells (bs.map fun n => UInt8.ofNat n.toNat) = bs.map (Value.int .u8) := by
  unfold Lib.byteCells
  rw [List.map_map]
  apply List.map_congr_left
  intro x hx
  have := h x hx
  simp
  omega

theorem build_text {b : Nat} {bs : List Int} {w0 w : World} (h : ∀ x ∈ bs, 0 ≤ x ∧ x ≤ 255) (hb : Lib.IsBuilder 92 5 w0.heap.size b (bs.map (Value.int .u8)) w) (hw : Below w0.heap.size w0 w) :
    Calls Tryd.prog 67 #[.pointer (some ⟨b, 0, none⟩)] w fun e w' => e = .returned (.string (strOfNums bs)) ∧ Below w0.heap.size w0 w' := by
  refine (Builder_String_any w0.heap.size b (bs.map fun n => UInt8.ofNat n.toNat) w (by rw [byteCells_nums bs h]; exact hb) hw.size).mono ?_
  rintro e w' ⟨rfl, h2⟩
  exact ⟨rfl, hw.trans h2⟩

end


end Go.Proofs.YtpdpgppaoipnlaaDoor

