/- What the claim uses of the text UtfX. -/
import Derived.Test.YtpdpgppaoipnlaaDoorVUtf
import Derived.Test.YtpdpgppaoipnlaaDoorVPct
import Derived.Test.YtpdpgppaoipnlaaDoorVPAllx0
import Derived.StillTailTactics
import Derived.Deep.RegionWith
import Derived.Test.YtpdpgppaoipnlaaDoorVUtfLaw
import Derived.Test.YtpdpgppaoipnlaaDoorVRef
set_option linter.unusedVariables false
set_option linter.unusedSimpArgs false
namespace Go.Proofs.YtpdpgppaoipnlaaDoor
section
open Go.RowKit Go.PlainAid

/-- A builder of the call's own holds these bytes. -/
def Bld (B b : Nat) (bs : List Int) (w : World) : Prop := (∀ x ∈ bs, 0 ≤ x ∧ x ≤ 255) ∧ Lib.IsBuilder 92 5 B b (bs.map (Value.int .u8)) w

theorem Bld.drewN {B b : Nat} {bs : List Int} {w : World} (h : Bld B b bs w) (n : Nat) : Bld B b bs (w.drewN n) := h

end

section
open Go.RowKit Go.Proofs.YtpdpgppaoipnlaaDoorW.PrintWords Go.Proofs.YtpdpgppaoipnlaaDoorW.PrintMore

theorem Bld.text {b : Nat} {bs : List Int} {w0 w : World} (h : Bld w0.heap.size b bs w) (hb : Below w0.heap.size w0 w) :
    Calls Tryd.prog 67 #[.pointer (some ⟨b, 0, none⟩)] w fun e w' => e = .returned (.string (strOfNums bs)) ∧ Hid (Below w0.heap.size w0 w') := build_text h.1 h.2 hb

end


end Go.Proofs.YtpdpgppaoipnlaaDoor

