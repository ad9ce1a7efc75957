/- What the claim uses of the text T5. -/
import Derived.Test.YtpdpgppaoipnlaaDoorUT3
import Derived.Test.YtpdpgppaoipnlaaDoorUK5
import Derived.Deep.RegionHeld3
set_option linter.unusedVariables false
set_option linter.unusedSimpArgs false
namespace Go.Proofs.YtpdpgppaoipnlaaDoor
open Go.RowKit Go.PlainAid
open Go.Proofs.YtpdpgppaoipnlaaDoorW.PrintWords hiding bt
open Go.Proofs.YtpdpgppaoipnlaaDoorW.PrintMore

theorem okL_at' : ∀ (l : List JV) (lev : Int), okL l lev = true → ∀ k, k < l.length → okV (l.getD k jz) lev = true
  | x :: l, lev, h, 0, _ => by rw [okL, Bool.and_eq_true] at h; exact h.1
  | x :: l, lev, h, k + 1, hk => by rw [okL, Bool.and_eq_true] at h; simpa using okL_at' l lev h.2 k (by simpa using hk)
theorem okM_at' : ∀ (l : List (ByteArray × JV)) (lev : Int), okM l lev = true → ∀ k, k < l.length → okV (l.getD k (⟨#[]⟩, jz)).2 lev = true
  | (n, x) :: l, lev, h, 0, _ => by rw [okM, Bool.and_eq_true] at h; exact h.1
  | (n, x) :: l, lev, h, k + 1, hk => by rw [okM, Bool.and_eq_true] at h; simpa using okM_at' l lev h.2 k (by simpa using hk)

end Go.Proofs.YtpdpgppaoipnlaaDoor

