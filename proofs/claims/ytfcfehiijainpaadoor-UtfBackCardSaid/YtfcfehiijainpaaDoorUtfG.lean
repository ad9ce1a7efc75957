/- The reference's Decode and the statements' Same (as printed) come to what is told. -/
import Derived.Test.YtfcfehiijainpaaDoorUtfU
import Derived.Test.YtfcfehiijainpaaDoorPAllx6
set_option linter.unusedVariables false
set_option linter.unusedSimpArgs false
namespace Go.Proofs.YtfcfehiijainpaaDoor
open Go.RowKit Go.Proofs.YtfcfehiijainpaaDoorW.PrintWords PAll

theorem nx_code (s : ByteArray) (at_ : Int) (h0 : 0 ≤ at_) (h1 : at_ < s.size) (hc : (nx s at_).2.2 = 0) : at_ + (nx s at_).2.1 ≤ s.size ∧ 1 ≤ (nx s at_).2.1 ∧ (nx s at_).2.1 ≤ 4 := by
  have := nx_good s at_ (nx s at_).1 (nx s at_).2.1 (by rw [← hc])
  omega

theorem decode_l (s : ByteArray) (hs : s.size ≤ 1000000) : ∀ (n : Nat) (at_ : Int) (acc : List Int) (k : Nat), 0 ≤ at_ → at_ ≤ s.size → (s.size : Int) - at_ ≤ n → (acc.length : Int) ≤ at_ →
    eponymref01_Decode.l0 (k + n + 401) s acc at_ = some (dcd s n at_ acc) := by
  intro n
  induction n with
  | zero =>
    intro at_ acc k h0 h1 hn ha
    rw [show k + 0 + 401 = (k + 400) + 1 from rfl, eponymref01_Decode.l0, if_neg (by omega)]
    rfl
  | succ n ih =>
    intro at_ acc k h0 h1 hn ha
    rw [show k + (n + 1) + 401 = (k + n + 401) + 1 by omega, eponymref01_Decode.l0]
    unfold dcd
    by_cases hlt : at_ < s.size
    · rw [if_pos hlt, show k + n + 401 = (k + n + 1) + 400 from rfl, ref_next s at_ h0 hlt hs]
      simp only [Option.bind_some]
      rw [if_neg (show ¬ (s.size : Int) ≤ at_ by omega)]
      by_cases hc : (nx s at_).2.2 = 0
      · have hg := nx_code s at_ h0 hlt hc
        rw [if_pos hc, if_pos hc, if_pos (by omega), w64 (by omega) (by omega)]
        exact ih _ _ k (by omega) (by omega) (by omega) (by simp; omega)
      · rw [if_neg hc, if_neg hc]
    · rw [if_neg hlt, if_pos (show (s.size : Int) ≤ at_ by omega)]

theorem ref_decode (s : ByteArray) (hs : s.size ≤ 1000000) : eponymref01_Decode.f (s.size + 401) s = some (dec s) := by
  have := decode_l s hs s.size 0 [] 0 (by omega) (by omega) (by omega) (by simp)
  rw [show 0 + s.size + 401 = s.size + 401 by omega] at this
  exact this

theorem same_l (l : List Int) (hl : l.length ≤ 1000000) : ∀ (n i : Nat) (k : Nat), i ≤ l.length → l.length ≤ i + n → eponymlaw01_Same.l0 (k + n + 1) l l i = some true := by
  intro n
  induction n with
  | zero =>
    intro i k h1 h2
    rw [eponymlaw01_Same.l0, if_neg (by omega)]
  | succ n ih =>
    intro i k h1 h2
    rw [show k + (n + 1) + 1 = (k + n + 1) + 1 by omega, eponymlaw01_Same.l0]
    by_cases h : i < l.length
    · rw [if_pos (by omega), if_pos (by omega), if_pos (by omega), if_pos rfl, w64 (by omega) (by omega)]
      have := ih (i + 1) k (by omega) (by omega)
      rw [show ((i : Int) + 1) = ((i + 1 : Nat) : Int) by omega]
      exact this
    · rw [if_neg (by omega)]
theorem same_f (l : List Int) (hl : l.length ≤ 1000000) : eponymlaw01_Same.f (l.length + 1) l l = some true := by
  unfold eponymlaw01_Same.f
  rw [if_pos rfl]
  have := same_l l hl l.length 0 0 (by omega) (by omega)
  rw [show 0 + l.length + 1 = l.length + 1 by omega] at this
  exact this
end Go.Proofs.YtfcfehiijainpaaDoor
