/- The reference's Unescape (as printed) comes to 'ue'. -/
import Derived.Test.YtfcfehiijainpaaDoorPAllx5
import Derived.Test.YtfcfehiijainpaaDoorUtfU
import Derived.Test.YtfcfehiijainpaaDoorPctP
set_option linter.unusedVariables false
set_option linter.unusedSimpArgs false
namespace Go.Proofs.YtfcfehiijainpaaDoor
open Go.RowKit Go.Proofs.YtfcfehiijainpaaDoorW.PrintWords PAll

theorem digit_f (b : Int) (h0 : 0 ≤ b) (h1 : b ≤ 255) (k : Nat) : eponymref02_Digit.f (k + 5) b = some (hexd b) := by
  have e1 : wrap64 b = b := w64 (by omega) (by omega)
  have e2 : wrap64 (b - 48) = b - 48 := w64 (by omega) (by omega)
  have e3 : wrap64 (b - 87) = b - 87 := w64 (by omega) (by omega)
  have e4 : wrap64 (b - 55) = b - 55 := w64 (by omega) (by omega)
  unfold eponymref02_Digit.f hexd
  simp only [eponymref02_Digit.j0, eponymref02_Digit.j1, e1, e2, e3, e4, decide_eq_true_eq, Bool.false_eq_true, if_false, ge_iff_le]
  (repeat' split) <;> first | rfl | omega

theorem nums_append' (bs cs : List Int) : strOfNums bs ++ strOfNums cs = strOfNums (bs ++ cs) := by
  apply ints_inj
  rw [ints_append]
  unfold ints
  rw [strOfNums_data, strOfNums_data, strOfNums_data, List.map_append, List.map_append]
theorem ext_one (s : ByteArray) (at_ : Int) (h0 : 0 ≤ at_) (h1 : at_ + 1 ≤ s.size) : s.extract at_.toNat (at_ + 1).toNat = strOfNums [bt s at_] := by
  apply ints_inj
  rw [ext_ints_1 s at_ h0 h1, ints_nums]
  intro x hx
  rw [List.mem_singleton.1 hx]
  exact bt_range s at_
theorem nums_size (xs : List Int) : (strOfNums xs).size = xs.length := strOfNums_size xs

theorem uesc_succ (s : ByteArray) (k : Nat) (at_ : Int) (bs ps : List Int) : uesc s (k + 1) at_ bs ps =
    if (s.size : Int) ≤ at_ then (bs, ps, 0, 0)
    else if bt s at_ ≠ 37 then uesc s k (at_ + 1) (bs ++ [bt s at_]) (ps ++ [at_])
    else if (s.size : Int) - at_ < 3 then ([], [], at_, 2)
    else if hexd (bt s (at_ + 1)) < 0 ∨ hexd (bt s (at_ + 2)) < 0 then ([], [], at_, 1)
    else uesc s k (at_ + 3) (bs ++ [16 * hexd (bt s (at_ + 1)) + hexd (bt s (at_ + 2))]) (ps ++ [at_]) := rfl

theorem unescape_l (s : ByteArray) (hs : s.size ≤ 1000000) (d : Nat) : ∀ (n : Nat) (at_ : Int) (bs ps : List Int) (k : Nat), 0 ≤ at_ → at_ ≤ s.size → (s.size : Int) - at_ ≤ n → n ≤ d → (bs.length : Int) ≤ at_ → (ps.length : Int) ≤ at_ → (∀ x ∈ bs, 0 ≤ x ∧ x ≤ 255) →
    eponymref02_Unescape.l0 (k + n + 10) s at_ (strOfNums bs) ps 0 0 = some (strOfNums (uesc s n at_ bs ps).1, (uesc s n at_ bs ps).2.1, (uesc s n at_ bs ps).2.2.1, (uesc s n at_ bs ps).2.2.2) := by
  intro n
  induction n with
  | zero =>
    intro at_ bs ps k h0 h1 hn hd hb hp hr
    rw [show k + 0 + 10 = (k + 9) + 1 from rfl, eponymref02_Unescape.l0, if_neg (by omega)]
    rfl
  | succ n ih =>
    intro at_ bs ps k h0 h1 hn hd hb hp hr
    have r0 := bt_range s at_
    have r1 := bt_range s (at_ + 1)
    have r2 := bt_range s (at_ + 2)
    have e1 : wrap64 (at_ + 1) = at_ + 1 := w64 (by omega) (by omega)
    have e2 : wrap64 (at_ + 2) = at_ + 2 := w64 (by omega) (by omega)
    have e3 : wrap64 (at_ + 3) = at_ + 3 := w64 (by omega) (by omega)
    have d1 := hexd_le (bt s (at_ + 1))
    have d2 := hexd_le (bt s (at_ + 2))
    rw [uesc_succ]
    rw [show k + (n + 1) + 10 = (k + n + 10) + 1 by omega, eponymref02_Unescape.l0]
    by_cases hlt : at_ < s.size
    · rw [if_pos hlt, if_pos h0, if_neg (show ¬ (s.size : Int) ≤ at_ by omega)]
      by_cases c37 : bt s at_ = 37
      · rw [if_pos c37, if_neg (show ¬ bt s at_ ≠ 37 by omega), e1, e2]
        by_cases hend : (s.size : Int) - at_ < 3
        · rw [if_pos (show at_ + 2 ≥ (s.size : Int) by omega), if_pos hend]; rfl
        · rw [if_neg (show ¬ at_ + 2 ≥ (s.size : Int) by omega), if_neg hend, if_pos (show 0 ≤ at_ + 1 by omega), if_pos (show at_ + 1 < (s.size : Int) by omega), show k + n + 10 = (k + n + 5) + 5 from rfl,
            digit_f _ r1.1 r1.2, digit_f _ r2.1 r2.2]
          simp only [Option.bind_some]
          rw [if_pos (show 0 ≤ at_ + 2 by omega), if_pos (show at_ + 2 < (s.size : Int) by omega)]
          by_cases c1 : hexd (bt s (at_ + 1)) < 0
          · rw [if_pos c1, if_pos (.inl c1)]; rfl
          · rw [if_neg c1]
            by_cases c2 : hexd (bt s (at_ + 2)) < 0
            · rw [if_pos c2, if_pos (.inr c2)]; rfl
            · rw [if_neg c2, if_neg (show ¬ (hexd (bt s (at_ + 1)) < 0 ∨ hexd (bt s (at_ + 2)) < 0) by omega)]
              have e5 : wrap64 (16 * hexd (bt s (at_ + 1))) = 16 * hexd (bt s (at_ + 1)) := w64 (by omega) (by omega)
              have e6 : wrap64 (16 * hexd (bt s (at_ + 1)) + hexd (bt s (at_ + 2))) = 16 * hexd (bt s (at_ + 1)) + hexd (bt s (at_ + 2)) := w64 (by omega) (by omega)
              rw [e5, e6, Int.emod_eq_of_lt (by omega) (by omega), if_pos (by rw [nums_size, nums_size]; simp; omega), if_pos (by omega), e3, nums_append']
              exact ih (at_ + 3) _ _ k (by omega) (by omega) (by omega) (by omega) (by simp; omega) (by simp; omega) (by
                intro x hx
                rcases List.mem_append.1 hx with hx | hx
                · exact hr x hx
                · rw [List.mem_singleton.1 hx]; omega)
      · rw [if_neg c37, if_pos c37, e1, if_pos (show at_ ≤ at_ + 1 by omega), if_pos (show at_ + 1 ≤ (s.size : Int) by omega), ext_one s at_ h0 (by omega), if_pos (by rw [nums_size, nums_size]; simp; omega), if_pos (by omega), nums_append']
        exact ih (at_ + 1) _ _ k (by omega) (by omega) (by omega) (by omega) (by simp; omega) (by simp; omega) (by
          intro x hx
          rcases List.mem_append.1 hx with hx | hx
          · exact hr x hx
          · rw [List.mem_singleton.1 hx]; omega)
    · rw [if_neg hlt, if_pos (show (s.size : Int) ≤ at_ by omega)]

theorem ref_unescape (s : ByteArray) (hs : s.size ≤ 1000000) : eponymref02_Unescape.f (s.size + 10) s = some (strOfNums (ue s).1, (ue s).2.1, (ue s).2.2.1, (ue s).2.2.2) := by
  have := unescape_l s hs s.size s.size 0 [] [] 0 (by omega) (by omega) (by omega) (Nat.le_refl _) (by simp) (by simp) (by simp)
  rw [show 0 + s.size + 10 = s.size + 10 by omega] at this
  exact this
end Go.Proofs.YtfcfehiijainpaaDoor
