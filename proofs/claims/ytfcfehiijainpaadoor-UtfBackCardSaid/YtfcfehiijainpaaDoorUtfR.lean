/- The reference's Next (as printed) comes to what is told by bytes. -/
import Derived.Test.YtfcfehiijainpaaDoorUtfQ
import Derived.Test.YtfcfehiijainpaaDoorBytes
set_option linter.unusedVariables false
set_option linter.unusedSimpArgs false
namespace Go.Proofs.YtfcfehiijainpaaDoor
open Go.RowKit Go.Proofs.YtfcfehiijainpaaDoorW.PrintWords PAll

theorem btP (s : ByteArray) (i : Int) : bt s i = PlainAid.bt s i.toNat := rfl
theorem ext_size (s : ByteArray) (i n : Int) (h0 : 0 ≤ i) (hn : 0 ≤ n) (h : i + n ≤ s.size) : ((s.extract i.toNat (i + n).toNat).size : Int) = n := by
  rw [ByteArray.size_extract]; omega
theorem ext_bt (s : ByteArray) (i n j : Int) (h0 : 0 ≤ i) (hj : 0 ≤ j) (hn : j < n) : bt (s.extract i.toNat (i + n).toNat) j = bt s (i + j) := by
  rw [btP, btP, bt_ints, bt_ints, ints_extract, List.getD_eq_getElem?_getD, List.getD_eq_getElem?_getD, List.getElem?_drop, List.getElem?_take, if_pos (by omega)]
  congr 2; omega

theorem form_f (r : Int) (h0 : 0 ≤ r) (h1 : r ≤ 1114111) : eponymref01_Form.f r = some (strOfNums (formL r)) := by
  have t1 : Int.tdiv r 64 = r / 64 := Int.tdiv_eq_ediv_of_nonneg h0
  have t2 : Int.tdiv r 4096 = r / 4096 := Int.tdiv_eq_ediv_of_nonneg h0
  have t3 : Int.tdiv r 262144 = r / 262144 := Int.tdiv_eq_ediv_of_nonneg h0
  have m1 : Int.tmod r 64 = r % 64 := Int.tmod_eq_emod_of_nonneg h0
  have m2 : Int.tmod (r / 64) 64 = r / 64 % 64 := Int.tmod_eq_emod_of_nonneg (by omega)
  have m3 : Int.tmod (r / 4096) 64 = r / 4096 % 64 := Int.tmod_eq_emod_of_nonneg (by omega)
  have w1 : wrap32 (r / 64) = r / 64 := w32 (by omega) (by omega)
  have w2 : wrap32 (r / 4096) = r / 4096 := w32 (by omega) (by omega)
  have w3 : wrap32 (r / 262144) = r / 262144 := w32 (by omega) (by omega)
  have a1 : wrap32 (192 + r / 64) = 192 + r / 64 := w32 (by omega) (by omega)
  have a2 : wrap32 (128 + r % 64) = 128 + r % 64 := w32 (by omega) (by omega)
  have a3 : wrap32 (224 + r / 4096) = 224 + r / 4096 := w32 (by omega) (by omega)
  have a4 : wrap32 (128 + r / 64 % 64) = 128 + r / 64 % 64 := w32 (by omega) (by omega)
  have a5 : wrap32 (240 + r / 262144) = 240 + r / 262144 := w32 (by omega) (by omega)
  have a6 : wrap32 (128 + r / 4096 % 64) = 128 + r / 4096 % 64 := w32 (by omega) (by omega)
  unfold eponymref01_Form.f formL
  simp only [t1, t2, t3, w1, w2, w3, m1, m2, m3, a1, a2, a3, a4, a5, a6]
  have b1 : (192 + r / 64 : Int) % 256 = 192 + r / 64 ∨ 4096 ≤ r := by omega
  have b2 : (128 + r % 64 : Int) % 256 = 128 + r % 64 := by omega
  have b3 : (224 + r / 4096 : Int) % 256 = 224 + r / 4096 ∨ 131072 ≤ r := by omega
  have b4 : (128 + r / 64 % 64 : Int) % 256 = 128 + r / 64 % 64 := by omega
  have b5 : (240 + r / 262144 : Int) % 256 = 240 + r / 262144 := by omega
  have b6 : (128 + r / 4096 % 64 : Int) % 256 = 128 + r / 4096 % 64 := by omega
  rw [b2, b4, b5, b6]
  split
  · rw [Int.emod_eq_of_lt h0 (by omega)]
  · split
    · rw [b1.resolve_right (by omega)]
    · split
      · rw [b3.resolve_right (by omega)]
      · rfl

theorem right_f (r : Int) : eponymref01_Right.f r = some (utfRight r) := by
  unfold eponymref01_Right.f utfRight
  by_cases h1 : 0 ≤ r <;> by_cases h2 : r ≤ 1114111 <;> by_cases h3 : 55296 ≤ r <;> by_cases h4 : r ≤ 57343 <;> simp [h1, h2, h3, h4] <;> omega

theorem l0_step (s : ByteArray) (at_ n v : Int) (k : Nat) (h0 : 0 ≤ at_) (hs : s.size ≤ 1000000) (hn1 : 1 ≤ n) (hn4 : n ≤ 4) (hin : at_ + n ≤ s.size)
    (hv : eponymref01_value.f (k + 28) (s.extract at_.toNat (at_ + n).toNat) = some v) :
    eponymref01_Next.l0 (k + 30) s at_ n = if 0 ≤ v ∧ utfRight v = true ∧ formL v = ints (s.extract at_.toNat (at_ + n).toNat) then some (v, n, 0) else eponymref01_Next.l0 (k + 28) s at_ (n + 1) := by
  have e1 : wrap64 (at_ + n) = at_ + n := w64 (by omega) (by omega)
  have e2 : wrap64 (n + 1) = n + 1 := w64 (by omega) (by omega)
  rw [eponymref01_Next.l0, if_pos (by omega), e1, eponymref01_Next.j1, decide_eq_true (show at_ + n ≤ (s.size : Int) from hin), if_pos rfl, if_pos h0, e1, if_pos (by omega), if_pos (by omega), hv]
  simp only [Option.bind_some, right_f, e2]
  by_cases c0 : 0 ≤ v
  · rw [if_pos (show v ≥ 0 from c0)]
    by_cases c1 : utfRight v = true
    · have hm : v ≤ 1114111 := by unfold utfRight at c1; simp at c1; omega
      rw [if_pos c1, form_f v c0 hm]
      simp only [Option.bind_some]
      by_cases c2 : formL v = ints (s.extract at_.toNat (at_ + n).toNat)
      · rw [if_pos ((toList_ints _ _).2 (by rw [ints_nums _ (formL_range v c0 hm)]; exact c2)), if_pos ⟨c0, c1, c2⟩]
      · rw [if_neg (fun h => c2 (by rw [← (toList_ints _ _).1 h, ints_nums _ (formL_range v c0 hm)])), if_neg (fun h => c2 h.2.2)]
    · rw [if_neg c1, if_neg (fun h => c1 h.2.1)]
  · rw [if_neg (show ¬ v ≥ 0 from c0), if_neg (fun h => c0 h.1)]

theorem l0_end (s : ByteArray) (at_ n : Int) (k : Nat) (h0 : 0 ≤ at_) (h1 : at_ ≤ s.size) (hs : s.size ≤ 1000000) (hn1 : 1 ≤ n) (hn5 : n ≤ 5) (hin : s.size < at_ + n ∨ n = 5) :
    eponymref01_Next.l0 (k + 30) s at_ n = eponymref01_Next.l1 (k + 28) (s.extract at_.toNat s.size) ((s.size : Int) - at_ + 1) := by
  have e1 : wrap64 (at_ + n) = at_ + n := w64 (by omega) (by omega)
  have e3 : ((s.extract at_.toNat s.size).size : Int) = s.size - at_ := by rw [ByteArray.size_extract]; omega
  have e4 : wrap64 ((s.size : Int) - at_ + 1) = s.size - at_ + 1 := w64 (by omega) (by omega)
  by_cases c : n = 5
  · subst c
    rw [eponymref01_Next.l0, if_neg (by omega), eponymref01_Next.j1, if_neg (by simp), if_pos h0, if_pos h1, e3, e4]
  · rw [eponymref01_Next.l0, if_pos (by omega), e1, eponymref01_Next.j1, decide_eq_false (show ¬ at_ + n ≤ (s.size : Int) by omega), if_neg (by simp), if_pos h0, if_pos h1, e3, e4]
end Go.Proofs.YtfcfehiijainpaaDoor
