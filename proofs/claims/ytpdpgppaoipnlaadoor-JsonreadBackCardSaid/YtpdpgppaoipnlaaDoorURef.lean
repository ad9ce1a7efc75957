/- What the claim uses of the text Ref. -/
import Derived.Test.YtpdpgppaoipnlaaDoorUPAllx
import Derived.Test.YtpdpgppaoipnlaaDoorUBase
set_option linter.unusedVariables false
set_option linter.unusedSimpArgs false
namespace Go.Proofs.YtpdpgppaoipnlaaDoor
section
open Go.RowKit Go.Proofs.YtpdpgppaoipnlaaDoorW.PrintWords PAll

def val1 (b0 : Int) : Int := if b0 < 128 then b0 else -1
def val2 (b0 b1 : Int) : Int := if 192 ≤ b0 ∧ b0 < 224 ∧ 128 ≤ b1 ∧ b1 ≤ 191 then (b0 - 192) * 64 + (b1 - 128) else -1
def val3 (b0 b1 b2 : Int) : Int := if 224 ≤ b0 ∧ b0 < 240 ∧ 128 ≤ b1 ∧ b1 ≤ 191 ∧ 128 ≤ b2 ∧ b2 ≤ 191 then ((b0 - 224) * 64 + (b1 - 128)) * 64 + (b2 - 128) else -1
def val4 (b0 b1 b2 b3 : Int) : Int := if 240 ≤ b0 ∧ b0 < 248 ∧ 128 ≤ b1 ∧ b1 ≤ 191 ∧ 128 ≤ b2 ∧ b2 ≤ 191 ∧ 128 ≤ b3 ∧ b3 ≤ 191 then (((b0 - 240) * 64 + (b1 - 128)) * 64 + (b2 - 128)) * 64 + (b3 - 128) else -1

theorem w32 {n : Int} (h0 : -2147483648 ≤ n) (h1 : n ≤ 2147483647) : wrap32 n = n := by unfold wrap32; omega
theorem w64 {n : Int} (h0 : -9223372036854775808 ≤ n) (h1 : n ≤ 9223372036854775807) : wrap64 n = n := by unfold wrap64; omega

set_option maxHeartbeats 1000000 in
theorem value_1 (t : ByteArray) (h : (t.size : Int) = 1) (k : Nat) : eponymref01_value.f (k + 20) t = some (val1 (bt t 0)) := by
  have r0 := bt_range t 0
  unfold val1
  by_cases c0 : bt t 0 < 128
  rotate_left
  · simp (disch := omega) only [eponymref01_value.f, eponymref01_value.j0, eponymref01_value.j1, eponymref01_value.j2, eponymref01_value.j3, eponymref01_value.j4, eponymref01_value.j5, eponymref01_value.j6, eponymref01_value.l0, Bool.false_eq_true, ↓reduceIte, h, w32, w64, ↓if_pos, ↓if_neg, decide_eq_true_eq, ite_self, Int.reduceAdd]
  simp (disch := omega) only [eponymref01_value.f, eponymref01_value.j0, eponymref01_value.j1, eponymref01_value.j2, eponymref01_value.j3, eponymref01_value.j4, eponymref01_value.j5, eponymref01_value.j6, eponymref01_value.l0, Bool.false_eq_true, ↓reduceIte, h, w32, w64, ↓if_pos, ↓if_neg, decide_eq_true_eq, ite_self, Int.reduceAdd]
set_option maxHeartbeats 1000000 in
theorem value_2 (t : ByteArray) (h : (t.size : Int) = 2) (k : Nat) : eponymref01_value.f (k + 20) t = some (val2 (bt t 0) (bt t 1)) := by
  have r0 := bt_range t 0
  have r1 := bt_range t 1
  unfold val2
  by_cases c0 : 192 ≤ bt t 0 ∧ bt t 0 < 224
  rotate_left
  · simp (disch := omega) only [eponymref01_value.f, eponymref01_value.j0, eponymref01_value.j1, eponymref01_value.j2, eponymref01_value.j3, eponymref01_value.j4, eponymref01_value.j5, eponymref01_value.j6, eponymref01_value.l0, Bool.false_eq_true, ↓reduceIte, h, w32, w64, ↓if_pos, ↓if_neg, decide_eq_true_eq, ite_self, Int.reduceAdd]
  by_cases c1 : 128 ≤ bt t 1 ∧ bt t 1 ≤ 191
  rotate_left
  · simp (disch := omega) only [eponymref01_value.f, eponymref01_value.j0, eponymref01_value.j1, eponymref01_value.j2, eponymref01_value.j3, eponymref01_value.j4, eponymref01_value.j5, eponymref01_value.j6, eponymref01_value.l0, Bool.false_eq_true, ↓reduceIte, h, w32, w64, ↓if_pos, ↓if_neg, decide_eq_true_eq, ite_self, Int.reduceAdd]
  simp (disch := omega) only [eponymref01_value.f, eponymref01_value.j0, eponymref01_value.j1, eponymref01_value.j2, eponymref01_value.j3, eponymref01_value.j4, eponymref01_value.j5, eponymref01_value.j6, eponymref01_value.l0, Bool.false_eq_true, ↓reduceIte, h, w32, w64, ↓if_pos, ↓if_neg, decide_eq_true_eq, ite_self, Int.reduceAdd]
  congr 1; omega
set_option maxHeartbeats 1000000 in
theorem value_3 (t : ByteArray) (h : (t.size : Int) = 3) (k : Nat) : eponymref01_value.f (k + 20) t = some (val3 (bt t 0) (bt t 1) (bt t 2)) := by
  have r0 := bt_range t 0
  have r1 := bt_range t 1
  have r2 := bt_range t 2
  unfold val3
  by_cases c0 : 224 ≤ bt t 0 ∧ bt t 0 < 240
  rotate_left
  · simp (disch := omega) only [eponymref01_value.f, eponymref01_value.j0, eponymref01_value.j1, eponymref01_value.j2, eponymref01_value.j3, eponymref01_value.j4, eponymref01_value.j5, eponymref01_value.j6, eponymref01_value.l0, Bool.false_eq_true, ↓reduceIte, h, w32, w64, ↓if_pos, ↓if_neg, decide_eq_true_eq, ite_self, Int.reduceAdd]
  by_cases c1 : 128 ≤ bt t 1 ∧ bt t 1 ≤ 191
  rotate_left
  · simp (disch := omega) only [eponymref01_value.f, eponymref01_value.j0, eponymref01_value.j1, eponymref01_value.j2, eponymref01_value.j3, eponymref01_value.j4, eponymref01_value.j5, eponymref01_value.j6, eponymref01_value.l0, Bool.false_eq_true, ↓reduceIte, h, w32, w64, ↓if_pos, ↓if_neg, decide_eq_true_eq, ite_self, Int.reduceAdd]
  by_cases c2 : 128 ≤ bt t 2 ∧ bt t 2 ≤ 191
  rotate_left
  · simp (disch := omega) only [eponymref01_value.f, eponymref01_value.j0, eponymref01_value.j1, eponymref01_value.j2, eponymref01_value.j3, eponymref01_value.j4, eponymref01_value.j5, eponymref01_value.j6, eponymref01_value.l0, Bool.false_eq_true, ↓reduceIte, h, w32, w64, ↓if_pos, ↓if_neg, decide_eq_true_eq, ite_self, Int.reduceAdd]
  simp (disch := omega) only [eponymref01_value.f, eponymref01_value.j0, eponymref01_value.j1, eponymref01_value.j2, eponymref01_value.j3, eponymref01_value.j4, eponymref01_value.j5, eponymref01_value.j6, eponymref01_value.l0, Bool.false_eq_true, ↓reduceIte, h, w32, w64, ↓if_pos, ↓if_neg, decide_eq_true_eq, ite_self, Int.reduceAdd]
  congr 1; omega
set_option maxHeartbeats 1000000 in
theorem value_4 (t : ByteArray) (h : (t.size : Int) = 4) (k : Nat) : eponymref01_value.f (k + 20) t = some (val4 (bt t 0) (bt t 1) (bt t 2) (bt t 3)) := by
  have r0 := bt_range t 0
  have r1 := bt_range t 1
  have r2 := bt_range t 2
  have r3 := bt_range t 3
  unfold val4
  by_cases c0 : 240 ≤ bt t 0 ∧ bt t 0 < 248
  rotate_left
  · simp (disch := omega) only [eponymref01_value.f, eponymref01_value.j0, eponymref01_value.j1, eponymref01_value.j2, eponymref01_value.j3, eponymref01_value.j4, eponymref01_value.j5, eponymref01_value.j6, eponymref01_value.l0, Bool.false_eq_true, ↓reduceIte, h, w32, w64, ↓if_pos, ↓if_neg, decide_eq_true_eq, ite_self, Int.reduceAdd]
  by_cases c1 : 128 ≤ bt t 1 ∧ bt t 1 ≤ 191
  rotate_left
  · simp (disch := omega) only [eponymref01_value.f, eponymref01_value.j0, eponymref01_value.j1, eponymref01_value.j2, eponymref01_value.j3, eponymref01_value.j4, eponymref01_value.j5, eponymref01_value.j6, eponymref01_value.l0, Bool.false_eq_true, ↓reduceIte, h, w32, w64, ↓if_pos, ↓if_neg, decide_eq_true_eq, ite_self, Int.reduceAdd]
  by_cases c2 : 128 ≤ bt t 2 ∧ bt t 2 ≤ 191
  rotate_left
  · simp (disch := omega) only [eponymref01_value.f, eponymref01_value.j0, eponymref01_value.j1, eponymref01_value.j2, eponymref01_value.j3, eponymref01_value.j4, eponymref01_value.j5, eponymref01_value.j6, eponymref01_value.l0, Bool.false_eq_true, ↓reduceIte, h, w32, w64, ↓if_pos, ↓if_neg, decide_eq_true_eq, ite_self, Int.reduceAdd]
  by_cases c3 : 128 ≤ bt t 3 ∧ bt t 3 ≤ 191
  rotate_left
  · simp (disch := omega) only [eponymref01_value.f, eponymref01_value.j0, eponymref01_value.j1, eponymref01_value.j2, eponymref01_value.j3, eponymref01_value.j4, eponymref01_value.j5, eponymref01_value.j6, eponymref01_value.l0, Bool.false_eq_true, ↓reduceIte, h, w32, w64, ↓if_pos, ↓if_neg, decide_eq_true_eq, ite_self, Int.reduceAdd]
  simp (disch := omega) only [eponymref01_value.f, eponymref01_value.j0, eponymref01_value.j1, eponymref01_value.j2, eponymref01_value.j3, eponymref01_value.j4, eponymref01_value.j5, eponymref01_value.j6, eponymref01_value.l0, Bool.false_eq_true, ↓reduceIte, h, w32, w64, ↓if_pos, ↓if_neg, decide_eq_true_eq, ite_self, Int.reduceAdd]
  congr 1; omega
end

section
open Go.RowKit Go.Proofs.YtpdpgppaoipnlaaDoorW.PrintWords PAll

theorem btP (s : ByteArray) (i : Int) : bt s i = PlainAid.bt s i.toNat := rfl
theorem ext_size (s : ByteArray) (i n : Int) (h0 : 0 ≤ i) (hn : 0 ≤ n) (h : i + n ≤ s.size) : ((s.extract i.toNat (i + n).toNat).size : Int) = n := by
  rw [ByteArray.size_extract]; omega
theorem ext_bt (s : ByteArray) (i n j : Int) (h0 : 0 ≤ i) (hj : 0 ≤ j) (hn : j < n) : bt (s.extract i.toNat (i + n).toNat) j = bt s (i + j) := by
  rw [btP, btP, bt_ints, bt_ints, ints_extract, List.getD_eq_getElem?_getD, List.getD_eq_getElem?_getD, List.getElem?_drop, List.getElem?_take, if_pos (by omega)]
  congr 2; omega

theorem form_f (r : Int) (h0 : 0 ≤ r) (h1 : r ≤ 1114111) : eponymref01_Form.f r = some (strOfNums (formL r)) := by
  have t1 : Int.tdiv r 64 = r / 64 := Int.tdiv_eq_ediv_of_nonneg h0
  have t2 : Int.tdiv r 4096 = r / 4096 := Int.tdiv_eq_ediv_of_nonneg h0
  have t3 : Int.tdiv r 262144 = r / 262144 := Int.tdiv_eq_ediv_of_nonneg h0
  have m1 : Int.tmod r 64 = r % 64 := Int.tmod_eq_emod_of_nonneg h0
  have m2 : Int.tmod (r / 64) 64 = r / 64 % 64 := Int.tmod_eq_emod_of_nonneg (by omega)
  have m3 : Int.tmod (r / 4096) 64 = r / 4096 % 64 := Int.tmod_eq_emod_of_nonneg (by omega)
  have w1 : wrap32 (r / 64) = r / 64 := w32 (by omega) (by omega)
  have w2 : wrap32 (r / 4096) = r / 4096 := w32 (by omega) (by omega)
  have w3 : wrap32 (r / 262144) = r / 262144 := w32 (by omega) (by omega)
  have a1 : wrap32 (192 + r / 64) = 192 + r / 64 := w32 (by omega) (by omega)
  have a2 : wrap32 (128 + r % 64) = 128 + r % 64 := w32 (by omega) (by omega)
  have a3 : wrap32 (224 + r / 4096) = 224 + r / 4096 := w32 (by omega) (by omega)
  have a4 : wrap32 (128 + r / 64 % 64) = 128 + r / 64 % 64 := w32 (by omega) (by omega)
  have a5 : wrap32 (240 + r / 262144) = 240 + r / 262144 := w32 (by omega) (by omega)
  have a6 : wrap32 (128 + r / 4096 % 64) = 128 + r / 4096 % 64 := w32 (by omega) (by omega)
  unfold eponymref01_Form.f formL
  simp only [t1, t2, t3, w1, w2, w3, m1, m2, m3, a1, a2, a3, a4, a5, a6]
  have b1 : (192 + r / 64 : Int) % 256 = 192 + r / 64 ∨ 4096 ≤ r := by omega
  have b2 : (128 + r % 64 : Int) % 256 = 128 + r % 64 := by omega
  have b3 : (224 + r / 4096 : Int) % 256 = 224 + r / 4096 ∨ 131072 ≤ r := by omega
  have b4 : (128 + r / 64 % 64 : Int) % 256 = 128 + r / 64 % 64 := by omega
  have b5 : (240 + r / 262144 : Int) % 256 = 240 + r / 262144 := by omega
  have b6 : (128 + r / 4096 % 64 : Int) % 256 = 128 + r / 4096 % 64 := by omega
  rw [b2, b4, b5, b6]
  split
  · rw [Int.emod_eq_of_lt h0 (by omega)]
  · split
    · rw [b1.resolve_right (by omega)]
    · split
      · rw [b3.resolve_right (by omega)]
      · rfl

theorem right_f (r : Int) : eponymref01_Right.f r = some (utfRight r) := by
  unfold eponymref01_Right.f utfRight
  by_cases h1 : 0 ≤ r <;> by_cases h2 : r ≤ 1114111 <;> by_cases h3 : 55296 ≤ r <;> by_cases h4 : r ≤ 57343 <;> simp [h1, h2, h3, h4] <;> omega

theorem l0_step (s : ByteArray) (at_ n v : Int) (k : Nat) (h0 : 0 ≤ at_) (hs : s.size ≤ 1000000) (hn1 : 1 ≤ n) (hn4 : n ≤ 4) (hin : at_ + n ≤ s.size)
    (hv : eponymref01_value.f (k + 28) (s.extract at_.toNat (at_ + n).toNat) = some v) :
    eponymref01_Next.l0 (k + 30) s at_ n = if 0 ≤ v ∧ utfRight v = true ∧ formL v = ints (s.extract at_.toNat (at_ + n).toNat) then some (v, n, 0) else eponymref01_Next.l0 (k + 28) s at_ (n + 1) := by
  have e1 : wrap64 (at_ + n) = at_ + n := w64 (by omega) (by omega)
  have e2 : wrap64 (n + 1) = n + 1 := w64 (by omega) (by omega)
  rw [eponymref01_Next.l0, if_pos (by omega), e1, eponymref01_Next.j1, decide_eq_true (show at_ + n ≤ (s.size : Int) from hin), if_pos rfl, if_pos h0, e1, if_pos (by omega), if_pos (by omega), hv]
  simp only [Option.bind_some, right_f, e2]
  by_cases c0 : 0 ≤ v
  · rw [if_pos (show v ≥ 0 from c0)]
    by_cases c1 : utfRight v = true
    · have hm : v ≤ 1114111 := by unfold utfRight at c1; simp at c1; omega
      rw [if_pos c1, form_f v c0 hm]
      simp only [Option.bind_some]
      by_cases c2 : formL v = ints (s.extract at_.toNat (at_ + n).toNat)
      · rw [if_pos ((toList_ints _ _).2 (by rw [ints_nums _ (formL_range v c0 hm)]; exact c2)), if_pos ⟨c0, c1, c2⟩]
      · rw [if_neg (fun h => c2 (by rw [← (toList_ints _ _).1 h, ints_nums _ (formL_range v c0 hm)])), if_neg (fun h => c2 h.2.2)]
    · rw [if_neg c1, if_neg (fun h => c1 h.2.1)]
  · rw [if_neg (show ¬ v ≥ 0 from c0), if_neg (fun h => c0 h.1)]

theorem l0_end (s : ByteArray) (at_ n : Int) (k : Nat) (h0 : 0 ≤ at_) (h1 : at_ ≤ s.size) (hs : s.size ≤ 1000000) (hn1 : 1 ≤ n) (hn5 : n ≤ 5) (hin : s.size < at_ + n ∨ n = 5) :
    eponymref01_Next.l0 (k + 30) s at_ n = eponymref01_Next.l1 (k + 28) (s.extract at_.toNat s.size) ((s.size : Int) - at_ + 1) := by
  have e1 : wrap64 (at_ + n) = at_ + n := w64 (by omega) (by omega)
  have e3 : ((s.extract at_.toNat s.size).size : Int) = s.size - at_ := by rw [ByteArray.size_extract]; omega
  have e4 : wrap64 ((s.size : Int) - at_ + 1) = s.size - at_ + 1 := w64 (by omega) (by omega)
  by_cases c : n = 5
  · subst c
    rw [eponymref01_Next.l0, if_neg (by omega), eponymref01_Next.j1, if_neg (by simp), if_pos h0, if_pos h1, e3, e4]
  · rw [eponymref01_Next.l0, if_pos (by omega), e1, eponymref01_Next.j1, decide_eq_false (show ¬ at_ + n ≤ (s.size : Int) by omega), if_neg (by simp), if_pos h0, if_pos h1, e3, e4]
end

section
open Go.RowKit Go.Proofs.YtpdpgppaoipnlaaDoorW.PrintWords PAll

def someB (a b n : Int) : Bool :=
  let lo : Int := if n = 3 then 2048 else if n = 4 then 65536 else 128
  let hi : Int := if n = 3 then 65535 else if n = 4 then 1114111 else 2047
  let a1 := if a < lo then lo else a
  let b1 := if hi < b then hi else b
  let a2 := if 55296 ≤ a1 ∧ a1 ≤ 57343 then 57344 else a1
  decide (a2 ≤ b1)

theorem some_f (a b n : Int) (k : Nat) (hn : n = 2 ∨ n = 3 ∨ n = 4) : eponymref01_some.f (k + 5) a b n = some (someB a b n) := by
  unfold someB
  rcases hn with rfl | rfl | rfl
  all_goals
    simp only [eponymref01_some.f, eponymref01_some.j0, eponymref01_some.j1, eponymref01_some.j2, Int.reduceEq, if_true, if_false, ↓reduceIte]
    (repeat' split) <;> first | rfl | omega | (congr 1; rw [Bool.eq_iff_iff, decide_eq_true_eq, decide_eq_true_eq]; omega)

theorem l1_end (r : ByteArray) (n : Int) (k : Nat) (h : 4 < n) : eponymref01_Next.l1 (k + 1) r n = some (0, 0, 1) := by
  rw [eponymref01_Next.l1, if_neg (by omega)]

theorem l2_fin (r x y : ByteArray) (n va vb : Int) (k : Nat) (hn : n = 2 ∨ n = 3 ∨ n = 4) (hx : (x.size : Int) = n)
    (ha : eponymref01_value.f (k + 29) x = some va) (hb : eponymref01_value.f (k + 29) y = some vb) :
    eponymref01_Next.l2 (k + 30) r n x y = if 0 ≤ va ∧ 0 ≤ vb ∧ someB va vb n = true then some (0, 0, 2) else eponymref01_Next.l1 (k + 29) r (n + 1) := by
  have e : wrap64 (n + 1) = n + 1 := w64 (by omega) (by omega)
  rw [eponymref01_Next.l2, if_neg (by omega), ha]
  simp only [Option.bind_some]
  rw [hb]
  simp only [Option.bind_some, e]
  by_cases c0 : 0 ≤ va
  · rw [if_pos (show va ≥ 0 from c0)]
    by_cases c1 : 0 ≤ vb
    · rw [if_pos (show vb ≥ 0 from c1), some_f va vb n (k + 24) hn]
      simp only [Option.bind_some]
      by_cases c2 : someB va vb n = true
      · rw [if_pos c2, if_pos ⟨c0, c1, c2⟩]
      · rw [if_neg c2, if_neg (fun h => c2 h.2.2)]
    · rw [if_neg (show ¬ vb ≥ 0 from c1), if_neg (fun h => c1 h.2.1)]
  · rw [if_neg (show ¬ va ≥ 0 from c0), if_neg (fun h => c0 h.1)]

theorem l2_pad (r x y : ByteArray) (n : Int) (k : Nat) (hn : n ≤ 4) (hx : (x.size : Int) < n) (hy : (y.size : Int) < n) :
    eponymref01_Next.l2 (k + 1) r n x y = eponymref01_Next.l2 k r n (x ++ (⟨#[128]⟩ : ByteArray)) (y ++ (⟨#[191]⟩ : ByteArray)) := by
  rw [eponymref01_Next.l2, if_pos hx, if_pos (by omega), if_pos (by omega)]

theorem size_snoc (x : ByteArray) (b : UInt8) : (x ++ (⟨#[b]⟩ : ByteArray)).size = x.size + 1 := by
  rw [ByteArray.size_append]; rfl
theorem bt_snoc_lt (x : ByteArray) (b : UInt8) (i : Int) (h0 : 0 ≤ i) (h : i < x.size) : bt (x ++ (⟨#[b]⟩ : ByteArray)) i = bt x i := by
  rw [btP, btP, bt_ints, bt_ints, ints_append, List.getD_eq_getElem?_getD, List.getD_eq_getElem?_getD, List.getElem?_append_left (by rw [ints_length]; omega)]
theorem bt_snoc_eq (x : ByteArray) (b : UInt8) (i : Int) (h : i = x.size) : bt (x ++ (⟨#[b]⟩ : ByteArray)) i = b.toNat := by
  subst h
  rw [btP, bt_ints, ints_append, List.getD_eq_getElem?_getD, List.getElem?_append_right (by rw [ints_length]; omega), ints_length]
  simp [ints]

/-- What is tried behind a rest of one byte, of two, of three. -/
def pad1 (b0 : Int) : Int × Int × Int :=
  if 0 ≤ val2 b0 128 ∧ 0 ≤ val2 b0 191 ∧ someB (val2 b0 128) (val2 b0 191) 2 = true then (0, 0, 2)
  else if 0 ≤ val3 b0 128 128 ∧ 0 ≤ val3 b0 191 191 ∧ someB (val3 b0 128 128) (val3 b0 191 191) 3 = true then (0, 0, 2)
  else if 0 ≤ val4 b0 128 128 128 ∧ 0 ≤ val4 b0 191 191 191 ∧ someB (val4 b0 128 128 128) (val4 b0 191 191 191) 4 = true then (0, 0, 2)
  else (0, 0, 1)
def pad2 (b0 b1 : Int) : Int × Int × Int :=
  if 0 ≤ val3 b0 b1 128 ∧ 0 ≤ val3 b0 b1 191 ∧ someB (val3 b0 b1 128) (val3 b0 b1 191) 3 = true then (0, 0, 2)
  else if 0 ≤ val4 b0 b1 128 128 ∧ 0 ≤ val4 b0 b1 191 191 ∧ someB (val4 b0 b1 128 128) (val4 b0 b1 191 191) 4 = true then (0, 0, 2)
  else (0, 0, 1)
def pad3 (b0 b1 b2 : Int) : Int × Int × Int :=
  if 0 ≤ val4 b0 b1 b2 128 ∧ 0 ≤ val4 b0 b1 b2 191 ∧ someB (val4 b0 b1 b2 128) (val4 b0 b1 b2 191) 4 = true then (0, 0, 2)
  else (0, 0, 1)

theorem l1_pad3 (r : ByteArray) (h : r.size = 3) (k : Nat) : eponymref01_Next.l1 (k + 60) r 4 = some (pad3 (bt r 0) (bt r 1) (bt r 2)) := by
  have hx (b : UInt8) : eponymref01_value.f (k + 57) (r ++ (⟨#[b]⟩ : ByteArray)) = some (val4 (bt r 0) (bt r 1) (bt r 2) b.toNat) := by
    rw [value_4 _ (by rw [size_snoc]; omega) (k + 37), bt_snoc_lt _ _ 0 (by omega) (by omega), bt_snoc_lt _ _ 1 (by omega) (by omega), bt_snoc_lt _ _ 2 (by omega) (by omega), bt_snoc_eq _ _ 3 (by omega)]
  rw [eponymref01_Next.l1, if_pos (by omega), l2_pad r r r 4 (k + 58) (by omega) (by omega) (by omega), l2_fin r _ _ 4 _ _ (k + 28) (by omega) (by rw [size_snoc]; omega) (hx 128) (hx 191), l1_end _ _ _ (by omega)]
  unfold pad3
  exact (apply_ite some _ _ _).symm

theorem l1_pad2_4 (r : ByteArray) (h : r.size = 2) (k : Nat) : eponymref01_Next.l1 (k + 60) r 4 = some (if 0 ≤ val4 (bt r 0) (bt r 1) 128 128 ∧ 0 ≤ val4 (bt r 0) (bt r 1) 191 191 ∧ someB (val4 (bt r 0) (bt r 1) 128 128) (val4 (bt r 0) (bt r 1) 191 191) 4 = true then (0, 0, 2) else (0, 0, 1)) := by
  have hx (b : UInt8) : eponymref01_value.f (k + 56) (r ++ (⟨#[b]⟩ : ByteArray) ++ (⟨#[b]⟩ : ByteArray)) = some (val4 (bt r 0) (bt r 1) b.toNat b.toNat) := by
    rw [value_4 _ (by rw [size_snoc, size_snoc]; omega) (k + 36), bt_snoc_lt _ _ 0 (by omega) (by rw [size_snoc]; omega), bt_snoc_lt _ _ 1 (by omega) (by rw [size_snoc]; omega), bt_snoc_lt _ _ 2 (by omega) (by rw [size_snoc]; omega), bt_snoc_eq _ _ 3 (by rw [size_snoc]; omega),
      bt_snoc_lt _ _ 0 (by omega) (by omega), bt_snoc_lt _ _ 1 (by omega) (by omega), bt_snoc_eq _ _ 2 (by omega)]
  rw [eponymref01_Next.l1, if_pos (by omega), l2_pad r r r 4 (k + 58) (by omega) (by omega) (by omega), l2_pad r _ _ 4 (k + 57) (by omega) (by rw [size_snoc]; omega) (by rw [size_snoc]; omega),
    l2_fin r _ _ 4 _ _ (k + 27) (by omega) (by rw [size_snoc, size_snoc]; omega) (hx 128) (hx 191), l1_end _ _ _ (by omega)]
  exact (apply_ite some _ _ _).symm
theorem l1_pad2 (r : ByteArray) (h : r.size = 2) (k : Nat) : eponymref01_Next.l1 (k + 90) r 3 = some (pad2 (bt r 0) (bt r 1)) := by
  have hx (b : UInt8) : eponymref01_value.f (k + 87) (r ++ (⟨#[b]⟩ : ByteArray)) = some (val3 (bt r 0) (bt r 1) b.toNat) := by
    rw [value_3 _ (by rw [size_snoc]; omega) (k + 67), bt_snoc_lt _ _ 0 (by omega) (by omega), bt_snoc_lt _ _ 1 (by omega) (by omega), bt_snoc_eq _ _ 2 (by omega)]
  rw [eponymref01_Next.l1, if_pos (by omega), l2_pad r r r 3 (k + 88) (by omega) (by omega) (by omega), l2_fin r _ _ 3 _ _ (k + 58) (by omega) (by rw [size_snoc]; omega) (hx 128) (hx 191)]
  rw [show (3 : Int) + 1 = 4 from rfl, l1_pad2_4 r h (k + 27)]
  unfold pad2
  exact (apply_ite some _ _ _).symm

theorem l1_pad1_4 (r : ByteArray) (h : r.size = 1) (k : Nat) : eponymref01_Next.l1 (k + 60) r 4 = some (if 0 ≤ val4 (bt r 0) 128 128 128 ∧ 0 ≤ val4 (bt r 0) 191 191 191 ∧ someB (val4 (bt r 0) 128 128 128) (val4 (bt r 0) 191 191 191) 4 = true then (0, 0, 2) else (0, 0, 1)) := by
  have hx (b : UInt8) : eponymref01_value.f (k + 55) (r ++ (⟨#[b]⟩ : ByteArray) ++ (⟨#[b]⟩ : ByteArray) ++ (⟨#[b]⟩ : ByteArray)) = some (val4 (bt r 0) b.toNat b.toNat b.toNat) := by
    rw [value_4 _ (by rw [size_snoc, size_snoc, size_snoc]; omega) (k + 35), bt_snoc_lt _ _ 0 (by omega) (by rw [size_snoc, size_snoc]; omega), bt_snoc_lt _ _ 1 (by omega) (by rw [size_snoc, size_snoc]; omega), bt_snoc_lt _ _ 2 (by omega) (by rw [size_snoc, size_snoc]; omega), bt_snoc_eq _ _ 3 (by rw [size_snoc, size_snoc]; omega),
      bt_snoc_lt _ _ 0 (by omega) (by rw [size_snoc]; omega), bt_snoc_lt _ _ 1 (by omega) (by rw [size_snoc]; omega), bt_snoc_eq _ _ 2 (by rw [size_snoc]; omega), bt_snoc_lt _ _ 0 (by omega) (by omega), bt_snoc_eq _ _ 1 (by omega)]
  rw [eponymref01_Next.l1, if_pos (by omega), l2_pad r r r 4 (k + 58) (by omega) (by omega) (by omega), l2_pad r _ _ 4 (k + 57) (by omega) (by rw [size_snoc]; omega) (by rw [size_snoc]; omega), l2_pad r _ _ 4 (k + 56) (by omega) (by rw [size_snoc, size_snoc]; omega) (by rw [size_snoc, size_snoc]; omega),
    l2_fin r _ _ 4 _ _ (k + 26) (by omega) (by rw [size_snoc, size_snoc, size_snoc]; omega) (hx 128) (hx 191), l1_end _ _ _ (by omega)]
  exact (apply_ite some _ _ _).symm
theorem l1_pad1_3 (r : ByteArray) (h : r.size = 1) (k : Nat) : eponymref01_Next.l1 (k + 90) r 3 = some (if 0 ≤ val3 (bt r 0) 128 128 ∧ 0 ≤ val3 (bt r 0) 191 191 ∧ someB (val3 (bt r 0) 128 128) (val3 (bt r 0) 191 191) 3 = true then (0, 0, 2)
    else if 0 ≤ val4 (bt r 0) 128 128 128 ∧ 0 ≤ val4 (bt r 0) 191 191 191 ∧ someB (val4 (bt r 0) 128 128 128) (val4 (bt r 0) 191 191 191) 4 = true then (0, 0, 2) else (0, 0, 1)) := by
  have hx (b : UInt8) : eponymref01_value.f (k + 86) (r ++ (⟨#[b]⟩ : ByteArray) ++ (⟨#[b]⟩ : ByteArray)) = some (val3 (bt r 0) b.toNat b.toNat) := by
    rw [value_3 _ (by rw [size_snoc, size_snoc]; omega) (k + 66), bt_snoc_lt _ _ 0 (by omega) (by rw [size_snoc]; omega), bt_snoc_lt _ _ 1 (by omega) (by rw [size_snoc]; omega), bt_snoc_eq _ _ 2 (by rw [size_snoc]; omega), bt_snoc_lt _ _ 0 (by omega) (by omega), bt_snoc_eq _ _ 1 (by omega)]
  rw [eponymref01_Next.l1, if_pos (by omega), l2_pad r r r 3 (k + 88) (by omega) (by omega) (by omega), l2_pad r _ _ 3 (k + 87) (by omega) (by rw [size_snoc]; omega) (by rw [size_snoc]; omega),
    l2_fin r _ _ 3 _ _ (k + 57) (by omega) (by rw [size_snoc, size_snoc]; omega) (hx 128) (hx 191)]
  rw [show (3 : Int) + 1 = 4 from rfl, l1_pad1_4 r h (k + 26)]
  exact (apply_ite some _ _ _).symm
theorem l1_pad1 (r : ByteArray) (h : r.size = 1) (k : Nat) : eponymref01_Next.l1 (k + 120) r 2 = some (pad1 (bt r 0)) := by
  have hx (b : UInt8) : eponymref01_value.f (k + 117) (r ++ (⟨#[b]⟩ : ByteArray)) = some (val2 (bt r 0) b.toNat) := by
    rw [value_2 _ (by rw [size_snoc]; omega) (k + 97), bt_snoc_lt _ _ 0 (by omega) (by omega), bt_snoc_eq _ _ 1 (by omega)]
  rw [eponymref01_Next.l1, if_pos (by omega), l2_pad r r r 2 (k + 118) (by omega) (by omega) (by omega), l2_fin r _ _ 2 _ _ (k + 88) (by omega) (by rw [size_snoc]; omega) (hx 128) (hx 191)]
  rw [show (2 : Int) + 1 = 3 from rfl, l1_pad1_3 r h (k + 27)]
  unfold pad1
  exact (apply_ite some _ _ _).symm
end

section
open Go.RowKit Go.Proofs.YtpdpgppaoipnlaaDoorW.PrintWords PAll

theorem utfRight_iff (r : Int) : utfRight r = true ↔ 0 ≤ r ∧ r ≤ 1114111 ∧ (r < 55296 ∨ 57343 < r) := by unfold utfRight; simp
theorem formL_1 (r : Int) (h : r < 128) : formL r = [r] := by unfold formL; rw [if_pos h]
theorem formL_2 (r : Int) (h : 128 ≤ r) (h' : r < 2048) : formL r = [192 + r / 64, 128 + r % 64] := by unfold formL; rw [if_neg (by omega), if_pos h']
theorem formL_3 (r : Int) (h : 2048 ≤ r) (h' : r < 65536) : formL r = [224 + r / 4096, 128 + r / 64 % 64, 128 + r % 64] := by unfold formL; rw [if_neg (by omega), if_neg (by omega), if_pos h']
theorem formL_4 (r : Int) (h : 65536 ≤ r) : formL r = [240 + r / 262144, 128 + r / 4096 % 64, 128 + r / 64 % 64, 128 + r % 64] := by unfold formL; rw [if_neg (by omega), if_neg (by omega), if_neg (by omega)]

theorem ok1 (b0 : Int) (h0 : 0 ≤ b0) (h1 : b0 ≤ 255) : (0 ≤ val1 b0 ∧ utfRight (val1 b0) = true ∧ formL (val1 b0) = [b0]) ↔ b0 < 128 := by
  unfold val1
  split
  · rw [utfRight_iff, formL_1 _ (by omega)]
    exact ⟨fun _ => by omega, fun _ => ⟨h0, by omega, rfl⟩⟩
  · exact ⟨fun h => absurd h.1 (by omega), fun h => absurd h (by omega)⟩

theorem ok2 (b0 b1 : Int) : (0 ≤ val2 b0 b1 ∧ utfRight (val2 b0 b1) = true ∧ formL (val2 b0 b1) = [b0, b1]) ↔ (194 ≤ b0 ∧ b0 < 224 ∧ 128 ≤ b1 ∧ b1 ≤ 191) := by
  unfold val2
  split
  · rename_i hc
    by_cases hm : 194 ≤ b0
    · rw [utfRight_iff, formL_2 _ (by omega) (by omega)]
      simp only [List.cons.injEq, and_true]
      omega
    · rw [formL_1 _ (by omega)]
      exact ⟨fun h => by simp at h, fun h => by omega⟩
  · exact ⟨fun h => absurd h.1 (by omega), fun h => by omega⟩

theorem ok3 (b0 b1 b2 : Int) : (0 ≤ val3 b0 b1 b2 ∧ utfRight (val3 b0 b1 b2) = true ∧ formL (val3 b0 b1 b2) = [b0, b1, b2]) ↔
    (224 ≤ b0 ∧ b0 < 240 ∧ 128 ≤ b1 ∧ b1 ≤ 191 ∧ 128 ≤ b2 ∧ b2 ≤ 191 ∧ (b0 = 224 → 160 ≤ b1) ∧ (b0 = 237 → b1 < 160)) := by
  unfold val3
  split
  · rename_i hc
    by_cases hm : 2048 ≤ ((b0 - 224) * 64 + (b1 - 128)) * 64 + (b2 - 128)
    · rw [utfRight_iff, formL_3 _ (by omega) (by omega)]
      simp only [List.cons.injEq, and_true]
      omega
    · refine ⟨fun h => ?_, fun h => by omega⟩
      have := congrArg List.length h.2.2
      by_cases h' : ((b0 - 224) * 64 + (b1 - 128)) * 64 + (b2 - 128) < 128
      · rw [formL_1 _ h'] at this; simp at this
      · rw [formL_2 _ (by omega) (by omega)] at this; simp at this
  · exact ⟨fun h => absurd h.1 (by omega), fun h => by omega⟩

theorem ok4 (b0 b1 b2 b3 : Int) : (0 ≤ val4 b0 b1 b2 b3 ∧ utfRight (val4 b0 b1 b2 b3) = true ∧ formL (val4 b0 b1 b2 b3) = [b0, b1, b2, b3]) ↔
    (240 ≤ b0 ∧ b0 < 245 ∧ 128 ≤ b1 ∧ b1 ≤ 191 ∧ 128 ≤ b2 ∧ b2 ≤ 191 ∧ 128 ≤ b3 ∧ b3 ≤ 191 ∧ (b0 = 240 → 144 ≤ b1) ∧ (b0 = 244 → b1 < 144)) := by
  unfold val4
  split
  · rename_i hc
    by_cases hm : 65536 ≤ (((b0 - 240) * 64 + (b1 - 128)) * 64 + (b2 - 128)) * 64 + (b3 - 128)
    · rw [utfRight_iff, formL_4 _ (by omega)]
      simp only [List.cons.injEq, and_true]
      omega
    · refine ⟨fun h => ?_, fun h => by omega⟩
      have := congrArg List.length h.2.2
      by_cases h' : (((b0 - 240) * 64 + (b1 - 128)) * 64 + (b2 - 128)) * 64 + (b3 - 128) < 128
      · rw [formL_1 _ h'] at this; simp at this
      · by_cases h'' : (((b0 - 240) * 64 + (b1 - 128)) * 64 + (b2 - 128)) * 64 + (b3 - 128) < 2048
        · rw [formL_2 _ (by omega) (by omega)] at this; simp at this
        · rw [formL_3 _ (by omega) (by omega)] at this; simp at this
  · exact ⟨fun h => absurd h.1 (by omega), fun h => by omega⟩

theorem someB_2 (a b : Int) : someB a b 2 = true ↔ (if 55296 ≤ (if a < 128 then 128 else a) ∧ (if a < 128 then 128 else a) ≤ 57343 then 57344 else (if a < 128 then 128 else a)) ≤ (if 2047 < b then 2047 else b) := by
  unfold someB; simp
theorem someB_3 (a b : Int) : someB a b 3 = true ↔ (if 55296 ≤ (if a < 2048 then 2048 else a) ∧ (if a < 2048 then 2048 else a) ≤ 57343 then 57344 else (if a < 2048 then 2048 else a)) ≤ (if 65535 < b then 65535 else b) := by
  unfold someB; simp
theorem someB_4 (a b : Int) : someB a b 4 = true ↔ (if 55296 ≤ (if a < 65536 then 65536 else a) ∧ (if a < 65536 then 65536 else a) ≤ 57343 then 57344 else (if a < 65536 then 65536 else a)) ≤ (if 1114111 < b then 1114111 else b) := by
  unfold someB; simp

theorem pc2 (b0 : Int) : (0 ≤ val2 b0 128 ∧ 0 ≤ val2 b0 191 ∧ someB (val2 b0 128) (val2 b0 191) 2 = true) ↔ (194 ≤ b0 ∧ b0 < 224) := by
  rw [someB_2]; unfold val2
  omega
theorem pc3 (b0 b1 b1' : Int) (h : b1 = b1' ∨ b1 = 128 ∧ b1' = 191) : (0 ≤ val3 b0 b1 128 ∧ 0 ≤ val3 b0 b1' 191 ∧ someB (val3 b0 b1 128) (val3 b0 b1' 191) 3 = true) ↔ (224 ≤ b0 ∧ b0 < 240 ∧ 128 ≤ b1 ∧ b1' ≤ 191 ∧ (b0 = 224 → 160 ≤ b1') ∧ (b0 = 237 → b1 < 160)) := by
  rw [someB_3]; unfold val3
  rcases h with rfl | ⟨rfl, rfl⟩ <;> omega
theorem pc4 (b0 b1 b1' b2 b2' : Int) (h : b1 = b1' ∧ (b2 = b2' ∨ b2 = 128 ∧ b2' = 191) ∨ b1 = 128 ∧ b1' = 191 ∧ b2 = 128 ∧ b2' = 191) :
    (0 ≤ val4 b0 b1 b2 128 ∧ 0 ≤ val4 b0 b1' b2' 191 ∧ someB (val4 b0 b1 b2 128) (val4 b0 b1' b2' 191) 4 = true) ↔ (240 ≤ b0 ∧ b0 < 245 ∧ 128 ≤ b1 ∧ b1' ≤ 191 ∧ 128 ≤ b2 ∧ b2' ≤ 191 ∧ (b0 = 240 → 144 ≤ b1') ∧ (b0 = 244 → b1 < 144)) := by
  rw [someB_4]; unfold val4
  rcases h with ⟨rfl, rfl | ⟨rfl, rfl⟩⟩ | ⟨rfl, rfl, rfl, rfl⟩ <;> omega
end

section
open Go.RowKit Go.Proofs.YtpdpgppaoipnlaaDoorW.PrintWords PAll

/-- 'nx' by its bytes; m: how many there are. -/
def nxB (m b0 b1 b2 b3 : Int) : Int × Int × Int :=
  if b0 < 128 then (b0, 1, 0) else if b0 < 194 then (0, 0, 1) else if 245 ≤ b0 then (0, 0, 1) else if m ≤ 1 then (0, 0, 2)
  else if b1 < 128 ∨ 191 < b1 ∨ b0 = 224 ∧ b1 < 160 ∨ b0 = 237 ∧ 159 < b1 ∨ b0 = 240 ∧ b1 < 144 ∨ b0 = 244 ∧ 143 < b1 then (0, 0, 1)
  else if b0 < 224 then (b0 % 32 * 64 + b1 % 64, 2, 0) else if m ≤ 2 then (0, 0, 2) else if b2 < 128 ∨ 191 < b2 then (0, 0, 1)
  else if b0 < 240 then ((b0 % 16 * 64 + b1 % 64) * 64 + b2 % 64, 3, 0) else if m ≤ 3 then (0, 0, 2) else if b3 < 128 ∨ 191 < b3 then (0, 0, 1)
  else (((b0 % 8 * 64 + b1 % 64) * 64 + b2 % 64) * 64 + b3 % 64, 4, 0)

theorem pick3 {a b c a' b' c' : Int} (h1 : a = a') (h2 : b = b') (h3 : c = c') : ((a, b, c) : Int × Int × Int) = (a', b', c') := by rw [h1, h2, h3]

set_option maxHeartbeats 1000000 in
theorem nx_bytes (s : ByteArray) (at_ : Int) (h0 : 0 ≤ at_) (h1 : at_ < s.size) : nx s at_ = nxB (s.size - at_) (bt s at_) (bt s (at_ + 1)) (bt s (at_ + 2)) (bt s (at_ + 3)) := by
  have r0 := bt_range s at_
  unfold nx nxB
  rw [if_neg (by omega), ← btP]
  simp only [nxStep, ← btP]
  by_cases a : 245 ≤ bt s at_
  · rw [show utfFirst (bt s at_) = (-1, 0, 128, 191) by unfold utfFirst; rw [if_pos a]]
    simp only [Int.reduceNeg, Int.reduceLT, ↓reduceIte]
    (repeat (first | rw [if_pos (by omega)] | rw [if_neg (by omega)])) <;> first | rfl | (apply pick3 <;> omega) | (congr 1; apply pick3 <;> omega)
  · by_cases b : 240 ≤ bt s at_
    · rw [show utfFirst (bt s at_) = (3, bt s at_ % 8, if bt s at_ = 240 then 144 else 128, if bt s at_ = 244 then 143 else 191) by unfold utfFirst; rw [if_neg a, if_pos b]]
      simp only [Int.reduceNeg, Int.reduceLT, Int.reduceEq, ↓reduceIte]
      rw [if_neg (show ¬ bt s at_ < 128 by omega), if_neg (show ¬ bt s at_ < 194 by omega), if_neg a, if_neg (show ¬ bt s at_ < 224 by omega), if_neg (show ¬ bt s at_ < 240 by omega)]
      have e : (bt s (at_ + 1) < (if bt s at_ = 240 then 144 else 128) ∨ (if bt s at_ = 244 then 143 else 191) < bt s (at_ + 1)) ↔ (bt s (at_ + 1) < 128 ∨ 191 < bt s (at_ + 1) ∨ bt s at_ = 224 ∧ bt s (at_ + 1) < 160 ∨ bt s at_ = 237 ∧ 159 < bt s (at_ + 1) ∨ bt s at_ = 240 ∧ bt s (at_ + 1) < 144 ∨ bt s at_ = 244 ∧ 143 < bt s (at_ + 1)) := by omega
      simp only [e, show ((s.size : Int) - at_ ≤ 1) ↔ ((s.size : Int) ≤ at_ + 1) by omega, show ((s.size : Int) - at_ ≤ 2) ↔ ((s.size : Int) ≤ at_ + 2) by omega, show ((s.size : Int) - at_ ≤ 3) ↔ ((s.size : Int) ≤ at_ + 3) by omega]
      congr
    · by_cases c : 224 ≤ bt s at_
      · rw [show utfFirst (bt s at_) = (2, bt s at_ % 16, if bt s at_ = 224 then 160 else 128, if bt s at_ = 237 then 159 else 191) by unfold utfFirst; rw [if_neg a, if_neg b, if_pos c]]
        simp only [Int.reduceNeg, Int.reduceLT, Int.reduceEq, ↓reduceIte]
        rw [if_neg (show ¬ bt s at_ < 128 by omega), if_neg (show ¬ bt s at_ < 194 by omega), if_neg a, if_neg (show ¬ bt s at_ < 224 by omega), if_pos (show bt s at_ < 240 by omega)]
        have e : (bt s (at_ + 1) < (if bt s at_ = 224 then 160 else 128) ∨ (if bt s at_ = 237 then 159 else 191) < bt s (at_ + 1)) ↔ (bt s (at_ + 1) < 128 ∨ 191 < bt s (at_ + 1) ∨ bt s at_ = 224 ∧ bt s (at_ + 1) < 160 ∨ bt s at_ = 237 ∧ 159 < bt s (at_ + 1) ∨ bt s at_ = 240 ∧ bt s (at_ + 1) < 144 ∨ bt s at_ = 244 ∧ 143 < bt s (at_ + 1)) := by omega
        simp only [e]
        by_cases z0 : (s.size : Int) - at_ ≤ 1
        · (repeat (first | rw [if_pos (by omega)] | rw [if_neg (by omega)])) <;> first | rfl | (apply pick3 <;> omega) | (congr 1; apply pick3 <;> omega)
        by_cases z1 : bt s (at_ + 1) < 128 ∨ 191 < bt s (at_ + 1) ∨ bt s at_ = 224 ∧ bt s (at_ + 1) < 160 ∨ bt s at_ = 237 ∧ 159 < bt s (at_ + 1) ∨ bt s at_ = 240 ∧ bt s (at_ + 1) < 144 ∨ bt s at_ = 244 ∧ 143 < bt s (at_ + 1)
        · (repeat (first | rw [if_pos (by omega)] | rw [if_neg (by omega)])) <;> first | rfl | (apply pick3 <;> omega) | (congr 1; apply pick3 <;> omega)
        by_cases z2 : (s.size : Int) - at_ ≤ 2
        · (repeat (first | rw [if_pos (by omega)] | rw [if_neg (by omega)])) <;> first | rfl | (apply pick3 <;> omega) | (congr 1; apply pick3 <;> omega)
        by_cases z3 : bt s (at_ + 2) < 128 ∨ 191 < bt s (at_ + 2)
        · (repeat (first | rw [if_pos (by omega)] | rw [if_neg (by omega)])) <;> first | rfl | (apply pick3 <;> omega) | (congr 1; apply pick3 <;> omega)
        (repeat (first | rw [if_pos (by omega)] | rw [if_neg (by omega)])) <;> first | rfl | (apply pick3 <;> omega) | (congr 1; apply pick3 <;> omega)
      · by_cases d : 194 ≤ bt s at_
        · rw [show utfFirst (bt s at_) = (1, bt s at_ % 32, 128, 191) by unfold utfFirst; rw [if_neg a, if_neg b, if_neg c, if_pos d]]
          simp only [Int.reduceNeg, Int.reduceLT, Int.reduceEq, ↓reduceIte]
          rw [if_neg (show ¬ bt s at_ < 128 by omega), if_neg (show ¬ bt s at_ < 194 by omega), if_neg a, if_pos (show bt s at_ < 224 by omega)]
          by_cases z0 : (s.size : Int) - at_ ≤ 1
          · (repeat (first | rw [if_pos (by omega)] | rw [if_neg (by omega)])) <;> first | rfl | (apply pick3 <;> omega) | (congr 1; apply pick3 <;> omega)
          by_cases z1 : bt s (at_ + 1) < 128 ∨ 191 < bt s (at_ + 1) ∨ bt s at_ = 224 ∧ bt s (at_ + 1) < 160 ∨ bt s at_ = 237 ∧ 159 < bt s (at_ + 1) ∨ bt s at_ = 240 ∧ bt s (at_ + 1) < 144 ∨ bt s at_ = 244 ∧ 143 < bt s (at_ + 1)
          · (repeat (first | rw [if_pos (by omega)] | rw [if_neg (by omega)])) <;> first | rfl | (apply pick3 <;> omega) | (congr 1; apply pick3 <;> omega)
          (repeat (first | rw [if_pos (by omega)] | rw [if_neg (by omega)])) <;> first | rfl | (apply pick3 <;> omega) | (congr 1; apply pick3 <;> omega)
        · by_cases e : 128 ≤ bt s at_
          · rw [show utfFirst (bt s at_) = (-1, 0, 128, 191) by unfold utfFirst; rw [if_neg a, if_neg b, if_neg c, if_neg d, if_pos e]]
            simp only [Int.reduceNeg, Int.reduceLT, ↓reduceIte]
            rw [if_neg (show ¬ bt s at_ < 128 by omega), if_pos (show bt s at_ < 194 by omega)]
          · rw [show utfFirst (bt s at_) = (0, bt s at_, 128, 191) by unfold utfFirst; rw [if_neg a, if_neg b, if_neg c, if_neg d, if_neg e]]
            simp only [Int.reduceNeg, Int.reduceLT, Int.reduceEq, ↓reduceIte]
            rw [if_pos (show bt s at_ < 128 by omega)]

theorem rest_bt (s : ByteArray) (i j : Int) (h0 : 0 ≤ i) (hj : 0 ≤ j) (hn : i + j < s.size) : bt (s.extract i.toNat s.size) j = bt s (i + j) := by
  have := ext_bt s i (s.size - i) j h0 hj (by omega)
  rwa [show (i + ((s.size : Int) - i)).toNat = s.size by omega] at this
theorem ext_ints (s : ByteArray) (at_ n : Int) (h0 : 0 ≤ at_) (hn : 0 ≤ n) (h : at_ + n ≤ s.size) : ints (s.extract at_.toNat (at_ + n).toNat) = (List.range n.toNat).map fun (i : Nat) => bt s (at_ + (i : Int)) := by
  apply List.ext_getElem?
  intro i
  rw [ints_extract, List.getElem?_drop, List.getElem?_take]
  by_cases hi : i < n.toNat
  · rw [if_pos (by omega), List.getElem?_map, List.getElem?_range hi]
    simp only [Option.map_some, btP, bt_ints]
    rw [show (at_ + (i : Int)).toNat = at_.toNat + i by omega, List.getD_eq_getElem?_getD, List.getElem?_eq_getElem (by rw [ints_length]; omega)]
    rfl
  · rw [if_neg (by omega), List.getElem?_map, List.getElem?_eq_none (by simp; omega)]
    rfl

theorem ext_ints_1 (s : ByteArray) (at_ : Int) (h0 : 0 ≤ at_) (h : at_ + 1 ≤ s.size) : ints (s.extract at_.toNat (at_ + 1).toNat) = [bt s at_] := by
  rw [ext_ints s at_ 1 h0 (by omega) h]
  simp [List.range_succ]
theorem ext_ints_2 (s : ByteArray) (at_ : Int) (h0 : 0 ≤ at_) (h : at_ + 2 ≤ s.size) : ints (s.extract at_.toNat (at_ + 2).toNat) = [bt s at_, bt s (at_ + 1)] := by
  rw [ext_ints s at_ 2 h0 (by omega) h]
  simp [List.range_succ]
theorem ext_ints_3 (s : ByteArray) (at_ : Int) (h0 : 0 ≤ at_) (h : at_ + 3 ≤ s.size) : ints (s.extract at_.toNat (at_ + 3).toNat) = [bt s at_, bt s (at_ + 1), bt s (at_ + 2)] := by
  rw [ext_ints s at_ 3 h0 (by omega) h]
  simp [List.range_succ]
theorem ext_ints_4 (s : ByteArray) (at_ : Int) (h0 : 0 ≤ at_) (h : at_ + 4 ≤ s.size) : ints (s.extract at_.toNat (at_ + 4).toNat) = [bt s at_, bt s (at_ + 1), bt s (at_ + 2), bt s (at_ + 3)] := by
  rw [ext_ints s at_ 4 h0 (by omega) h]
  simp [List.range_succ]
theorem step_1 (s : ByteArray) (at_ : Int) (h0 : 0 ≤ at_) (h : at_ + 1 ≤ s.size) (hs : s.size ≤ 1000000) (k : Nat) :
    eponymref01_Next.l0 (k + 30) s at_ 1 = if bt s at_ < 128 then some (val1 (bt s at_), 1, 0) else eponymref01_Next.l0 (k + 28) s at_ 2 := by
  have r0 := bt_range s at_
  have := l0_step s at_ 1 (val1 (bt s at_)) k h0 hs (by omega) (by omega) h (by
    rw [value_1 _ (ext_size s at_ 1 h0 (by omega) h) (k + 8), ext_bt s at_ 1 0 h0 (by omega) (by omega), Int.add_zero])
  rw [ext_ints_1 s at_ h0 h, show (1 : Int) + 1 = 2 from rfl] at this
  rw [this]
  by_cases c : bt s at_ < 128
  · rw [if_pos c, if_pos ((ok1 _ r0.1 r0.2).2 c)]
  · rw [if_neg c, if_neg (fun h => c ((ok1 _ r0.1 r0.2).1 h))]
theorem step_2 (s : ByteArray) (at_ : Int) (h0 : 0 ≤ at_) (h : at_ + 2 ≤ s.size) (hs : s.size ≤ 1000000) (k : Nat) :
    eponymref01_Next.l0 (k + 30) s at_ 2 = if 194 ≤ bt s at_ ∧ bt s at_ < 224 ∧ 128 ≤ bt s (at_ + 1) ∧ bt s (at_ + 1) ≤ 191 then some (val2 (bt s at_) (bt s (at_ + 1)), 2, 0) else eponymref01_Next.l0 (k + 28) s at_ 3 := by
  have r0 := bt_range s at_
  have := l0_step s at_ 2 (val2 (bt s at_) (bt s (at_ + 1))) k h0 hs (by omega) (by omega) h (by
    rw [value_2 _ (ext_size s at_ 2 h0 (by omega) h) (k + 8), ext_bt s at_ 2 0 h0 (by omega) (by omega), ext_bt s at_ 2 1 h0 (by omega) (by omega), Int.add_zero])
  rw [ext_ints_2 s at_ h0 h, show (2 : Int) + 1 = 3 from rfl] at this
  rw [this]
  by_cases c : 194 ≤ bt s at_ ∧ bt s at_ < 224 ∧ 128 ≤ bt s (at_ + 1) ∧ bt s (at_ + 1) ≤ 191
  · rw [if_pos c, if_pos ((ok2 _ _).2 c)]
  · rw [if_neg c, if_neg (fun h => c ((ok2 _ _).1 h))]
theorem step_3 (s : ByteArray) (at_ : Int) (h0 : 0 ≤ at_) (h : at_ + 3 ≤ s.size) (hs : s.size ≤ 1000000) (k : Nat) :
    eponymref01_Next.l0 (k + 30) s at_ 3 = if 224 ≤ bt s at_ ∧ bt s at_ < 240 ∧ 128 ≤ bt s (at_ + 1) ∧ bt s (at_ + 1) ≤ 191 ∧ 128 ≤ bt s (at_ + 2) ∧ bt s (at_ + 2) ≤ 191 ∧ (bt s at_ = 224 → 160 ≤ bt s (at_ + 1)) ∧ (bt s at_ = 237 → bt s (at_ + 1) < 160) then some (val3 (bt s at_) (bt s (at_ + 1)) (bt s (at_ + 2)), 3, 0) else eponymref01_Next.l0 (k + 28) s at_ 4 := by
  have r0 := bt_range s at_
  have := l0_step s at_ 3 (val3 (bt s at_) (bt s (at_ + 1)) (bt s (at_ + 2))) k h0 hs (by omega) (by omega) h (by
    rw [value_3 _ (ext_size s at_ 3 h0 (by omega) h) (k + 8), ext_bt s at_ 3 0 h0 (by omega) (by omega), ext_bt s at_ 3 1 h0 (by omega) (by omega), ext_bt s at_ 3 2 h0 (by omega) (by omega), Int.add_zero])
  rw [ext_ints_3 s at_ h0 h, show (3 : Int) + 1 = 4 from rfl] at this
  rw [this]
  by_cases c : 224 ≤ bt s at_ ∧ bt s at_ < 240 ∧ 128 ≤ bt s (at_ + 1) ∧ bt s (at_ + 1) ≤ 191 ∧ 128 ≤ bt s (at_ + 2) ∧ bt s (at_ + 2) ≤ 191 ∧ (bt s at_ = 224 → 160 ≤ bt s (at_ + 1)) ∧ (bt s at_ = 237 → bt s (at_ + 1) < 160)
  · rw [if_pos c, if_pos ((ok3 _ _ _).2 c)]
  · rw [if_neg c, if_neg (fun h => c ((ok3 _ _ _).1 h))]
theorem step_4 (s : ByteArray) (at_ : Int) (h0 : 0 ≤ at_) (h : at_ + 4 ≤ s.size) (hs : s.size ≤ 1000000) (k : Nat) :
    eponymref01_Next.l0 (k + 30) s at_ 4 = if 240 ≤ bt s at_ ∧ bt s at_ < 245 ∧ 128 ≤ bt s (at_ + 1) ∧ bt s (at_ + 1) ≤ 191 ∧ 128 ≤ bt s (at_ + 2) ∧ bt s (at_ + 2) ≤ 191 ∧ 128 ≤ bt s (at_ + 3) ∧ bt s (at_ + 3) ≤ 191 ∧ (bt s at_ = 240 → 144 ≤ bt s (at_ + 1)) ∧ (bt s at_ = 244 → bt s (at_ + 1) < 144) then some (val4 (bt s at_) (bt s (at_ + 1)) (bt s (at_ + 2)) (bt s (at_ + 3)), 4, 0) else eponymref01_Next.l0 (k + 28) s at_ 5 := by
  have r0 := bt_range s at_
  have := l0_step s at_ 4 (val4 (bt s at_) (bt s (at_ + 1)) (bt s (at_ + 2)) (bt s (at_ + 3))) k h0 hs (by omega) (by omega) h (by
    rw [value_4 _ (ext_size s at_ 4 h0 (by omega) h) (k + 8), ext_bt s at_ 4 0 h0 (by omega) (by omega), ext_bt s at_ 4 1 h0 (by omega) (by omega), ext_bt s at_ 4 2 h0 (by omega) (by omega), ext_bt s at_ 4 3 h0 (by omega) (by omega), Int.add_zero])
  rw [ext_ints_4 s at_ h0 h, show (4 : Int) + 1 = 5 from rfl] at this
  rw [this]
  by_cases c : 240 ≤ bt s at_ ∧ bt s at_ < 245 ∧ 128 ≤ bt s (at_ + 1) ∧ bt s (at_ + 1) ≤ 191 ∧ 128 ≤ bt s (at_ + 2) ∧ bt s (at_ + 2) ≤ 191 ∧ 128 ≤ bt s (at_ + 3) ∧ bt s (at_ + 3) ≤ 191 ∧ (bt s at_ = 240 → 144 ≤ bt s (at_ + 1)) ∧ (bt s at_ = 244 → bt s (at_ + 1) < 144)
  · rw [if_pos c, if_pos ((ok4 _ _ _ _).2 c)]
  · rw [if_neg c, if_neg (fun h => c ((ok4 _ _ _ _).1 h))]

set_option maxHeartbeats 2000000 in
theorem ref_next (s : ByteArray) (at_ : Int) (h0 : 0 ≤ at_) (h1 : at_ < s.size) (hs : s.size ≤ 1000000) (k : Nat) : eponymref01_Next.f (k + 400) s at_ = some (nx s at_) := by
  have r0 := bt_range s at_
  have r1 := bt_range s (at_ + 1)
  have r2 := bt_range s (at_ + 2)
  have r3 := bt_range s (at_ + 3)
  have hr : ((s.extract at_.toNat s.size).size : Int) = s.size - at_ := by rw [ByteArray.size_extract]; omega
  have b0 : ∀ j : Int, 0 ≤ j → at_ + j < s.size → bt (s.extract at_.toNat s.size) j = bt s (at_ + j) := fun j hj hn => rest_bt s at_ j h0 hj hn
  rw [nx_bytes s at_ h0 h1]
  unfold eponymref01_Next.f
  rw [show k + 400 = k + 370 + 30 from rfl, step_1 s at_ h0 (by omega) hs (k + 370)]
  by_cases c1 : bt s at_ < 128
  · rw [if_pos c1]; unfold nxB val1; rw [if_pos c1, if_pos c1]
  rw [if_neg c1]
  by_cases m1 : (s.size : Int) - at_ = 1
  · rw [show k + 370 + 28 = k + 368 + 30 from rfl, l0_end s at_ 2 (k + 368) h0 (by omega) hs (by omega) (by omega) (by omega), m1, show (1 : Int) + 1 = 2 from rfl, show k + 368 + 28 = k + 276 + 120 from rfl, l1_pad1 _ (by omega) (k + 276)]
    rw [b0 0 (by omega) (by omega), Int.add_zero]
    unfold pad1 nxB
    simp only [pc2, pc3 _ 128 191 (.inr ⟨rfl, rfl⟩), pc4 _ 128 191 128 191 (.inr ⟨rfl, rfl, rfl, rfl⟩)]
    by_cases z0 : bt s at_ < 194
    · (repeat (first | rw [if_pos (by omega)] | rw [if_neg (by omega)])) <;> first | rfl | (apply pick3 <;> omega) | (congr 1; apply pick3 <;> omega)
    by_cases z1 : 245 ≤ bt s at_
    · (repeat (first | rw [if_pos (by omega)] | rw [if_neg (by omega)])) <;> first | rfl | (apply pick3 <;> omega) | (congr 1; apply pick3 <;> omega)
    by_cases z2 : bt s at_ < 224
    · (repeat (first | rw [if_pos (by omega)] | rw [if_neg (by omega)])) <;> first | rfl | (apply pick3 <;> omega) | (congr 1; apply pick3 <;> omega)
    by_cases z3 : bt s at_ < 240
    · (repeat (first | rw [if_pos (by omega)] | rw [if_neg (by omega)])) <;> first | rfl | (apply pick3 <;> omega) | (congr 1; apply pick3 <;> omega)
    (repeat (first | rw [if_pos (by omega)] | rw [if_neg (by omega)])) <;> first | rfl | (apply pick3 <;> omega) | (congr 1; apply pick3 <;> omega)
  rw [show k + 370 + 28 = k + 368 + 30 from rfl, step_2 s at_ h0 (by omega) hs (k + 368)]
  by_cases c2 : 194 ≤ bt s at_ ∧ bt s at_ < 224 ∧ 128 ≤ bt s (at_ + 1) ∧ bt s (at_ + 1) ≤ 191
  · rw [if_pos c2]; unfold nxB val2; (repeat (first | rw [if_pos (by omega)] | rw [if_neg (by omega)])) <;> first | rfl | (apply pick3 <;> omega) | (congr 1; apply pick3 <;> omega)
  rw [if_neg c2]
  by_cases m2 : (s.size : Int) - at_ = 2
  · rw [show k + 368 + 28 = k + 366 + 30 from rfl, l0_end s at_ 3 (k + 366) h0 (by omega) hs (by omega) (by omega) (by omega), m2, show (2 : Int) + 1 = 3 from rfl, show k + 366 + 28 = k + 304 + 90 from rfl, l1_pad2 _ (by omega) (k + 304)]
    rw [b0 0 (by omega) (by omega), b0 1 (by omega) (by omega), Int.add_zero]
    unfold pad2 nxB
    simp only [pc3 _ (bt s (at_ + 1)) _ (.inl rfl), pc4 _ (bt s (at_ + 1)) _ 128 191 (.inl ⟨rfl, .inr ⟨rfl, rfl⟩⟩)]
    by_cases z0 : bt s at_ < 194
    · (repeat (first | rw [if_pos (by omega)] | rw [if_neg (by omega)])) <;> first | rfl | (apply pick3 <;> omega) | (congr 1; apply pick3 <;> omega)
    by_cases z1 : 245 ≤ bt s at_
    · (repeat (first | rw [if_pos (by omega)] | rw [if_neg (by omega)])) <;> first | rfl | (apply pick3 <;> omega) | (congr 1; apply pick3 <;> omega)
    by_cases z2 : bt s at_ < 224
    · (repeat (first | rw [if_pos (by omega)] | rw [if_neg (by omega)])) <;> first | rfl | (apply pick3 <;> omega) | (congr 1; apply pick3 <;> omega)
    by_cases z3 : bt s (at_ + 1) < 128 ∨ 191 < bt s (at_ + 1) ∨ bt s at_ = 224 ∧ bt s (at_ + 1) < 160 ∨ bt s at_ = 237 ∧ 159 < bt s (at_ + 1) ∨ bt s at_ = 240 ∧ bt s (at_ + 1) < 144 ∨ bt s at_ = 244 ∧ 143 < bt s (at_ + 1)
    · (repeat (first | rw [if_pos (by omega)] | rw [if_neg (by omega)])) <;> first | rfl | (apply pick3 <;> omega) | (congr 1; apply pick3 <;> omega)
    by_cases z4 : bt s at_ < 240
    · (repeat (first | rw [if_pos (by omega)] | rw [if_neg (by omega)])) <;> first | rfl | (apply pick3 <;> omega) | (congr 1; apply pick3 <;> omega)
    (repeat (first | rw [if_pos (by omega)] | rw [if_neg (by omega)])) <;> first | rfl | (apply pick3 <;> omega) | (congr 1; apply pick3 <;> omega)
  rw [show k + 368 + 28 = k + 366 + 30 from rfl, step_3 s at_ h0 (by omega) hs (k + 366)]
  by_cases c3 : 224 ≤ bt s at_ ∧ bt s at_ < 240 ∧ 128 ≤ bt s (at_ + 1) ∧ bt s (at_ + 1) ≤ 191 ∧ 128 ≤ bt s (at_ + 2) ∧ bt s (at_ + 2) ≤ 191 ∧ (bt s at_ = 224 → 160 ≤ bt s (at_ + 1)) ∧ (bt s at_ = 237 → bt s (at_ + 1) < 160)
  · rw [if_pos c3]; unfold nxB val3; (repeat (first | rw [if_pos (by omega)] | rw [if_neg (by omega)])) <;> first | rfl | (apply pick3 <;> omega) | (congr 1; apply pick3 <;> omega)
  rw [if_neg c3]
  by_cases m3 : (s.size : Int) - at_ = 3
  · rw [show k + 366 + 28 = k + 364 + 30 from rfl, l0_end s at_ 4 (k + 364) h0 (by omega) hs (by omega) (by omega) (by omega), m3, show (3 : Int) + 1 = 4 from rfl, show k + 364 + 28 = k + 332 + 60 from rfl, l1_pad3 _ (by omega) (k + 332)]
    rw [b0 0 (by omega) (by omega), b0 1 (by omega) (by omega), b0 2 (by omega) (by omega), Int.add_zero]
    unfold pad3 nxB
    simp only [pc4 _ (bt s (at_ + 1)) _ (bt s (at_ + 2)) _ (.inl ⟨rfl, .inl rfl⟩)]
    by_cases z0 : bt s at_ < 194
    · (repeat (first | rw [if_pos (by omega)] | rw [if_neg (by omega)])) <;> first | rfl | (apply pick3 <;> omega) | (congr 1; apply pick3 <;> omega)
    by_cases z1 : 245 ≤ bt s at_
    · (repeat (first | rw [if_pos (by omega)] | rw [if_neg (by omega)])) <;> first | rfl | (apply pick3 <;> omega) | (congr 1; apply pick3 <;> omega)
    by_cases z2 : bt s at_ < 224
    · (repeat (first | rw [if_pos (by omega)] | rw [if_neg (by omega)])) <;> first | rfl | (apply pick3 <;> omega) | (congr 1; apply pick3 <;> omega)
    by_cases z3 : bt s (at_ + 1) < 128 ∨ 191 < bt s (at_ + 1) ∨ bt s at_ = 224 ∧ bt s (at_ + 1) < 160 ∨ bt s at_ = 237 ∧ 159 < bt s (at_ + 1) ∨ bt s at_ = 240 ∧ bt s (at_ + 1) < 144 ∨ bt s at_ = 244 ∧ 143 < bt s (at_ + 1)
    · (repeat (first | rw [if_pos (by omega)] | rw [if_neg (by omega)])) <;> first | rfl | (apply pick3 <;> omega) | (congr 1; apply pick3 <;> omega)
    by_cases z4 : bt s (at_ + 2) < 128 ∨ 191 < bt s (at_ + 2)
    · (repeat (first | rw [if_pos (by omega)] | rw [if_neg (by omega)])) <;> first | rfl | (apply pick3 <;> omega) | (congr 1; apply pick3 <;> omega)
    by_cases z5 : bt s at_ < 240
    · (repeat (first | rw [if_pos (by omega)] | rw [if_neg (by omega)])) <;> first | rfl | (apply pick3 <;> omega) | (congr 1; apply pick3 <;> omega)
    (repeat (first | rw [if_pos (by omega)] | rw [if_neg (by omega)])) <;> first | rfl | (apply pick3 <;> omega) | (congr 1; apply pick3 <;> omega)
  rw [show k + 366 + 28 = k + 364 + 30 from rfl, step_4 s at_ h0 (by omega) hs (k + 364)]
  by_cases c4 : 240 ≤ bt s at_ ∧ bt s at_ < 245 ∧ 128 ≤ bt s (at_ + 1) ∧ bt s (at_ + 1) ≤ 191 ∧ 128 ≤ bt s (at_ + 2) ∧ bt s (at_ + 2) ≤ 191 ∧ 128 ≤ bt s (at_ + 3) ∧ bt s (at_ + 3) ≤ 191 ∧ (bt s at_ = 240 → 144 ≤ bt s (at_ + 1)) ∧ (bt s at_ = 244 → bt s (at_ + 1) < 144)
  · rw [if_pos c4]; unfold nxB val4; (repeat (first | rw [if_pos (by omega)] | rw [if_neg (by omega)])) <;> first | rfl | (apply pick3 <;> omega) | (congr 1; apply pick3 <;> omega)
  rw [if_neg c4, show k + 364 + 28 = k + 362 + 30 from rfl, l0_end s at_ 5 (k + 362) h0 (by omega) hs (by omega) (by omega) (.inr rfl), show k + 362 + 28 = k + 389 + 1 from rfl, l1_end _ _ _ (by omega)]
  unfold nxB
  by_cases z0 : bt s at_ < 194
  · (repeat (first | rw [if_pos (by omega)] | rw [if_neg (by omega)])) <;> first | rfl | (apply pick3 <;> omega) | (congr 1; apply pick3 <;> omega)
  by_cases z1 : 245 ≤ bt s at_
  · (repeat (first | rw [if_pos (by omega)] | rw [if_neg (by omega)])) <;> first | rfl | (apply pick3 <;> omega) | (congr 1; apply pick3 <;> omega)
  by_cases z2 : bt s at_ < 224
  · (repeat (first | rw [if_pos (by omega)] | rw [if_neg (by omega)])) <;> first | rfl | (apply pick3 <;> omega) | (congr 1; apply pick3 <;> omega)
  by_cases z3 : bt s (at_ + 1) < 128 ∨ 191 < bt s (at_ + 1) ∨ bt s at_ = 224 ∧ bt s (at_ + 1) < 160 ∨ bt s at_ = 237 ∧ 159 < bt s (at_ + 1) ∨ bt s at_ = 240 ∧ bt s (at_ + 1) < 144 ∨ bt s at_ = 244 ∧ 143 < bt s (at_ + 1)
  · (repeat (first | rw [if_pos (by omega)] | rw [if_neg (by omega)])) <;> first | rfl | (apply pick3 <;> omega) | (congr 1; apply pick3 <;> omega)
  by_cases z4 : bt s (at_ + 2) < 128 ∨ 191 < bt s (at_ + 2)
  · (repeat (first | rw [if_pos (by omega)] | rw [if_neg (by omega)])) <;> first | rfl | (apply pick3 <;> omega) | (congr 1; apply pick3 <;> omega)
  by_cases z5 : bt s at_ < 240
  · (repeat (first | rw [if_pos (by omega)] | rw [if_neg (by omega)])) <;> first | rfl | (apply pick3 <;> omega) | (congr 1; apply pick3 <;> omega)
  (repeat (first | rw [if_pos (by omega)] | rw [if_neg (by omega)])) <;> first | rfl | (apply pick3 <;> omega) | (congr 1; apply pick3 <;> omega)
end

section
open Go.RowKit Go.Proofs.YtpdpgppaoipnlaaDoorW.PrintWords PAll

theorem nx_code (s : ByteArray) (at_ : Int) (h0 : 0 ≤ at_) (h1 : at_ < s.size) (hc : (nx s at_).2.2 = 0) : at_ + (nx s at_).2.1 ≤ s.size ∧ 1 ≤ (nx s at_).2.1 ∧ (nx s at_).2.1 ≤ 4 := by
  have := nx_good s at_ (nx s at_).1 (nx s at_).2.1 (by rw [← hc])
  omega

theorem decode_l (s : ByteArray) (hs : s.size ≤ 1000000) : ∀ (n : Nat) (at_ : Int) (acc : List Int) (k : Nat), 0 ≤ at_ → at_ ≤ s.size → (s.size : Int) - at_ ≤ n → (acc.length : Int) ≤ at_ →
    eponymref01_Decode.l0 (k + n + 401) s acc at_ = some (dcd s n at_ acc) := by
  intro n
  induction n with
  | zero =>
    intro at_ acc k h0 h1 hn ha
    rw [show k + 0 + 401 = (k + 400) + 1 from rfl, eponymref01_Decode.l0, if_neg (by omega)]
    rfl
  | succ n ih =>
    intro at_ acc k h0 h1 hn ha
    rw [show k + (n + 1) + 401 = (k + n + 401) + 1 by omega, eponymref01_Decode.l0]
    unfold dcd
    by_cases hlt : at_ < s.size
    · rw [if_pos hlt, show k + n + 401 = (k + n + 1) + 400 from rfl, ref_next s at_ h0 hlt hs]
      simp only [Option.bind_some]
      rw [if_neg (show ¬ (s.size : Int) ≤ at_ by omega)]
      by_cases hc : (nx s at_).2.2 = 0
      · have hg := nx_code s at_ h0 hlt hc
        rw [if_pos hc, if_pos hc, if_pos (by omega), w64 (by omega) (by omega)]
        exact ih _ _ k (by omega) (by omega) (by omega) (by simp; omega)
      · rw [if_neg hc, if_neg hc]
    · rw [if_neg hlt, if_pos (show (s.size : Int) ≤ at_ by omega)]

theorem ref_decode (s : ByteArray) (hs : s.size ≤ 1000000) : eponymref01_Decode.f (s.size + 401) s = some (dec s) := by
  have := decode_l s hs s.size 0 [] 0 (by omega) (by omega) (by omega) (by simp)
  rw [show 0 + s.size + 401 = s.size + 401 by omega] at this
  exact this

end

section
open Go.RowKit Go.Proofs.YtpdpgppaoipnlaaDoorW.PrintWords PAll

theorem nums_append' (bs cs : List Int) : strOfNums bs ++ strOfNums cs = strOfNums (bs ++ cs) := by
  apply ints_inj
  rw [ints_append]
  unfold ints
  rw [strOfNums_data, strOfNums_data, strOfNums_data, List.map_append, List.map_append]
end
end Go.Proofs.YtpdpgppaoipnlaaDoor

