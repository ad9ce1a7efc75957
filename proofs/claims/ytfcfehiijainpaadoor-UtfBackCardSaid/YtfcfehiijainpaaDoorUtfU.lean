/- The reference's Next (as printed) comes to 'nx'. -/
import Derived.Test.YtfcfehiijainpaaDoorUtfT
set_option linter.unusedVariables false
set_option linter.unusedSimpArgs false
namespace Go.Proofs.YtfcfehiijainpaaDoor
open Go.RowKit Go.Proofs.YtfcfehiijainpaaDoorW.PrintWords PAll

/-- 'nx' by its bytes; m: how many there are. -/
def nxB (m b0 b1 b2 b3 : Int) : Int × Int × Int :=
  if b0 < 128 then (b0, 1, 0) else if b0 < 194 then (0, 0, 1) else if 245 ≤ b0 then (0, 0, 1) else if m ≤ 1 then (0, 0, 2)
  else if b1 < 128 ∨ 191 < b1 ∨ b0 = 224 ∧ b1 < 160 ∨ b0 = 237 ∧ 159 < b1 ∨ b0 = 240 ∧ b1 < 144 ∨ b0 = 244 ∧ 143 < b1 then (0, 0, 1)
  else if b0 < 224 then (b0 % 32 * 64 + b1 % 64, 2, 0) else if m ≤ 2 then (0, 0, 2) else if b2 < 128 ∨ 191 < b2 then (0, 0, 1)
  else if b0 < 240 then ((b0 % 16 * 64 + b1 % 64) * 64 + b2 % 64, 3, 0) else if m ≤ 3 then (0, 0, 2) else if b3 < 128 ∨ 191 < b3 then (0, 0, 1)
  else (((b0 % 8 * 64 + b1 % 64) * 64 + b2 % 64) * 64 + b3 % 64, 4, 0)

theorem pick3 {a b c a' b' c' : Int} (h1 : a = a') (h2 : b = b') (h3 : c = c') : ((a, b, c) : Int × Int × Int) = (a', b', c') := by rw [h1, h2, h3]

set_option maxHeartbeats 1000000 in
theorem nx_bytes (s : ByteArray) (at_ : Int) (h0 : 0 ≤ at_) (h1 : at_ < s.size) : nx s at_ = nxB (s.size - at_) (bt s at_) (bt s (at_ + 1)) (bt s (at_ + 2)) (bt s (at_ + 3)) := by
  have r0 := bt_range s at_
  unfold nx nxB
  rw [if_neg (by omega), ← btP]
  simp only [nxStep, ← btP]
  by_cases a : 245 ≤ bt s at_
  · rw [show utfFirst (bt s at_) = (-1, 0, 128, 191) by unfold utfFirst; rw [if_pos a]]
    simp only [Int.reduceNeg, Int.reduceLT, ↓reduceIte]
    (repeat (first | rw [if_pos (by omega)] | rw [if_neg (by omega)])) <;> first | rfl | (apply pick3 <;> omega) | (congr 1; apply pick3 <;> omega)
  · by_cases b : 240 ≤ bt s at_
    · rw [show utfFirst (bt s at_) = (3, bt s at_ % 8, if bt s at_ = 240 then 144 else 128, if bt s at_ = 244 then 143 else 191) by unfold utfFirst; rw [if_neg a, if_pos b]]
      simp only [Int.reduceNeg, Int.reduceLT, Int.reduceEq, ↓reduceIte]
      rw [if_neg (show ¬ bt s at_ < 128 by omega), if_neg (show ¬ bt s at_ < 194 by omega), if_neg a, if_neg (show ¬ bt s at_ < 224 by omega), if_neg (show ¬ bt s at_ < 240 by omega)]
      have e : (bt s (at_ + 1) < (if bt s at_ = 240 then 144 else 128) ∨ (if bt s at_ = 244 then 143 else 191) < bt s (at_ + 1)) ↔ (bt s (at_ + 1) < 128 ∨ 191 < bt s (at_ + 1) ∨ bt s at_ = 224 ∧ bt s (at_ + 1) < 160 ∨ bt s at_ = 237 ∧ 159 < bt s (at_ + 1) ∨ bt s at_ = 240 ∧ bt s (at_ + 1) < 144 ∨ bt s at_ = 244 ∧ 143 < bt s (at_ + 1)) := by omega
      simp only [e, show ((s.size : Int) - at_ ≤ 1) ↔ ((s.size : Int) ≤ at_ + 1) by omega, show ((s.size : Int) - at_ ≤ 2) ↔ ((s.size : Int) ≤ at_ + 2) by omega, show ((s.size : Int) - at_ ≤ 3) ↔ ((s.size : Int) ≤ at_ + 3) by omega]
      congr
    · by_cases c : 224 ≤ bt s at_
      · rw [show utfFirst (bt s at_) = (2, bt s at_ % 16, if bt s at_ = 224 then 160 else 128, if bt s at_ = 237 then 159 else 191) by unfold utfFirst; rw [if_neg a, if_neg b, if_pos c]]
        simp only [Int.reduceNeg, Int.reduceLT, Int.reduceEq, ↓reduceIte]
        rw [if_neg (show ¬ bt s at_ < 128 by omega), if_neg (show ¬ bt s at_ < 194 by omega), if_neg a, if_neg (show ¬ bt s at_ < 224 by omega), if_pos (show bt s at_ < 240 by omega)]
        have e : (bt s (at_ + 1) < (if bt s at_ = 224 then 160 else 128) ∨ (if bt s at_ = 237 then 159 else 191) < bt s (at_ + 1)) ↔ (bt s (at_ + 1) < 128 ∨ 191 < bt s (at_ + 1) ∨ bt s at_ = 224 ∧ bt s (at_ + 1) < 160 ∨ bt s at_ = 237 ∧ 159 < bt s (at_ + 1) ∨ bt s at_ = 240 ∧ bt s (at_ + 1) < 144 ∨ bt s at_ = 244 ∧ 143 < bt s (at_ + 1)) := by omega
        simp only [e]
        by_cases z0 : (s.size : Int) - at_ ≤ 1
        · (repeat (first | rw [if_pos (by omega)] | rw [if_neg (by omega)])) <;> first | rfl | (apply pick3 <;> omega) | (congr 1; apply pick3 <;> omega)
        by_cases z1 : bt s (at_ + 1) < 128 ∨ 191 < bt s (at_ + 1) ∨ bt s at_ = 224 ∧ bt s (at_ + 1) < 160 ∨ bt s at_ = 237 ∧ 159 < bt s (at_ + 1) ∨ bt s at_ = 240 ∧ bt s (at_ + 1) < 144 ∨ bt s at_ = 244 ∧ 143 < bt s (at_ + 1)
        · (repeat (first | rw [if_pos (by omega)] | rw [if_neg (by omega)])) <;> first | rfl | (apply pick3 <;> omega) | (congr 1; apply pick3 <;> omega)
        by_cases z2 : (s.size : Int) - at_ ≤ 2
        · (repeat (first | rw [if_pos (by omega)] | rw [if_neg (by omega)])) <;> first | rfl | (apply pick3 <;> omega) | (congr 1; apply pick3 <;> omega)
        by_cases z3 : bt s (at_ + 2) < 128 ∨ 191 < bt s (at_ + 2)
        · (repeat (first | rw [if_pos (by omega)] | rw [if_neg (by omega)])) <;> first | rfl | (apply pick3 <;> omega) | (congr 1; apply pick3 <;> omega)
        (repeat (first | rw [if_pos (by omega)] | rw [if_neg (by omega)])) <;> first | rfl | (apply pick3 <;> omega) | (congr 1; apply pick3 <;> omega)
      · by_cases d : 194 ≤ bt s at_
        · rw [show utfFirst (bt s at_) = (1, bt s at_ % 32, 128, 191) by unfold utfFirst; rw [if_neg a, if_neg b, if_neg c, if_pos d]]
          simp only [Int.reduceNeg, Int.reduceLT, Int.reduceEq, ↓reduceIte]
          rw [if_neg (show ¬ bt s at_ < 128 by omega), if_neg (show ¬ bt s at_ < 194 by omega), if_neg a, if_pos (show bt s at_ < 224 by omega)]
          by_cases z0 : (s.size : Int) - at_ ≤ 1
          · (repeat (first | rw [if_pos (by omega)] | rw [if_neg (by omega)])) <;> first | rfl | (apply pick3 <;> omega) | (congr 1; apply pick3 <;> omega)
          by_cases z1 : bt s (at_ + 1) < 128 ∨ 191 < bt s (at_ + 1) ∨ bt s at_ = 224 ∧ bt s (at_ + 1) < 160 ∨ bt s at_ = 237 ∧ 159 < bt s (at_ + 1) ∨ bt s at_ = 240 ∧ bt s (at_ + 1) < 144 ∨ bt s at_ = 244 ∧ 143 < bt s (at_ + 1)
          · (repeat (first | rw [if_pos (by omega)] | rw [if_neg (by omega)])) <;> first | rfl | (apply pick3 <;> omega) | (congr 1; apply pick3 <;> omega)
          (repeat (first | rw [if_pos (by omega)] | rw [if_neg (by omega)])) <;> first | rfl | (apply pick3 <;> omega) | (congr 1; apply pick3 <;> omega)
        · by_cases e : 128 ≤ bt s at_
          · rw [show utfFirst (bt s at_) = (-1, 0, 128, 191) by unfold utfFirst; rw [if_neg a, if_neg b, if_neg c, if_neg d, if_pos e]]
            simp only [Int.reduceNeg, Int.reduceLT, ↓reduceIte]
            rw [if_neg (show ¬ bt s at_ < 128 by omega), if_pos (show bt s at_ < 194 by omega)]
          · rw [show utfFirst (bt s at_) = (0, bt s at_, 128, 191) by unfold utfFirst; rw [if_neg a, if_neg b, if_neg c, if_neg d, if_neg e]]
            simp only [Int.reduceNeg, Int.reduceLT, Int.reduceEq, ↓reduceIte]
            rw [if_pos (show bt s at_ < 128 by omega)]

theorem rest_bt (s : ByteArray) (i j : Int) (h0 : 0 ≤ i) (hj : 0 ≤ j) (hn : i + j < s.size) : bt (s.extract i.toNat s.size) j = bt s (i + j) := by
  have := ext_bt s i (s.size - i) j h0 hj (by omega)
  rwa [show (i + ((s.size : Int) - i)).toNat = s.size by omega] at this
theorem ext_ints (s : ByteArray) (at_ n : Int) (h0 : 0 ≤ at_) (hn : 0 ≤ n) (h : at_ + n ≤ s.size) : ints (s.extract at_.toNat (at_ + n).toNat) = (List.range n.toNat).map fun (i : Nat) => bt s (at_ + (i : Int)) := by
  apply List.ext_getElem?
  intro i
  rw [ints_extract, List.getElem?_drop, List.getElem?_take]
  by_cases hi : i < n.toNat
  · rw [if_pos (by omega), List.getElem?_map, List.getElem?_range hi]
    simp only [Option.map_some, btP, bt_ints]
    rw [show (at_ + (i : Int)).toNat = at_.toNat + i by omega, List.getD_eq_getElem?_getD, List.getElem?_eq_getElem (by rw [ints_length]; omega)]
    rfl
  · rw [if_neg (by omega), List.getElem?_map, List.getElem?_eq_none (by simp; omega)]
    rfl

theorem ext_ints_1 (s : ByteArray) (at_ : Int) (h0 : 0 ≤ at_) (h : at_ + 1 ≤ s.size) : ints (s.extract at_.toNat (at_ + 1).toNat) = [bt s at_] := by
  rw [ext_ints s at_ 1 h0 (by omega) h]
  simp [List.range_succ]
theorem ext_ints_2 (s : ByteArray) (at_ : Int) (h0 : 0 ≤ at_) (h : at_ + 2 ≤ s.size) : ints (s.extract at_.toNat (at_ + 2).toNat) = [bt s at_, bt s (at_ + 1)] := by
  rw [ext_ints s at_ 2 h0 (by omega) h]
  simp [List.range_succ]
theorem ext_ints_3 (s : ByteArray) (at_ : Int) (h0 : 0 ≤ at_) (h : at_ + 3 ≤ s.size) : ints (s.extract at_.toNat (at_ + 3).toNat) = [bt s at_, bt s (at_ + 1), bt s (at_ + 2)] := by
  rw [ext_ints s at_ 3 h0 (by omega) h]
  simp [List.range_succ]
theorem ext_ints_4 (s : ByteArray) (at_ : Int) (h0 : 0 ≤ at_) (h : at_ + 4 ≤ s.size) : ints (s.extract at_.toNat (at_ + 4).toNat) = [bt s at_, bt s (at_ + 1), bt s (at_ + 2), bt s (at_ + 3)] := by
  rw [ext_ints s at_ 4 h0 (by omega) h]
  simp [List.range_succ]
theorem step_1 (s : ByteArray) (at_ : Int) (h0 : 0 ≤ at_) (h : at_ + 1 ≤ s.size) (hs : s.size ≤ 1000000) (k : Nat) :
    eponymref01_Next.l0 (k + 30) s at_ 1 = if bt s at_ < 128 then some (val1 (bt s at_), 1, 0) else eponymref01_Next.l0 (k + 28) s at_ 2 := by
  have r0 := bt_range s at_
  have := l0_step s at_ 1 (val1 (bt s at_)) k h0 hs (by omega) (by omega) h (by
    rw [value_1 _ (ext_size s at_ 1 h0 (by omega) h) (k + 8), ext_bt s at_ 1 0 h0 (by omega) (by omega), Int.add_zero])
  rw [ext_ints_1 s at_ h0 h, show (1 : Int) + 1 = 2 from rfl] at this
  rw [this]
  by_cases c : bt s at_ < 128
  · rw [if_pos c, if_pos ((ok1 _ r0.1 r0.2).2 c)]
  · rw [if_neg c, if_neg (fun h => c ((ok1 _ r0.1 r0.2).1 h))]
theorem step_2 (s : ByteArray) (at_ : Int) (h0 : 0 ≤ at_) (h : at_ + 2 ≤ s.size) (hs : s.size ≤ 1000000) (k : Nat) :
    eponymref01_Next.l0 (k + 30) s at_ 2 = if 194 ≤ bt s at_ ∧ bt s at_ < 224 ∧ 128 ≤ bt s (at_ + 1) ∧ bt s (at_ + 1) ≤ 191 then some (val2 (bt s at_) (bt s (at_ + 1)), 2, 0) else eponymref01_Next.l0 (k + 28) s at_ 3 := by
  have r0 := bt_range s at_
  have := l0_step s at_ 2 (val2 (bt s at_) (bt s (at_ + 1))) k h0 hs (by omega) (by omega) h (by
    rw [value_2 _ (ext_size s at_ 2 h0 (by omega) h) (k + 8), ext_bt s at_ 2 0 h0 (by omega) (by omega), ext_bt s at_ 2 1 h0 (by omega) (by omega), Int.add_zero])
  rw [ext_ints_2 s at_ h0 h, show (2 : Int) + 1 = 3 from rfl] at this
  rw [this]
  by_cases c : 194 ≤ bt s at_ ∧ bt s at_ < 224 ∧ 128 ≤ bt s (at_ + 1) ∧ bt s (at_ + 1) ≤ 191
  · rw [if_pos c, if_pos ((ok2 _ _).2 c)]
  · rw [if_neg c, if_neg (fun h => c ((ok2 _ _).1 h))]
theorem step_3 (s : ByteArray) (at_ : Int) (h0 : 0 ≤ at_) (h : at_ + 3 ≤ s.size) (hs : s.size ≤ 1000000) (k : Nat) :
    eponymref01_Next.l0 (k + 30) s at_ 3 = if 224 ≤ bt s at_ ∧ bt s at_ < 240 ∧ 128 ≤ bt s (at_ + 1) ∧ bt s (at_ + 1) ≤ 191 ∧ 128 ≤ bt s (at_ + 2) ∧ bt s (at_ + 2) ≤ 191 ∧ (bt s at_ = 224 → 160 ≤ bt s (at_ + 1)) ∧ (bt s at_ = 237 → bt s (at_ + 1) < 160) then some (val3 (bt s at_) (bt s (at_ + 1)) (bt s (at_ + 2)), 3, 0) else eponymref01_Next.l0 (k + 28) s at_ 4 := by
  have r0 := bt_range s at_
  have := l0_step s at_ 3 (val3 (bt s at_) (bt s (at_ + 1)) (bt s (at_ + 2))) k h0 hs (by omega) (by omega) h (by
    rw [value_3 _ (ext_size s at_ 3 h0 (by omega) h) (k + 8), ext_bt s at_ 3 0 h0 (by omega) (by omega), ext_bt s at_ 3 1 h0 (by omega) (by omega), ext_bt s at_ 3 2 h0 (by omega) (by omega), Int.add_zero])
  rw [ext_ints_3 s at_ h0 h, show (3 : Int) + 1 = 4 from rfl] at this
  rw [this]
  by_cases c : 224 ≤ bt s at_ ∧ bt s at_ < 240 ∧ 128 ≤ bt s (at_ + 1) ∧ bt s (at_ + 1) ≤ 191 ∧ 128 ≤ bt s (at_ + 2) ∧ bt s (at_ + 2) ≤ 191 ∧ (bt s at_ = 224 → 160 ≤ bt s (at_ + 1)) ∧ (bt s at_ = 237 → bt s (at_ + 1) < 160)
  · rw [if_pos c, if_pos ((ok3 _ _ _).2 c)]
  · rw [if_neg c, if_neg (fun h => c ((ok3 _ _ _).1 h))]
theorem step_4 (s : ByteArray) (at_ : Int) (h0 : 0 ≤ at_) (h : at_ + 4 ≤ s.size) (hs : s.size ≤ 1000000) (k : Nat) :
    eponymref01_Next.l0 (k + 30) s at_ 4 = if 240 ≤ bt s at_ ∧ bt s at_ < 245 ∧ 128 ≤ bt s (at_ + 1) ∧ bt s (at_ + 1) ≤ 191 ∧ 128 ≤ bt s (at_ + 2) ∧ bt s (at_ + 2) ≤ 191 ∧ 128 ≤ bt s (at_ + 3) ∧ bt s (at_ + 3) ≤ 191 ∧ (bt s at_ = 240 → 144 ≤ bt s (at_ + 1)) ∧ (bt s at_ = 244 → bt s (at_ + 1) < 144) then some (val4 (bt s at_) (bt s (at_ + 1)) (bt s (at_ + 2)) (bt s (at_ + 3)), 4, 0) else eponymref01_Next.l0 (k + 28) s at_ 5 := by
  have r0 := bt_range s at_
  have := l0_step s at_ 4 (val4 (bt s at_) (bt s (at_ + 1)) (bt s (at_ + 2)) (bt s (at_ + 3))) k h0 hs (by omega) (by omega) h (by
    rw [value_4 _ (ext_size s at_ 4 h0 (by omega) h) (k + 8), ext_bt s at_ 4 0 h0 (by omega) (by omega), ext_bt s at_ 4 1 h0 (by omega) (by omega), ext_bt s at_ 4 2 h0 (by omega) (by omega), ext_bt s at_ 4 3 h0 (by omega) (by omega), Int.add_zero])
  rw [ext_ints_4 s at_ h0 h, show (4 : Int) + 1 = 5 from rfl] at this
  rw [this]
  by_cases c : 240 ≤ bt s at_ ∧ bt s at_ < 245 ∧ 128 ≤ bt s (at_ + 1) ∧ bt s (at_ + 1) ≤ 191 ∧ 128 ≤ bt s (at_ + 2) ∧ bt s (at_ + 2) ≤ 191 ∧ 128 ≤ bt s (at_ + 3) ∧ bt s (at_ + 3) ≤ 191 ∧ (bt s at_ = 240 → 144 ≤ bt s (at_ + 1)) ∧ (bt s at_ = 244 → bt s (at_ + 1) < 144)
  · rw [if_pos c, if_pos ((ok4 _ _ _ _).2 c)]
  · rw [if_neg c, if_neg (fun h => c ((ok4 _ _ _ _).1 h))]

set_option maxHeartbeats 2000000 in
theorem ref_next (s : ByteArray) (at_ : Int) (h0 : 0 ≤ at_) (h1 : at_ < s.size) (hs : s.size ≤ 1000000) (k : Nat) : eponymref01_Next.f (k + 400) s at_ = some (nx s at_) := by
  have r0 := bt_range s at_
  have r1 := bt_range s (at_ + 1)
  have r2 := bt_range s (at_ + 2)
  have r3 := bt_range s (at_ + 3)
  have hr : ((s.extract at_.toNat s.size).size : Int) = s.size - at_ := by rw [ByteArray.size_extract]; omega
  have b0 : ∀ j : Int, 0 ≤ j → at_ + j < s.size → bt (s.extract at_.toNat s.size) j = bt s (at_ + j) := fun j hj hn => rest_bt s at_ j h0 hj hn
  rw [nx_bytes s at_ h0 h1]
  unfold eponymref01_Next.f
  rw [show k + 400 = k + 370 + 30 from rfl, step_1 s at_ h0 (by omega) hs (k + 370)]
  by_cases c1 : bt s at_ < 128
  · rw [if_pos c1]; unfold nxB val1; rw [if_pos c1, if_pos c1]
  rw [if_neg c1]
  by_cases m1 : (s.size : Int) - at_ = 1
  · rw [show k + 370 + 28 = k + 368 + 30 from rfl, l0_end s at_ 2 (k + 368) h0 (by omega) hs (by omega) (by omega) (by omega), m1, show (1 : Int) + 1 = 2 from rfl, show k + 368 + 28 = k + 276 + 120 from rfl, l1_pad1 _ (by omega) (k + 276)]
    rw [b0 0 (by omega) (by omega), Int.add_zero]
    unfold pad1 nxB
    simp only [pc2, pc3 _ 128 191 (.inr ⟨rfl, rfl⟩), pc4 _ 128 191 128 191 (.inr ⟨rfl, rfl, rfl, rfl⟩)]
    by_cases z0 : bt s at_ < 194
    · (repeat (first | rw [if_pos (by omega)] | rw [if_neg (by omega)])) <;> first | rfl | (apply pick3 <;> omega) | (congr 1; apply pick3 <;> omega)
    by_cases z1 : 245 ≤ bt s at_
    · (repeat (first | rw [if_pos (by omega)] | rw [if_neg (by omega)])) <;> first | rfl | (apply pick3 <;> omega) | (congr 1; apply pick3 <;> omega)
    by_cases z2 : bt s at_ < 224
    · (repeat (first | rw [if_pos (by omega)] | rw [if_neg (by omega)])) <;> first | rfl | (apply pick3 <;> omega) | (congr 1; apply pick3 <;> omega)
    by_cases z3 : bt s at_ < 240
    · (repeat (first | rw [if_pos (by omega)] | rw [if_neg (by omega)])) <;> first | rfl | (apply pick3 <;> omega) | (congr 1; apply pick3 <;> omega)
    (repeat (first | rw [if_pos (by omega)] | rw [if_neg (by omega)])) <;> first | rfl | (apply pick3 <;> omega) | (congr 1; apply pick3 <;> omega)
  rw [show k + 370 + 28 = k + 368 + 30 from rfl, step_2 s at_ h0 (by omega) hs (k + 368)]
  by_cases c2 : 194 ≤ bt s at_ ∧ bt s at_ < 224 ∧ 128 ≤ bt s (at_ + 1) ∧ bt s (at_ + 1) ≤ 191
  · rw [if_pos c2]; unfold nxB val2; (repeat (first | rw [if_pos (by omega)] | rw [if_neg (by omega)])) <;> first | rfl | (apply pick3 <;> omega) | (congr 1; apply pick3 <;> omega)
  rw [if_neg c2]
  by_cases m2 : (s.size : Int) - at_ = 2
  · rw [show k + 368 + 28 = k + 366 + 30 from rfl, l0_end s at_ 3 (k + 366) h0 (by omega) hs (by omega) (by omega) (by omega), m2, show (2 : Int) + 1 = 3 from rfl, show k + 366 + 28 = k + 304 + 90 from rfl, l1_pad2 _ (by omega) (k + 304)]
    rw [b0 0 (by omega) (by omega), b0 1 (by omega) (by omega), Int.add_zero]
    unfold pad2 nxB
    simp only [pc3 _ (bt s (at_ + 1)) _ (.inl rfl), pc4 _ (bt s (at_ + 1)) _ 128 191 (.inl ⟨rfl, .inr ⟨rfl, rfl⟩⟩)]
    by_cases z0 : bt s at_ < 194
    · (repeat (first | rw [if_pos (by omega)] | rw [if_neg (by omega)])) <;> first | rfl | (apply pick3 <;> omega) | (congr 1; apply pick3 <;> omega)
    by_cases z1 : 245 ≤ bt s at_
    · (repeat (first | rw [if_pos (by omega)] | rw [if_neg (by omega)])) <;> first | rfl | (apply pick3 <;> omega) | (congr 1; apply pick3 <;> omega)
    by_cases z2 : bt s at_ < 224
    · (repeat (first | rw [if_pos (by omega)] | rw [if_neg (by omega)])) <;> first | rfl | (apply pick3 <;> omega) | (congr 1; apply pick3 <;> omega)
    by_cases z3 : bt s (at_ + 1) < 128 ∨ 191 < bt s (at_ + 1) ∨ bt s at_ = 224 ∧ bt s (at_ + 1) < 160 ∨ bt s at_ = 237 ∧ 159 < bt s (at_ + 1) ∨ bt s at_ = 240 ∧ bt s (at_ + 1) < 144 ∨ bt s at_ = 244 ∧ 143 < bt s (at_ + 1)
    · (repeat (first | rw [if_pos (by omega)] | rw [if_neg (by omega)])) <;> first | rfl | (apply pick3 <;> omega) | (congr 1; apply pick3 <;> omega)
    by_cases z4 : bt s at_ < 240
    · (repeat (first | rw [if_pos (by omega)] | rw [if_neg (by omega)])) <;> first | rfl | (apply pick3 <;> omega) | (congr 1; apply pick3 <;> omega)
    (repeat (first | rw [if_pos (by omega)] | rw [if_neg (by omega)])) <;> first | rfl | (apply pick3 <;> omega) | (congr 1; apply pick3 <;> omega)
  rw [show k + 368 + 28 = k + 366 + 30 from rfl, step_3 s at_ h0 (by omega) hs (k + 366)]
  by_cases c3 : 224 ≤ bt s at_ ∧ bt s at_ < 240 ∧ 128 ≤ bt s (at_ + 1) ∧ bt s (at_ + 1) ≤ 191 ∧ 128 ≤ bt s (at_ + 2) ∧ bt s (at_ + 2) ≤ 191 ∧ (bt s at_ = 224 → 160 ≤ bt s (at_ + 1)) ∧ (bt s at_ = 237 → bt s (at_ + 1) < 160)
  · rw [if_pos c3]; unfold nxB val3; (repeat (first | rw [if_pos (by omega)] | rw [if_neg (by omega)])) <;> first | rfl | (apply pick3 <;> omega) | (congr 1; apply pick3 <;> omega)
  rw [if_neg c3]
  by_cases m3 : (s.size : Int) - at_ = 3
  · rw [show k + 366 + 28 = k + 364 + 30 from rfl, l0_end s at_ 4 (k + 364) h0 (by omega) hs (by omega) (by omega) (by omega), m3, show (3 : Int) + 1 = 4 from rfl, show k + 364 + 28 = k + 332 + 60 from rfl, l1_pad3 _ (by omega) (k + 332)]
    rw [b0 0 (by omega) (by omega), b0 1 (by omega) (by omega), b0 2 (by omega) (by omega), Int.add_zero]
    unfold pad3 nxB
    simp only [pc4 _ (bt s (at_ + 1)) _ (bt s (at_ + 2)) _ (.inl ⟨rfl, .inl rfl⟩)]
    by_cases z0 : bt s at_ < 194
    · (repeat (first | rw [if_pos (by omega)] | rw [if_neg (by omega)])) <;> first | rfl | (apply pick3 <;> omega) | (congr 1; apply pick3 <;> omega)
    by_cases z1 : 245 ≤ bt s at_
    · (repeat (first | rw [if_pos (by omega)] | rw [if_neg (by omega)])) <;> first | rfl | (apply pick3 <;> omega) | (congr 1; apply pick3 <;> omega)
    by_cases z2 : bt s at_ < 224
    · (repeat (first | rw [if_pos (by omega)] | rw [if_neg (by omega)])) <;> first | rfl | (apply pick3 <;> omega) | (congr 1; apply pick3 <;> omega)
    by_cases z3 : bt s (at_ + 1) < 128 ∨ 191 < bt s (at_ + 1) ∨ bt s at_ = 224 ∧ bt s (at_ + 1) < 160 ∨ bt s at_ = 237 ∧ 159 < bt s (at_ + 1) ∨ bt s at_ = 240 ∧ bt s (at_ + 1) < 144 ∨ bt s at_ = 244 ∧ 143 < bt s (at_ + 1)
    · (repeat (first | rw [if_pos (by omega)] | rw [if_neg (by omega)])) <;> first | rfl | (apply pick3 <;> omega) | (congr 1; apply pick3 <;> omega)
    by_cases z4 : bt s (at_ + 2) < 128 ∨ 191 < bt s (at_ + 2)
    · (repeat (first | rw [if_pos (by omega)] | rw [if_neg (by omega)])) <;> first | rfl | (apply pick3 <;> omega) | (congr 1; apply pick3 <;> omega)
    by_cases z5 : bt s at_ < 240
    · (repeat (first | rw [if_pos (by omega)] | rw [if_neg (by omega)])) <;> first | rfl | (apply pick3 <;> omega) | (congr 1; apply pick3 <;> omega)
    (repeat (first | rw [if_pos (by omega)] | rw [if_neg (by omega)])) <;> first | rfl | (apply pick3 <;> omega) | (congr 1; apply pick3 <;> omega)
  rw [show k + 366 + 28 = k + 364 + 30 from rfl, step_4 s at_ h0 (by omega) hs (k + 364)]
  by_cases c4 : 240 ≤ bt s at_ ∧ bt s at_ < 245 ∧ 128 ≤ bt s (at_ + 1) ∧ bt s (at_ + 1) ≤ 191 ∧ 128 ≤ bt s (at_ + 2) ∧ bt s (at_ + 2) ≤ 191 ∧ 128 ≤ bt s (at_ + 3) ∧ bt s (at_ + 3) ≤ 191 ∧ (bt s at_ = 240 → 144 ≤ bt s (at_ + 1)) ∧ (bt s at_ = 244 → bt s (at_ + 1) < 144)
  · rw [if_pos c4]; unfold nxB val4; (repeat (first | rw [if_pos (by omega)] | rw [if_neg (by omega)])) <;> first | rfl | (apply pick3 <;> omega) | (congr 1; apply pick3 <;> omega)
  rw [if_neg c4, show k + 364 + 28 = k + 362 + 30 from rfl, l0_end s at_ 5 (k + 362) h0 (by omega) hs (by omega) (by omega) (.inr rfl), show k + 362 + 28 = k + 389 + 1 from rfl, l1_end _ _ _ (by omega)]
  unfold nxB
  by_cases z0 : bt s at_ < 194
  · (repeat (first | rw [if_pos (by omega)] | rw [if_neg (by omega)])) <;> first | rfl | (apply pick3 <;> omega) | (congr 1; apply pick3 <;> omega)
  by_cases z1 : 245 ≤ bt s at_
  · (repeat (first | rw [if_pos (by omega)] | rw [if_neg (by omega)])) <;> first | rfl | (apply pick3 <;> omega) | (congr 1; apply pick3 <;> omega)
  by_cases z2 : bt s at_ < 224
  · (repeat (first | rw [if_pos (by omega)] | rw [if_neg (by omega)])) <;> first | rfl | (apply pick3 <;> omega) | (congr 1; apply pick3 <;> omega)
  by_cases z3 : bt s (at_ + 1) < 128 ∨ 191 < bt s (at_ + 1) ∨ bt s at_ = 224 ∧ bt s (at_ + 1) < 160 ∨ bt s at_ = 237 ∧ 159 < bt s (at_ + 1) ∨ bt s at_ = 240 ∧ bt s (at_ + 1) < 144 ∨ bt s at_ = 244 ∧ 143 < bt s (at_ + 1)
  · (repeat (first | rw [if_pos (by omega)] | rw [if_neg (by omega)])) <;> first | rfl | (apply pick3 <;> omega) | (congr 1; apply pick3 <;> omega)
  by_cases z4 : bt s (at_ + 2) < 128 ∨ 191 < bt s (at_ + 2)
  · (repeat (first | rw [if_pos (by omega)] | rw [if_neg (by omega)])) <;> first | rfl | (apply pick3 <;> omega) | (congr 1; apply pick3 <;> omega)
  by_cases z5 : bt s at_ < 240
  · (repeat (first | rw [if_pos (by omega)] | rw [if_neg (by omega)])) <;> first | rfl | (apply pick3 <;> omega) | (congr 1; apply pick3 <;> omega)
  (repeat (first | rw [if_pos (by omega)] | rw [if_neg (by omega)])) <;> first | rfl | (apply pick3 <;> omega) | (congr 1; apply pick3 <;> omega)
end Go.Proofs.YtfcfehiijainpaaDoor
