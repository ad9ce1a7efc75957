/- What the claim uses of the text Ref. -/
import Derived.Test.YtpdpgppaoipnlaaDoorOPAllx
import Derived.Test.YtpdpgppaoipnlaaDoorOBase
set_option linter.unusedVariables false
set_option linter.unusedSimpArgs false
namespace Go.Proofs.YtpdpgppaoipnlaaDoor
section
open Go.RowKit Go.Proofs.YtpdpgppaoipnlaaDoorW.PrintWords PAll

def val1 (b0 : Int) : Int := if b0 < 128 then b0 else -1
end

section
open Go.RowKit Go.Proofs.YtpdpgppaoipnlaaDoorW.PrintWords PAll

theorem btP (s : ByteArray) (i : Int) : bt s i = PlainAid.bt s i.toNat := rfl
end


section
open Go.RowKit Go.Proofs.YtpdpgppaoipnlaaDoorW.PrintWords PAll

theorem utfRight_iff (r : Int) : utfRight r = true ↔ 0 ≤ r ∧ r ≤ 1114111 ∧ (r < 55296 ∨ 57343 < r) := by unfold utfRight; simp
theorem formL_1 (r : Int) (h : r < 128) : formL r = [r] := by unfold formL; rw [if_pos h]
theorem formL_2 (r : Int) (h : 128 ≤ r) (h' : r < 2048) : formL r = [192 + r / 64, 128 + r % 64] := by unfold formL; rw [if_neg (by omega), if_pos h']
theorem formL_3 (r : Int) (h : 2048 ≤ r) (h' : r < 65536) : formL r = [224 + r / 4096, 128 + r / 64 % 64, 128 + r % 64] := by unfold formL; rw [if_neg (by omega), if_neg (by omega), if_pos h']
theorem formL_4 (r : Int) (h : 65536 ≤ r) : formL r = [240 + r / 262144, 128 + r / 4096 % 64, 128 + r / 64 % 64, 128 + r % 64] := by unfold formL; rw [if_neg (by omega), if_neg (by omega), if_neg (by omega)]

theorem ok1 (b0 : Int) (h0 : 0 ≤ b0) (h1 : b0 ≤ 255) : (0 ≤ val1 b0 ∧ utfRight (val1 b0) = true ∧ formL (val1 b0) = [b0]) ↔ b0 < 128 := by
  unfold val1
  split
  · rw [utfRight_iff, formL_1 _ (by omega)]
    exact ⟨fun _ => by omega, fun _ => ⟨h0, by omega, rfl⟩⟩
  · exact ⟨fun h => absurd h.1 (by omega), fun h => absurd h (by omega)⟩

end

section
open Go.RowKit Go.Proofs.YtpdpgppaoipnlaaDoorW.PrintWords PAll

/-- 'nx' by its bytes; m: how many there are. -/
def nxB (m b0 b1 b2 b3 : Int) : Int × Int × Int :=
  if b0 < 128 then (b0, 1, 0) else if b0 < 194 then (0, 0, 1) else if 245 ≤ b0 then (0, 0, 1) else if m ≤ 1 then (0, 0, 2)
  else if b1 < 128 ∨ 191 < b1 ∨ b0 = 224 ∧ b1 < 160 ∨ b0 = 237 ∧ 159 < b1 ∨ b0 = 240 ∧ b1 < 144 ∨ b0 = 244 ∧ 143 < b1 then (0, 0, 1)
  else if b0 < 224 then (b0 % 32 * 64 + b1 % 64, 2, 0) else if m ≤ 2 then (0, 0, 2) else if b2 < 128 ∨ 191 < b2 then (0, 0, 1)
  else if b0 < 240 then ((b0 % 16 * 64 + b1 % 64) * 64 + b2 % 64, 3, 0) else if m ≤ 3 then (0, 0, 2) else if b3 < 128 ∨ 191 < b3 then (0, 0, 1)
  else (((b0 % 8 * 64 + b1 % 64) * 64 + b2 % 64) * 64 + b3 % 64, 4, 0)

theorem pick3 {a b c a' b' c' : Int} (h1 : a = a') (h2 : b = b') (h3 : c = c') : ((a, b, c) : Int × Int × Int) = (a', b', c') := by rw [h1, h2, h3]

set_option maxHeartbeats 1000000 in
theorem nx_bytes (s : ByteArray) (at_ : Int) (h0 : 0 ≤ at_) (h1 : at_ < s.size) : nx s at_ = nxB (s.size - at_) (bt s at_) (bt s (at_ + 1)) (bt s (at_ + 2)) (bt s (at_ + 3)) := by
  have r0 := bt_range s at_
  unfold nx nxB
  rw [if_neg (by omega), ← btP]
  simp only [nxStep, ← btP]
  by_cases a : 245 ≤ bt s at_
  · rw [show utfFirst (bt s at_) = (-1, 0, 128, 191) by unfold utfFirst; rw [if_pos a]]
    simp only [Int.reduceNeg, Int.reduceLT, ↓reduceIte]
    (repeat (first | rw [if_pos (by omega)] | rw [if_neg (by omega)])) <;> first | rfl | (apply pick3 <;> omega) | (congr 1; apply pick3 <;> omega)
  · by_cases b : 240 ≤ bt s at_
    · rw [show utfFirst (bt s at_) = (3, bt s at_ % 8, if bt s at_ = 240 then 144 else 128, if bt s at_ = 244 then 143 else 191) by unfold utfFirst; rw [if_neg a, if_pos b]]
      simp only [Int.reduceNeg, Int.reduceLT, Int.reduceEq, ↓reduceIte]
      rw [if_neg (show ¬ bt s at_ < 128 by omega), if_neg (show ¬ bt s at_ < 194 by omega), if_neg a, if_neg (show ¬ bt s at_ < 224 by omega), if_neg (show ¬ bt s at_ < 240 by omega)]
      have e : (bt s (at_ + 1) < (if bt s at_ = 240 then 144 else 128) ∨ (if bt s at_ = 244 then 143 else 191) < bt s (at_ + 1)) ↔ (bt s (at_ + 1) < 128 ∨ 191 < bt s (at_ + 1) ∨ bt s at_ = 224 ∧ bt s (at_ + 1) < 160 ∨ bt s at_ = 237 ∧ 159 < bt s (at_ + 1) ∨ bt s at_ = 240 ∧ bt s (at_ + 1) < 144 ∨ bt s at_ = 244 ∧ 143 < bt s (at_ + 1)) := by omega
      simp only [e, show ((s.size : Int) - at_ ≤ 1) ↔ ((s.size : Int) ≤ at_ + 1) by omega, show ((s.size : Int) - at_ ≤ 2) ↔ ((s.size : Int) ≤ at_ + 2) by omega, show ((s.size : Int) - at_ ≤ 3) ↔ ((s.size : Int) ≤ at_ + 3) by omega]
      congr
    · by_cases c : 224 ≤ bt s at_
      · rw [show utfFirst (bt s at_) = (2, bt s at_ % 16, if bt s at_ = 224 then 160 else 128, if bt s at_ = 237 then 159 else 191) by unfold utfFirst; rw [if_neg a, if_neg b, if_pos c]]
        simp only [Int.reduceNeg, Int.reduceLT, Int.reduceEq, ↓reduceIte]
        rw [if_neg (show ¬ bt s at_ < 128 by omega), if_neg (show ¬ bt s at_ < 194 by omega), if_neg a, if_neg (show ¬ bt s at_ < 224 by omega), if_pos (show bt s at_ < 240 by omega)]
        have e : (bt s (at_ + 1) < (if bt s at_ = 224 then 160 else 128) ∨ (if bt s at_ = 237 then 159 else 191) < bt s (at_ + 1)) ↔ (bt s (at_ + 1) < 128 ∨ 191 < bt s (at_ + 1) ∨ bt s at_ = 224 ∧ bt s (at_ + 1) < 160 ∨ bt s at_ = 237 ∧ 159 < bt s (at_ + 1) ∨ bt s at_ = 240 ∧ bt s (at_ + 1) < 144 ∨ bt s at_ = 244 ∧ 143 < bt s (at_ + 1)) := by omega
        simp only [e]
        by_cases z0 : (s.size : Int) - at_ ≤ 1
        · (repeat (first | rw [if_pos (by omega)] | rw [if_neg (by omega)])) <;> first | rfl | (apply pick3 <;> omega) | (congr 1; apply pick3 <;> omega)
        by_cases z1 : bt s (at_ + 1) < 128 ∨ 191 < bt s (at_ + 1) ∨ bt s at_ = 224 ∧ bt s (at_ + 1) < 160 ∨ bt s at_ = 237 ∧ 159 < bt s (at_ + 1) ∨ bt s at_ = 240 ∧ bt s (at_ + 1) < 144 ∨ bt s at_ = 244 ∧ 143 < bt s (at_ + 1)
        · (repeat (first | rw [if_pos (by omega)] | rw [if_neg (by omega)])) <;> first | rfl | (apply pick3 <;> omega) | (congr 1; apply pick3 <;> omega)
        by_cases z2 : (s.size : Int) - at_ ≤ 2
        · (repeat (first | rw [if_pos (by omega)] | rw [if_neg (by omega)])) <;> first | rfl | (apply pick3 <;> omega) | (congr 1; apply pick3 <;> omega)
        by_cases z3 : bt s (at_ + 2) < 128 ∨ 191 < bt s (at_ + 2)
        · (repeat (first | rw [if_pos (by omega)] | rw [if_neg (by omega)])) <;> first | rfl | (apply pick3 <;> omega) | (congr 1; apply pick3 <;> omega)
        (repeat (first | rw [if_pos (by omega)] | rw [if_neg (by omega)])) <;> first | rfl | (apply pick3 <;> omega) | (congr 1; apply pick3 <;> omega)
      · by_cases d : 194 ≤ bt s at_
        · rw [show utfFirst (bt s at_) = (1, bt s at_ % 32, 128, 191) by unfold utfFirst; rw [if_neg a, if_neg b, if_neg c, if_pos d]]
          simp only [Int.reduceNeg, Int.reduceLT, Int.reduceEq, ↓reduceIte]
          rw [if_neg (show ¬ bt s at_ < 128 by omega), if_neg (show ¬ bt s at_ < 194 by omega), if_neg a, if_pos (show bt s at_ < 224 by omega)]
          by_cases z0 : (s.size : Int) - at_ ≤ 1
          · (repeat (first | rw [if_pos (by omega)] | rw [if_neg (by omega)])) <;> first | rfl | (apply pick3 <;> omega) | (congr 1; apply pick3 <;> omega)
          by_cases z1 : bt s (at_ + 1) < 128 ∨ 191 < bt s (at_ + 1) ∨ bt s at_ = 224 ∧ bt s (at_ + 1) < 160 ∨ bt s at_ = 237 ∧ 159 < bt s (at_ + 1) ∨ bt s at_ = 240 ∧ bt s (at_ + 1) < 144 ∨ bt s at_ = 244 ∧ 143 < bt s (at_ + 1)
          · (repeat (first | rw [if_pos (by omega)] | rw [if_neg (by omega)])) <;> first | rfl | (apply pick3 <;> omega) | (congr 1; apply pick3 <;> omega)
          (repeat (first | rw [if_pos (by omega)] | rw [if_neg (by omega)])) <;> first | rfl | (apply pick3 <;> omega) | (congr 1; apply pick3 <;> omega)
        · by_cases e : 128 ≤ bt s at_
          · rw [show utfFirst (bt s at_) = (-1, 0, 128, 191) by unfold utfFirst; rw [if_neg a, if_neg b, if_neg c, if_neg d, if_pos e]]
            simp only [Int.reduceNeg, Int.reduceLT, ↓reduceIte]
            rw [if_neg (show ¬ bt s at_ < 128 by omega), if_pos (show bt s at_ < 194 by omega)]
          · rw [show utfFirst (bt s at_) = (0, bt s at_, 128, 191) by unfold utfFirst; rw [if_neg a, if_neg b, if_neg c, if_neg d, if_neg e]]
            simp only [Int.reduceNeg, Int.reduceLT, Int.reduceEq, ↓reduceIte]
            rw [if_pos (show bt s at_ < 128 by omega)]

end


end Go.Proofs.YtpdpgppaoipnlaaDoor

