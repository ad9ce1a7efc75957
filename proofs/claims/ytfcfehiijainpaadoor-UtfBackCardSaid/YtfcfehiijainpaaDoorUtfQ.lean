/- The reference's 'value', 'Form', 'some' and 'Next' (as printed) come to what is told by bytes. -/
import Derived.Test.YtfcfehiijainpaaDoorPAllx4
import Derived.Test.YtfcfehiijainpaaDoorUtfP
set_option linter.unusedVariables false
set_option linter.unusedSimpArgs false
namespace Go.Proofs.YtfcfehiijainpaaDoor
open Go.RowKit Go.Proofs.YtfcfehiijainpaaDoorW.PrintWords PAll

def cont (b : Int) : Bool := decide (128 ≤ b) && decide (b ≤ 191)
def val1 (b0 : Int) : Int := if b0 < 128 then b0 else -1
def val2 (b0 b1 : Int) : Int := if 192 ≤ b0 ∧ b0 < 224 ∧ 128 ≤ b1 ∧ b1 ≤ 191 then (b0 - 192) * 64 + (b1 - 128) else -1
def val3 (b0 b1 b2 : Int) : Int := if 224 ≤ b0 ∧ b0 < 240 ∧ 128 ≤ b1 ∧ b1 ≤ 191 ∧ 128 ≤ b2 ∧ b2 ≤ 191 then ((b0 - 224) * 64 + (b1 - 128)) * 64 + (b2 - 128) else -1
def val4 (b0 b1 b2 b3 : Int) : Int := if 240 ≤ b0 ∧ b0 < 248 ∧ 128 ≤ b1 ∧ b1 ≤ 191 ∧ 128 ≤ b2 ∧ b2 ≤ 191 ∧ 128 ≤ b3 ∧ b3 ≤ 191 then (((b0 - 240) * 64 + (b1 - 128)) * 64 + (b2 - 128)) * 64 + (b3 - 128) else -1

theorem w32 {n : Int} (h0 : -2147483648 ≤ n) (h1 : n ≤ 2147483647) : wrap32 n = n := by unfold wrap32; omega
theorem w64 {n : Int} (h0 : -9223372036854775808 ≤ n) (h1 : n ≤ 9223372036854775807) : wrap64 n = n := by unfold wrap64; omega

set_option maxHeartbeats 1000000 in
theorem value_1 (t : ByteArray) (h : (t.size : Int) = 1) (k : Nat) : eponymref01_value.f (k + 20) t = some (val1 (bt t 0)) := by
  have r0 := bt_range t 0
  unfold val1
  by_cases c0 : bt t 0 < 128
  rotate_left
  · simp (disch := omega) only [eponymref01_value.f, eponymref01_value.j0, eponymref01_value.j1, eponymref01_value.j2, eponymref01_value.j3, eponymref01_value.j4, eponymref01_value.j5, eponymref01_value.j6, eponymref01_value.l0, Bool.false_eq_true, ↓reduceIte, h, w32, w64, ↓if_pos, ↓if_neg, decide_eq_true_eq, ite_self, Int.reduceAdd]
  simp (disch := omega) only [eponymref01_value.f, eponymref01_value.j0, eponymref01_value.j1, eponymref01_value.j2, eponymref01_value.j3, eponymref01_value.j4, eponymref01_value.j5, eponymref01_value.j6, eponymref01_value.l0, Bool.false_eq_true, ↓reduceIte, h, w32, w64, ↓if_pos, ↓if_neg, decide_eq_true_eq, ite_self, Int.reduceAdd]
set_option maxHeartbeats 1000000 in
theorem value_2 (t : ByteArray) (h : (t.size : Int) = 2) (k : Nat) : eponymref01_value.f (k + 20) t = some (val2 (bt t 0) (bt t 1)) := by
  have r0 := bt_range t 0
  have r1 := bt_range t 1
  unfold val2
  by_cases c0 : 192 ≤ bt t 0 ∧ bt t 0 < 224
  rotate_left
  · simp (disch := omega) only [eponymref01_value.f, eponymref01_value.j0, eponymref01_value.j1, eponymref01_value.j2, eponymref01_value.j3, eponymref01_value.j4, eponymref01_value.j5, eponymref01_value.j6, eponymref01_value.l0, Bool.false_eq_true, ↓reduceIte, h, w32, w64, ↓if_pos, ↓if_neg, decide_eq_true_eq, ite_self, Int.reduceAdd]
  by_cases c1 : 128 ≤ bt t 1 ∧ bt t 1 ≤ 191
  rotate_left
  · simp (disch := omega) only [eponymref01_value.f, eponymref01_value.j0, eponymref01_value.j1, eponymref01_value.j2, eponymref01_value.j3, eponymref01_value.j4, eponymref01_value.j5, eponymref01_value.j6, eponymref01_value.l0, Bool.false_eq_true, ↓reduceIte, h, w32, w64, ↓if_pos, ↓if_neg, decide_eq_true_eq, ite_self, Int.reduceAdd]
  simp (disch := omega) only [eponymref01_value.f, eponymref01_value.j0, eponymref01_value.j1, eponymref01_value.j2, eponymref01_value.j3, eponymref01_value.j4, eponymref01_value.j5, eponymref01_value.j6, eponymref01_value.l0, Bool.false_eq_true, ↓reduceIte, h, w32, w64, ↓if_pos, ↓if_neg, decide_eq_true_eq, ite_self, Int.reduceAdd]
  congr 1; omega
set_option maxHeartbeats 1000000 in
theorem value_3 (t : ByteArray) (h : (t.size : Int) = 3) (k : Nat) : eponymref01_value.f (k + 20) t = some (val3 (bt t 0) (bt t 1) (bt t 2)) := by
  have r0 := bt_range t 0
  have r1 := bt_range t 1
  have r2 := bt_range t 2
  unfold val3
  by_cases c0 : 224 ≤ bt t 0 ∧ bt t 0 < 240
  rotate_left
  · simp (disch := omega) only [eponymref01_value.f, eponymref01_value.j0, eponymref01_value.j1, eponymref01_value.j2, eponymref01_value.j3, eponymref01_value.j4, eponymref01_value.j5, eponymref01_value.j6, eponymref01_value.l0, Bool.false_eq_true, ↓reduceIte, h, w32, w64, ↓if_pos, ↓if_neg, decide_eq_true_eq, ite_self, Int.reduceAdd]
  by_cases c1 : 128 ≤ bt t 1 ∧ bt t 1 ≤ 191
  rotate_left
  · simp (disch := omega) only [eponymref01_value.f, eponymref01_value.j0, eponymref01_value.j1, eponymref01_value.j2, eponymref01_value.j3, eponymref01_value.j4, eponymref01_value.j5, eponymref01_value.j6, eponymref01_value.l0, Bool.false_eq_true, ↓reduceIte, h, w32, w64, ↓if_pos, ↓if_neg, decide_eq_true_eq, ite_self, Int.reduceAdd]
  by_cases c2 : 128 ≤ bt t 2 ∧ bt t 2 ≤ 191
  rotate_left
  · simp (disch := omega) only [eponymref01_value.f, eponymref01_value.j0, eponymref01_value.j1, eponymref01_value.j2, eponymref01_value.j3, eponymref01_value.j4, eponymref01_value.j5, eponymref01_value.j6, eponymref01_value.l0, Bool.false_eq_true, ↓reduceIte, h, w32, w64, ↓if_pos, ↓if_neg, decide_eq_true_eq, ite_self, Int.reduceAdd]
  simp (disch := omega) only [eponymref01_value.f, eponymref01_value.j0, eponymref01_value.j1, eponymref01_value.j2, eponymref01_value.j3, eponymref01_value.j4, eponymref01_value.j5, eponymref01_value.j6, eponymref01_value.l0, Bool.false_eq_true, ↓reduceIte, h, w32, w64, ↓if_pos, ↓if_neg, decide_eq_true_eq, ite_self, Int.reduceAdd]
  congr 1; omega
set_option maxHeartbeats 1000000 in
theorem value_4 (t : ByteArray) (h : (t.size : Int) = 4) (k : Nat) : eponymref01_value.f (k + 20) t = some (val4 (bt t 0) (bt t 1) (bt t 2) (bt t 3)) := by
  have r0 := bt_range t 0
  have r1 := bt_range t 1
  have r2 := bt_range t 2
  have r3 := bt_range t 3
  unfold val4
  by_cases c0 : 240 ≤ bt t 0 ∧ bt t 0 < 248
  rotate_left
  · simp (disch := omega) only [eponymref01_value.f, eponymref01_value.j0, eponymref01_value.j1, eponymref01_value.j2, eponymref01_value.j3, eponymref01_value.j4, eponymref01_value.j5, eponymref01_value.j6, eponymref01_value.l0, Bool.false_eq_true, ↓reduceIte, h, w32, w64, ↓if_pos, ↓if_neg, decide_eq_true_eq, ite_self, Int.reduceAdd]
  by_cases c1 : 128 ≤ bt t 1 ∧ bt t 1 ≤ 191
  rotate_left
  · simp (disch := omega) only [eponymref01_value.f, eponymref01_value.j0, eponymref01_value.j1, eponymref01_value.j2, eponymref01_value.j3, eponymref01_value.j4, eponymref01_value.j5, eponymref01_value.j6, eponymref01_value.l0, Bool.false_eq_true, ↓reduceIte, h, w32, w64, ↓if_pos, ↓if_neg, decide_eq_true_eq, ite_self, Int.reduceAdd]
  by_cases c2 : 128 ≤ bt t 2 ∧ bt t 2 ≤ 191
  rotate_left
  · simp (disch := omega) only [eponymref01_value.f, eponymref01_value.j0, eponymref01_value.j1, eponymref01_value.j2, eponymref01_value.j3, eponymref01_value.j4, eponymref01_value.j5, eponymref01_value.j6, eponymref01_value.l0, Bool.false_eq_true, ↓reduceIte, h, w32, w64, ↓if_pos, ↓if_neg, decide_eq_true_eq, ite_self, Int.reduceAdd]
  by_cases c3 : 128 ≤ bt t 3 ∧ bt t 3 ≤ 191
  rotate_left
  · simp (disch := omega) only [eponymref01_value.f, eponymref01_value.j0, eponymref01_value.j1, eponymref01_value.j2, eponymref01_value.j3, eponymref01_value.j4, eponymref01_value.j5, eponymref01_value.j6, eponymref01_value.l0, Bool.false_eq_true, ↓reduceIte, h, w32, w64, ↓if_pos, ↓if_neg, decide_eq_true_eq, ite_self, Int.reduceAdd]
  simp (disch := omega) only [eponymref01_value.f, eponymref01_value.j0, eponymref01_value.j1, eponymref01_value.j2, eponymref01_value.j3, eponymref01_value.j4, eponymref01_value.j5, eponymref01_value.j6, eponymref01_value.l0, Bool.false_eq_true, ↓reduceIte, h, w32, w64, ↓if_pos, ↓if_neg, decide_eq_true_eq, ite_self, Int.reduceAdd]
  congr 1; omega
end Go.Proofs.YtfcfehiijainpaaDoor
