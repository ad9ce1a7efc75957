/- The reference's Next (as printed) comes to 'nx': the last step. -/
import Derived.Test.YtfcfehiijainpaaDoorUtfS
set_option linter.unusedVariables false
set_option linter.unusedSimpArgs false
namespace Go.Proofs.YtfcfehiijainpaaDoor
open Go.RowKit Go.Proofs.YtfcfehiijainpaaDoorW.PrintWords PAll

theorem utfRight_iff (r : Int) : utfRight r = true ↔ 0 ≤ r ∧ r ≤ 1114111 ∧ (r < 55296 ∨ 57343 < r) := by unfold utfRight; simp
theorem formL_1 (r : Int) (h : r < 128) : formL r = [r] := by unfold formL; rw [if_pos h]
theorem formL_2 (r : Int) (h : 128 ≤ r) (h' : r < 2048) : formL r = [192 + r / 64, 128 + r % 64] := by unfold formL; rw [if_neg (by omega), if_pos h']
theorem formL_3 (r : Int) (h : 2048 ≤ r) (h' : r < 65536) : formL r = [224 + r / 4096, 128 + r / 64 % 64, 128 + r % 64] := by unfold formL; rw [if_neg (by omega), if_neg (by omega), if_pos h']
theorem formL_4 (r : Int) (h : 65536 ≤ r) : formL r = [240 + r / 262144, 128 + r / 4096 % 64, 128 + r / 64 % 64, 128 + r % 64] := by unfold formL; rw [if_neg (by omega), if_neg (by omega), if_neg (by omega)]

theorem ok1 (b0 : Int) (h0 : 0 ≤ b0) (h1 : b0 ≤ 255) : (0 ≤ val1 b0 ∧ utfRight (val1 b0) = true ∧ formL (val1 b0) = [b0]) ↔ b0 < 128 := by
  unfold val1
  split
  · rw [utfRight_iff, formL_1 _ (by omega)]
    exact ⟨fun _ => by omega, fun _ => ⟨h0, by omega, rfl⟩⟩
  · exact ⟨fun h => absurd h.1 (by omega), fun h => absurd h (by omega)⟩

theorem ok2 (b0 b1 : Int) : (0 ≤ val2 b0 b1 ∧ utfRight (val2 b0 b1) = true ∧ formL (val2 b0 b1) = [b0, b1]) ↔ (194 ≤ b0 ∧ b0 < 224 ∧ 128 ≤ b1 ∧ b1 ≤ 191) := by
  unfold val2
  split
  · rename_i hc
    by_cases hm : 194 ≤ b0
    · rw [utfRight_iff, formL_2 _ (by omega) (by omega)]
      simp only [List.cons.injEq, and_true]
      omega
    · rw [formL_1 _ (by omega)]
      exact ⟨fun h => by simp at h, fun h => by omega⟩
  · exact ⟨fun h => absurd h.1 (by omega), fun h => by omega⟩

theorem ok3 (b0 b1 b2 : Int) : (0 ≤ val3 b0 b1 b2 ∧ utfRight (val3 b0 b1 b2) = true ∧ formL (val3 b0 b1 b2) = [b0, b1, b2]) ↔
    (224 ≤ b0 ∧ b0 < 240 ∧ 128 ≤ b1 ∧ b1 ≤ 191 ∧ 128 ≤ b2 ∧ b2 ≤ 191 ∧ (b0 = 224 → 160 ≤ b1) ∧ (b0 = 237 → b1 < 160)) := by
  unfold val3
  split
  · rename_i hc
    by_cases hm : 2048 ≤ ((b0 - 224) * 64 + (b1 - 128)) * 64 + (b2 - 128)
    · rw [utfRight_iff, formL_3 _ (by omega) (by omega)]
      simp only [List.cons.injEq, and_true]
      omega
    · refine ⟨fun h => ?_, fun h => by omega⟩
      have := congrArg List.length h.2.2
      by_cases h' : ((b0 - 224) * 64 + (b1 - 128)) * 64 + (b2 - 128) < 128
      · rw [formL_1 _ h'] at this; simp at this
      · rw [formL_2 _ (by omega) (by omega)] at this; simp at this
  · exact ⟨fun h => absurd h.1 (by omega), fun h => by omega⟩

theorem ok4 (b0 b1 b2 b3 : Int) : (0 ≤ val4 b0 b1 b2 b3 ∧ utfRight (val4 b0 b1 b2 b3) = true ∧ formL (val4 b0 b1 b2 b3) = [b0, b1, b2, b3]) ↔
    (240 ≤ b0 ∧ b0 < 245 ∧ 128 ≤ b1 ∧ b1 ≤ 191 ∧ 128 ≤ b2 ∧ b2 ≤ 191 ∧ 128 ≤ b3 ∧ b3 ≤ 191 ∧ (b0 = 240 → 144 ≤ b1) ∧ (b0 = 244 → b1 < 144)) := by
  unfold val4
  split
  · rename_i hc
    by_cases hm : 65536 ≤ (((b0 - 240) * 64 + (b1 - 128)) * 64 + (b2 - 128)) * 64 + (b3 - 128)
    · rw [utfRight_iff, formL_4 _ (by omega)]
      simp only [List.cons.injEq, and_true]
      omega
    · refine ⟨fun h => ?_, fun h => by omega⟩
      have := congrArg List.length h.2.2
      by_cases h' : (((b0 - 240) * 64 + (b1 - 128)) * 64 + (b2 - 128)) * 64 + (b3 - 128) < 128
      · rw [formL_1 _ h'] at this; simp at this
      · by_cases h'' : (((b0 - 240) * 64 + (b1 - 128)) * 64 + (b2 - 128)) * 64 + (b3 - 128) < 2048
        · rw [formL_2 _ (by omega) (by omega)] at this; simp at this
        · rw [formL_3 _ (by omega) (by omega)] at this; simp at this
  · exact ⟨fun h => absurd h.1 (by omega), fun h => by omega⟩

theorem someB_2 (a b : Int) : someB a b 2 = true ↔ (if 55296 ≤ (if a < 128 then 128 else a) ∧ (if a < 128 then 128 else a) ≤ 57343 then 57344 else (if a < 128 then 128 else a)) ≤ (if 2047 < b then 2047 else b) := by
  unfold someB; simp
theorem someB_3 (a b : Int) : someB a b 3 = true ↔ (if 55296 ≤ (if a < 2048 then 2048 else a) ∧ (if a < 2048 then 2048 else a) ≤ 57343 then 57344 else (if a < 2048 then 2048 else a)) ≤ (if 65535 < b then 65535 else b) := by
  unfold someB; simp
theorem someB_4 (a b : Int) : someB a b 4 = true ↔ (if 55296 ≤ (if a < 65536 then 65536 else a) ∧ (if a < 65536 then 65536 else a) ≤ 57343 then 57344 else (if a < 65536 then 65536 else a)) ≤ (if 1114111 < b then 1114111 else b) := by
  unfold someB; simp

theorem pc2 (b0 : Int) : (0 ≤ val2 b0 128 ∧ 0 ≤ val2 b0 191 ∧ someB (val2 b0 128) (val2 b0 191) 2 = true) ↔ (194 ≤ b0 ∧ b0 < 224) := by
  rw [someB_2]; unfold val2
  omega
theorem pc3 (b0 b1 b1' : Int) (h : b1 = b1' ∨ b1 = 128 ∧ b1' = 191) : (0 ≤ val3 b0 b1 128 ∧ 0 ≤ val3 b0 b1' 191 ∧ someB (val3 b0 b1 128) (val3 b0 b1' 191) 3 = true) ↔ (224 ≤ b0 ∧ b0 < 240 ∧ 128 ≤ b1 ∧ b1' ≤ 191 ∧ (b0 = 224 → 160 ≤ b1') ∧ (b0 = 237 → b1 < 160)) := by
  rw [someB_3]; unfold val3
  rcases h with rfl | ⟨rfl, rfl⟩ <;> omega
theorem pc4 (b0 b1 b1' b2 b2' : Int) (h : b1 = b1' ∧ (b2 = b2' ∨ b2 = 128 ∧ b2' = 191) ∨ b1 = 128 ∧ b1' = 191 ∧ b2 = 128 ∧ b2' = 191) :
    (0 ≤ val4 b0 b1 b2 128 ∧ 0 ≤ val4 b0 b1' b2' 191 ∧ someB (val4 b0 b1 b2 128) (val4 b0 b1' b2' 191) 4 = true) ↔ (240 ≤ b0 ∧ b0 < 245 ∧ 128 ≤ b1 ∧ b1' ≤ 191 ∧ 128 ≤ b2 ∧ b2' ≤ 191 ∧ (b0 = 240 → 144 ≤ b1') ∧ (b0 = 244 → b1 < 144)) := by
  rw [someB_4]; unfold val4
  rcases h with ⟨rfl, rfl | ⟨rfl, rfl⟩⟩ | ⟨rfl, rfl, rfl, rfl⟩ <;> omega
end Go.Proofs.YtfcfehiijainpaaDoor
