/- What the claim uses of the text PAllx. -/
import Derived.Test.YtpdpgppaoipnlaaDoorOPAllx0
section
namespace Go.Proofs.YtpdpgppaoipnlaaDoor.PAll
open Go.RowKit Go.Proofs.YtpdpgppaoipnlaaDoorW.PrintWords Go.Proofs.YtpdpgppaoipnlaaDoorW.PrintLast Go.Proofs.YtpdpgppaoipnlaaDoorW.PrintMore
set_option linter.unusedVariables false
set_option linter.unusedSimpArgs false

end Go.Proofs.YtpdpgppaoipnlaaDoor.PAll
end

section
namespace Go.Proofs.YtpdpgppaoipnlaaDoor.PAll
open Go.RowKit Go.Proofs.YtpdpgppaoipnlaaDoorW.PrintWords Go.Proofs.YtpdpgppaoipnlaaDoorW.PrintLast Go.Proofs.YtpdpgppaoipnlaaDoorW.PrintMore
set_option linter.unusedVariables false
set_option linter.unusedSimpArgs false

mutual
def eponymref02_Digit.j0 : Nat → Int → Bool → Option (Int)
  | 0, _, _ => none
  | k + 1, x0, x8 => if x8 = true then (some (wrap64 ((wrap64 (x0)) - 48))) else (if x0 ≥ 97 then (eponymref02_Digit.j1 k x0 (decide (x0 ≤ 102))) else (eponymref02_Digit.j1 k x0 false))
def eponymref02_Digit.j1 : Nat → Int → Bool → Option (Int)
  | 0, _, _ => none
  | k + 1, x0, x17 => if x17 = true then (some (wrap64 ((wrap64 (x0)) - 87))) else (if x0 ≥ 65 then (if x0 ≤ 70 then (some (wrap64 ((wrap64 (x0)) - 55))) else (some (-1))) else (some (-1)))
end
def eponymref02_Digit.f (k : Nat) (a0 : Int) : Option (Int) := if a0 ≥ 48 then (eponymref02_Digit.j0 k a0 (decide (a0 ≤ 57))) else (eponymref02_Digit.j0 k a0 false)
theorem eponymref02_Digit.mono_l : ∀ k, (∀ y0 y1, LeO (eponymref02_Digit.j0 k y0 y1) (eponymref02_Digit.j0 (k + 1) y0 y1)) ∧ (∀ y0 y1, LeO (eponymref02_Digit.j1 k y0 y1) (eponymref02_Digit.j1 (k + 1) y0 y1))
  | 0 => ⟨fun _ _ r h => by simp [eponymref02_Digit.j0] at h, fun _ _ r h => by simp [eponymref02_Digit.j1] at h⟩
  | k + 1 => by
    obtain ⟨ih0, ih1⟩ := eponymref02_Digit.mono_l k
    refine ⟨?_, ?_⟩
    · intro y0 y1
      unfold eponymref02_Digit.j0
      repeat' first
      | (with_reducible exact ih0 _ _)
      | (with_reducible exact ih1 _ _)
      | (with_reducible exact LeO.refl _)
      | (with_reducible exact LeO.none _)
      | (with_reducible refine LeO.ite ?_ ?_)
      | (with_reducible refine LeO.bind ?_ (fun _ => ?_))
      | exact ih0 _ _
      | exact ih1 _ _
      | exact LeO.none _
      | refine LeO.ite ?_ ?_
      | refine LeO.bind ?_ (fun _ => ?_)
    · intro y0 y1
      unfold eponymref02_Digit.j1
      repeat' first
      | (with_reducible exact ih0 _ _)
      | (with_reducible exact ih1 _ _)
      | (with_reducible exact LeO.refl _)
      | (with_reducible exact LeO.none _)
      | (with_reducible refine LeO.ite ?_ ?_)
      | (with_reducible refine LeO.bind ?_ (fun _ => ?_))
      | exact ih0 _ _
      | exact ih1 _ _
      | exact LeO.none _
      | refine LeO.ite ?_ ?_
      | refine LeO.bind ?_ (fun _ => ?_)
theorem eponymref02_Digit.mono : ∀ a0 k, LeO (eponymref02_Digit.f k a0) (eponymref02_Digit.f (k + 1) a0) := by
  intro a0 k
  obtain ⟨ih0, ih1⟩ := eponymref02_Digit.mono_l k
  unfold eponymref02_Digit.f
  repeat' first
      | (with_reducible exact ih0 _ _)
      | (with_reducible exact ih1 _ _)
      | (with_reducible exact LeO.refl _)
      | (with_reducible exact LeO.none _)
      | (with_reducible refine LeO.ite ?_ ?_)
      | (with_reducible refine LeO.bind ?_ (fun _ => ?_))
      | exact ih0 _ _
      | exact ih1 _ _
      | exact LeO.none _
      | refine LeO.ite ?_ ?_
      | refine LeO.bind ?_ (fun _ => ?_)
def eponymref13_unit.l0 : Nat → ByteArray → Int → Int → Int → Option (Int)
  | 0, _, _, _, _ => none
  | k + 1, x0, x1, x5, x6 => if x6 < (wrap64 (x1 + 4)) then (if x6 ≥ (x0.size : Int) then (some (wrap64 ((-1) - x6))) else (if 0 ≤ x6 then (if x6 < (x0.size : Int) then ((eponymref02_Digit.f k (bt x0 x6)).bind fun t134 => (if t134 < 0 then (some (wrap64 ((-1) - x6))) else ((eponymref02_Digit.f k (bt x0 x6)).bind fun t135 => (eponymref13_unit.l0 k x0 x1 (wrap64 ((wrap64 (16 * x5)) + t135)) (wrap64 (x6 + 1)))))) else (none)) else (none))) else (some x5)
def eponymref13_unit.f (k : Nat) (a0 : ByteArray) (a1 : Int) : Option (Int) := eponymref13_unit.l0 k a0 a1 0 a1
theorem eponymref13_unit.mono_l : ∀ k, (∀ y0 y1 y2 y3, LeO (eponymref13_unit.l0 k y0 y1 y2 y3) (eponymref13_unit.l0 (k + 1) y0 y1 y2 y3))
  | 0 => fun _ _ _ _ r h => by simp [eponymref13_unit.l0] at h
  | k + 1 => by
    have ih0 := eponymref13_unit.mono_l k
    · intro y0 y1 y2 y3
      unfold eponymref13_unit.l0
      repeat' first
      | (with_reducible exact ih0 _ _ _ _)
      | (with_reducible exact eponymref02_Digit.mono _ _)
      | (with_reducible exact LeO.refl _)
      | (with_reducible exact LeO.none _)
      | (with_reducible refine LeO.ite ?_ ?_)
      | (with_reducible refine LeO.bind ?_ (fun _ => ?_))
      | exact ih0 _ _ _ _
      | exact eponymref02_Digit.mono _ _
      | exact LeO.none _
      | refine LeO.ite ?_ ?_
      | refine LeO.bind ?_ (fun _ => ?_)
theorem eponymref13_unit.mono : ∀ a0 a1 k, LeO (eponymref13_unit.f k a0 a1) (eponymref13_unit.f (k + 1) a0 a1) := by
  intro a0 a1 k
  have ih0 := eponymref13_unit.mono_l k
  unfold eponymref13_unit.f
  repeat' first
      | (with_reducible exact ih0 _ _ _ _)
      | (with_reducible exact eponymref02_Digit.mono _ _)
      | (with_reducible exact LeO.refl _)
      | (with_reducible exact LeO.none _)
      | (with_reducible refine LeO.ite ?_ ?_)
      | (with_reducible refine LeO.bind ?_ (fun _ => ?_))
      | exact ih0 _ _ _ _
      | exact eponymref02_Digit.mono _ _
      | exact LeO.none _
      | refine LeO.ite ?_ ?_
      | refine LeO.bind ?_ (fun _ => ?_)
-- NOT PRINTED: function 21 (eponymref13_Str)

def eponymref13_Space.l0 : Nat → ByteArray → Int → Option (Int)
  | 0, _, _ => none
  | k + 1, x0, x1 => if x1 < (x0.size : Int) then (if 0 ≤ x1 then (if (bt x0 x1) = 32 then (eponymref13_Space.l0 k x0 (wrap64 (x1 + 1))) else (if (bt x0 x1) = 9 then (eponymref13_Space.l0 k x0 (wrap64 (x1 + 1))) else (if (bt x0 x1) = 10 then (eponymref13_Space.l0 k x0 (wrap64 (x1 + 1))) else (if (bt x0 x1) = 13 then (eponymref13_Space.l0 k x0 (wrap64 (x1 + 1))) else (some x1))))) else (none)) else (some x1)
def eponymref13_Space.f (k : Nat) (a0 : ByteArray) (a1 : Int) : Option (Int) := eponymref13_Space.l0 k a0 a1
theorem eponymref13_Space.mono_l : ∀ k, (∀ y0 y1, LeO (eponymref13_Space.l0 k y0 y1) (eponymref13_Space.l0 (k + 1) y0 y1))
  | 0 => fun _ _ r h => by simp [eponymref13_Space.l0] at h
  | k + 1 => by
    have ih0 := eponymref13_Space.mono_l k
    · intro y0 y1
      unfold eponymref13_Space.l0
      repeat' first
      | (with_reducible exact ih0 _ _)
      | (with_reducible exact LeO.refl _)
      | (with_reducible exact LeO.none _)
      | (with_reducible refine LeO.ite ?_ ?_)
      | (with_reducible refine LeO.bind ?_ (fun _ => ?_))
      | exact ih0 _ _
      | exact LeO.none _
      | refine LeO.ite ?_ ?_
      | refine LeO.bind ?_ (fun _ => ?_)
theorem eponymref13_Space.mono : ∀ a0 a1 k, LeO (eponymref13_Space.f k a0 a1) (eponymref13_Space.f (k + 1) a0 a1) := by
  intro a0 a1 k
  have ih0 := eponymref13_Space.mono_l k
  unfold eponymref13_Space.f
  repeat' first
      | (with_reducible exact ih0 _ _)
      | (with_reducible exact LeO.refl _)
      | (with_reducible exact LeO.none _)
      | (with_reducible refine LeO.ite ?_ ?_)
      | (with_reducible refine LeO.bind ?_ (fun _ => ?_))
      | exact ih0 _ _
      | exact LeO.none _
      | refine LeO.ite ?_ ?_
      | refine LeO.bind ?_ (fun _ => ?_)
def eponymref13_digit.f (a0 : ByteArray) (a1 : Int) : Option (Bool) := if a1 < (a0.size : Int) then (if 0 ≤ a1 then (if (bt a0 a1) ≥ 48 then (some (decide ((bt a0 a1) ≤ 57))) else (some false)) else (none)) else (some false)
-- NOT PRINTED: function 58 (eponymref13_word)

-- NOT PRINTED: function 59 (eponymref13_number)

-- NOT PRINTED: function 20 (eponymref13_Value)

-- NOT PRINTED: function 14 (eponymref13_Read)

-- NOT PRINTED: function 16 (eponymref12_Same)

-- NOT PRINTED: function 3 (eponymlaw13_JsonreadReads)

-- NOT PRINTED: function 18 (jsonread_Str)

-- NOT PRINTED: function 4 (eponymlaw13_JsonreadOnes)

def eponymref01_Decode.l0 : Nat → ByteArray → List Int → Int → Option (List Int × Int × Int)
  | 0, _, _, _ => none
  | k + 1, x0, x5, x6 => if x6 < (x0.size : Int) then ((eponymref01_Next.f k x0 x6).bind fun bt149 => (if bt149.2.2 = 0 then (if x5.length < 35184372088832 then (eponymref01_Decode.l0 k x0 (x5 ++ [bt149.1]) (wrap64 (x6 + bt149.2.1))) else (none)) else (some (([] : List Int), x6, bt149.2.2)))) else (some (x5, 0, 0))
def eponymref01_Decode.f (k : Nat) (a0 : ByteArray) : Option (List Int × Int × Int) := eponymref01_Decode.l0 k a0 ([] : List Int) 0
theorem eponymref01_Decode.mono_l : ∀ k, (∀ y0 y1 y2, LeO (eponymref01_Decode.l0 k y0 y1 y2) (eponymref01_Decode.l0 (k + 1) y0 y1 y2))
  | 0 => fun _ _ _ r h => by simp [eponymref01_Decode.l0] at h
  | k + 1 => by
    have ih0 := eponymref01_Decode.mono_l k
    · intro y0 y1 y2
      unfold eponymref01_Decode.l0
      repeat' first
      | (with_reducible exact ih0 _ _ _)
      | (with_reducible exact eponymref01_Next.mono _ _ _)
      | (with_reducible exact LeO.refl _)
      | (with_reducible exact LeO.none _)
      | (with_reducible refine LeO.ite ?_ ?_)
      | (with_reducible refine LeO.bind ?_ (fun _ => ?_))
      | exact ih0 _ _ _
      | exact eponymref01_Next.mono _ _ _
      | exact LeO.none _
      | refine LeO.ite ?_ ?_
      | refine LeO.bind ?_ (fun _ => ?_)
theorem eponymref01_Decode.mono : ∀ a0 k, LeO (eponymref01_Decode.f k a0) (eponymref01_Decode.f (k + 1) a0) := by
  intro a0 k
  have ih0 := eponymref01_Decode.mono_l k
  unfold eponymref01_Decode.f
  repeat' first
      | (with_reducible exact ih0 _ _ _)
      | (with_reducible exact eponymref01_Next.mono _ _ _)
      | (with_reducible exact LeO.refl _)
      | (with_reducible exact LeO.none _)
      | (with_reducible refine LeO.ite ?_ ?_)
      | (with_reducible refine LeO.bind ?_ (fun _ => ?_))
      | exact ih0 _ _ _
      | exact eponymref01_Next.mono _ _ _
      | exact LeO.none _
      | refine LeO.ite ?_ ?_
      | refine LeO.bind ?_ (fun _ => ?_)
def eponymref12_good.f (k : Nat) (a0 : ByteArray) : Option (Bool) := (eponymref01_Decode.f k a0).bind fun bt155 => (some (bt155.2.2 == 0))
theorem eponymref12_good.mono : ∀ a0 k, LeO (eponymref12_good.f k a0) (eponymref12_good.f (k + 1) a0) := by
  intro a0 k
  unfold eponymref12_good.f
  repeat' first
      | (with_reducible exact eponymref01_Decode.mono _ _)
      | (with_reducible exact LeO.refl _)
      | (with_reducible exact LeO.none _)
      | (with_reducible refine LeO.ite ?_ ?_)
      | (with_reducible refine LeO.bind ?_ (fun _ => ?_))
      | exact eponymref01_Decode.mono _ _
      | exact LeO.none _
      | refine LeO.ite ?_ ?_
      | refine LeO.bind ?_ (fun _ => ?_)
def eponymref12_digits.l0 : Nat → ByteArray → Int → Int → Option (Int)
  | 0, _, _, _ => none
  | k + 1, x0, x1, x5 => if (wrap64 (x1 + x5)) < (x0.size : Int) then (if 0 ≤ (wrap64 (x1 + x5)) then (if (bt x0 (wrap64 (x1 + x5))) ≥ 48 then (if (bt x0 (wrap64 (x1 + x5))) ≤ 57 then (eponymref12_digits.l0 k x0 x1 (wrap64 (x5 + 1))) else (some x5)) else (some x5)) else (none)) else (some x5)
def eponymref12_digits.f (k : Nat) (a0 : ByteArray) (a1 : Int) : Option (Int) := eponymref12_digits.l0 k a0 a1 0
theorem eponymref12_digits.mono_l : ∀ k, (∀ y0 y1 y2, LeO (eponymref12_digits.l0 k y0 y1 y2) (eponymref12_digits.l0 (k + 1) y0 y1 y2))
  | 0 => fun _ _ _ r h => by simp [eponymref12_digits.l0] at h
  | k + 1 => by
    have ih0 := eponymref12_digits.mono_l k
    · intro y0 y1 y2
      unfold eponymref12_digits.l0
      repeat' first
      | (with_reducible exact ih0 _ _ _)
      | (with_reducible exact LeO.refl _)
      | (with_reducible exact LeO.none _)
      | (with_reducible refine LeO.ite ?_ ?_)
      | (with_reducible refine LeO.bind ?_ (fun _ => ?_))
      | exact ih0 _ _ _
      | exact LeO.none _
      | refine LeO.ite ?_ ?_
      | refine LeO.bind ?_ (fun _ => ?_)
theorem eponymref12_digits.mono : ∀ a0 a1 k, LeO (eponymref12_digits.f k a0 a1) (eponymref12_digits.f (k + 1) a0 a1) := by
  intro a0 a1 k
  have ih0 := eponymref12_digits.mono_l k
  unfold eponymref12_digits.f
  repeat' first
      | (with_reducible exact ih0 _ _ _)
      | (with_reducible exact LeO.refl _)
      | (with_reducible exact LeO.none _)
      | (with_reducible refine LeO.ite ?_ ?_)
      | (with_reducible refine LeO.bind ?_ (fun _ => ?_))
      | exact ih0 _ _ _
      | exact LeO.none _
      | refine LeO.ite ?_ ?_
      | refine LeO.bind ?_ (fun _ => ?_)
end Go.Proofs.YtpdpgppaoipnlaaDoor.PAll
end

section
namespace Go.Proofs.YtpdpgppaoipnlaaDoor.PAll
open Go.RowKit Go.Proofs.YtpdpgppaoipnlaaDoorW.PrintWords Go.Proofs.YtpdpgppaoipnlaaDoorW.PrintLast Go.Proofs.YtpdpgppaoipnlaaDoorW.PrintMore
set_option linter.unusedVariables false
set_option linter.unusedSimpArgs false

mutual
def eponymref03_Digits.l0 : Nat → Int → Int → ByteArray → Option (ByteArray)
  | 0, _, _, _ => none
  | k + 1, x0, x1, x5 => if x0 > 0 then (eponymref03_Digits.j1 k x0 x1 x5 true) else (eponymref03_Digits.j1 k x0 x1 x5 (x5.toList == ([] : List UInt8)))
def eponymref03_Digits.j1 : Nat → Int → Int → ByteArray → Bool → Option (ByteArray)
  | 0, _, _, _, _ => none
  | k + 1, x0, x1, x5, x12 => if x12 = true then (if x1 = 0 then (none) else (if ((Int.tmod x0 x1) % 256) < 10 then ((some (([(((Int.tmod x0 x1) % 256) + 48) % 256] : List Int) : List Int)).bind fun y160 => (if (strOfNums y160).size + x5.size ≤ 9223372036854775807 then (eponymref03_Digits.l0 k (wrap64 (Int.tdiv x0 x1)) x1 ((strOfNums y160) ++ x5)) else (none))) else ((some (([(((Int.tmod x0 x1) % 256) + 55) % 256] : List Int) : List Int)).bind fun y163 => (if (strOfNums y163).size + x5.size ≤ 9223372036854775807 then (eponymref03_Digits.l0 k (wrap64 (Int.tdiv x0 x1)) x1 ((strOfNums y163) ++ x5)) else (none))))) else (some x5)
end
def eponymref03_Digits.f (k : Nat) (a0 : Int) (a1 : Int) : Option (ByteArray) := eponymref03_Digits.l0 k a0 a1 (⟨#[]⟩ : ByteArray)
theorem eponymref03_Digits.mono_l : ∀ k, (∀ y0 y1 y2, LeO (eponymref03_Digits.l0 k y0 y1 y2) (eponymref03_Digits.l0 (k + 1) y0 y1 y2)) ∧ (∀ y0 y1 y2 y3, LeO (eponymref03_Digits.j1 k y0 y1 y2 y3) (eponymref03_Digits.j1 (k + 1) y0 y1 y2 y3))
  | 0 => ⟨fun _ _ _ r h => by simp [eponymref03_Digits.l0] at h, fun _ _ _ _ r h => by simp [eponymref03_Digits.j1] at h⟩
  | k + 1 => by
    obtain ⟨ih0, ih1⟩ := eponymref03_Digits.mono_l k
    refine ⟨?_, ?_⟩
    · intro y0 y1 y2
      unfold eponymref03_Digits.l0
      repeat' first
      | (with_reducible exact ih0 _ _ _)
      | (with_reducible exact ih1 _ _ _ _)
      | (with_reducible exact LeO.refl _)
      | (with_reducible exact LeO.none _)
      | (with_reducible refine LeO.ite ?_ ?_)
      | (with_reducible refine LeO.bind ?_ (fun _ => ?_))
      | exact ih0 _ _ _
      | exact ih1 _ _ _ _
      | exact LeO.none _
      | refine LeO.ite ?_ ?_
      | refine LeO.bind ?_ (fun _ => ?_)
    · intro y0 y1 y2 y3
      unfold eponymref03_Digits.j1
      repeat' first
      | (with_reducible exact ih0 _ _ _)
      | (with_reducible exact ih1 _ _ _ _)
      | (with_reducible exact LeO.refl _)
      | (with_reducible exact LeO.none _)
      | (with_reducible refine LeO.ite ?_ ?_)
      | (with_reducible refine LeO.bind ?_ (fun _ => ?_))
      | exact ih0 _ _ _
      | exact ih1 _ _ _ _
      | exact LeO.none _
      | refine LeO.ite ?_ ?_
      | refine LeO.bind ?_ (fun _ => ?_)
theorem eponymref03_Digits.mono : ∀ a0 a1 k, LeO (eponymref03_Digits.f k a0 a1) (eponymref03_Digits.f (k + 1) a0 a1) := by
  intro a0 a1 k
  obtain ⟨ih0, ih1⟩ := eponymref03_Digits.mono_l k
  unfold eponymref03_Digits.f
  repeat' first
      | (with_reducible exact ih0 _ _ _)
      | (with_reducible exact ih1 _ _ _ _)
      | (with_reducible exact LeO.refl _)
      | (with_reducible exact LeO.none _)
      | (with_reducible refine LeO.ite ?_ ?_)
      | (with_reducible refine LeO.bind ?_ (fun _ => ?_))
      | exact ih0 _ _ _
      | exact ih1 _ _ _ _
      | exact LeO.none _
      | refine LeO.ite ?_ ?_
      | refine LeO.bind ?_ (fun _ => ?_)
end Go.Proofs.YtpdpgppaoipnlaaDoor.PAll
end

