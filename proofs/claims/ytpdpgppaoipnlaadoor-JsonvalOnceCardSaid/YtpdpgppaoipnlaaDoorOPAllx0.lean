/- What the claim uses of the text PAllx0. -/
import Derived.Test.YtpdpgppaoipnlaaDoorProg
import Derived.Below
import Derived.Deep.Draws
import Derived.Deep.AppendLies
import Derived.Maps.AppendAt
import Derived.OwnWalk
import Derived.Laws.BytesArg
import Derived.Laws.MakeOwn
import Derived.Laws.OwnMore
import Derived.Deep.OwnRows
import Derived.Tactics
import Derived.Lib.ConvBytes
import Derived.Laws.Slices
import Derived.WalkKit
import Derived.KernelRfl
import Derived.RowKit3
import Derived.Deep.LoopGhost
import Derived.Deep.QuietTactic
import Derived.BigQuiet
import Derived.WideLaws
import Derived.Deep.DeepCutAuto
import Derived.Deep.CutBlock
import Derived.Deep.RegionHeld3
import Derived.Laws.Rows
import Derived.Lib.AppendStr
import Derived.ArgAppend
import Derived.Laws.IdiomCopy
import Derived.OrdersHeld
import Derived.Laws.BitsLemmas
import Derived.RowKit
import Derived.Test.YtpdpgppaoipnlaaDoorOWWords
section
namespace Go.Proofs.YtpdpgppaoipnlaaDoor.PAll
open Go.RowKit Go.Proofs.YtpdpgppaoipnlaaDoorW.PrintWords Go.Proofs.YtpdpgppaoipnlaaDoorW.PrintLast Go.Proofs.YtpdpgppaoipnlaaDoorW.PrintMore
set_option linter.unusedVariables false
set_option linter.unusedSimpArgs false



theorem info21 : (Tryd.prog.info? 21).map (fun i => (i.zero, i.size, i.bytes)) = some (some (.int .i32 0), 1, 4) := by kernel_rfl
-- the values' own types

end Go.Proofs.YtpdpgppaoipnlaaDoor.PAll
end

section
namespace Go.Proofs.YtpdpgppaoipnlaaDoor.PAll
open Go.RowKit Go.Proofs.YtpdpgppaoipnlaaDoorW.PrintWords Go.Proofs.YtpdpgppaoipnlaaDoorW.PrintLast Go.Proofs.YtpdpgppaoipnlaaDoorW.PrintMore
set_option linter.unusedVariables false
set_option linter.unusedSimpArgs false

-- NOT PRINTED: function 31 (jsonval_Str)

-- NOT PRINTED: function 77 (reflectlite_ValueOf)

-- NOT PRINTED: function 78 (reflectlite_Value_Type)

-- NOT PRINTED: function 79 (reflectlite_Value_IsNil)

-- NOT PRINTED: function 81 (reflectlite_TypeOf)

-- NOT PRINTED: function 104 (reflectlite_Value_Elem)

-- NOT PRINTED: function 105 (reflectlite_Value_Set)

-- NOT PRINTED: function 80 (errors_as)

-- NOT PRINTED: function 47 (errors_As)

-- NOT PRINTED: function 84 (jsonread_throw)

-- NOT PRINTED: function 83 (jsonread_reader_peek)

-- NOT PRINTED: function 89 (jsonread_reader_take)

-- NOT PRINTED: function 67 (strings_Builder_String)

def utf_Right.f (a0 : Int) : Option (Bool) := if a0 ≥ 0 then (if a0 ≤ 1114111 then (if a0 < 55296 then (some true) else (some (decide (a0 > 57343)))) else (some false)) else (some false)
-- NOT PRINTED: function 109 (utf_fault)

-- NOT PRINTED: function 122 (abi_NoEscape)

-- NOT PRINTED: function 115 (strings_Builder_copyCheck)

-- NOT PRINTED: function 100 (strings_Builder_WriteByte)

def utf_Width.f (a0 : Int) : Option (Int) := (utf_Right.f a0).bind fun t102 => (if t102 = true then (if a0 < 128 then (some 1) else (if a0 < 2048 then (some 2) else (if a0 < 65536 then (some 3) else (some 4)))) else (some 0))
-- NOT PRINTED: function 110 (utf_put)

-- NOT PRINTED: function 90 (utf_Encode)

-- NOT PRINTED: function 111 (jsonread_reader_unit)

-- NOT PRINTED: function 112 (jsonread_reader_low)

-- NOT PRINTED: function 91 (jsonread_reader_escape)

def utf_first.j0 : Nat → Int → Int → Int → Int → Option (Int × Int × Int × Int)
  | 0, _, _, _, _ => none
  | k + 1, x0, x2, x4, x5 => if x0 = 224 then (if 0 ≤ x2 then (some (x2, wrap32 (Go.bits .and .u8 x0 (shr .u8 63 x2)), 160, x5)) else (none)) else (if x0 = 237 then (if 0 ≤ x2 then (some (x2, wrap32 (Go.bits .and .u8 x0 (shr .u8 63 x2)), x4, 159)) else (none)) else (if x0 = 240 then (if 0 ≤ x2 then (some (x2, wrap32 (Go.bits .and .u8 x0 (shr .u8 63 x2)), 144, x5)) else (none)) else (if x0 = 244 then (if 0 ≤ x2 then (some (x2, wrap32 (Go.bits .and .u8 x0 (shr .u8 63 x2)), x4, 143)) else (none)) else (if 0 ≤ x2 then (some (x2, wrap32 (Go.bits .and .u8 x0 (shr .u8 63 x2)), x4, x5)) else (none)))))
def utf_first.f (k : Nat) (a0 : Int) : Option (Int × Int × Int × Int) := if a0 ≥ 245 then (some ((-1), 0, 128, 191)) else (if a0 ≥ 240 then (utf_first.j0 k a0 (((0 + 1) + 1) + 1) 128 191) else (if a0 ≥ 224 then (utf_first.j0 k a0 ((0 + 1) + 1) 128 191) else (if a0 ≥ 194 then (utf_first.j0 k a0 (0 + 1) 128 191) else (if a0 ≥ 128 then (some ((-1), 0, 128, 191)) else (some (0, wrap32 (a0), 128, 191))))))
theorem utf_first.mono_l : ∀ k, (∀ y0 y1 y2 y3, LeO (utf_first.j0 k y0 y1 y2 y3) (utf_first.j0 (k + 1) y0 y1 y2 y3))
  | 0 => fun _ _ _ _ r h => by simp [utf_first.j0] at h
  | k + 1 => by
    have ih0 := utf_first.mono_l k
    · intro y0 y1 y2 y3
      unfold utf_first.j0
      repeat' first
      | (with_reducible exact ih0 _ _ _ _)
      | (with_reducible exact LeO.refl _)
      | (with_reducible exact LeO.none _)
      | (with_reducible refine LeO.ite ?_ ?_)
      | (with_reducible refine LeO.bind ?_ (fun _ => ?_))
      | exact ih0 _ _ _ _
      | exact LeO.none _
      | refine LeO.ite ?_ ?_
      | refine LeO.bind ?_ (fun _ => ?_)
theorem utf_first.mono : ∀ a0 k, LeO (utf_first.f k a0) (utf_first.f (k + 1) a0) := by
  intro a0 k
  have ih0 := utf_first.mono_l k
  unfold utf_first.f
  repeat' first
      | (with_reducible exact ih0 _ _ _ _)
      | (with_reducible exact LeO.refl _)
      | (with_reducible exact LeO.none _)
      | (with_reducible refine LeO.ite ?_ ?_)
      | (with_reducible refine LeO.bind ?_ (fun _ => ?_))
      | exact ih0 _ _ _ _
      | exact LeO.none _
      | refine LeO.ite ?_ ?_
      | refine LeO.bind ?_ (fun _ => ?_)
-- NOT PRINTED: function 92 (utf_Next)

-- NOT PRINTED: function 54 (jsonread_reader_str)

-- NOT PRINTED: function 117 (bytealg_IndexByteString)

-- NOT PRINTED: function 102 (stringslite_IndexByte)

-- NOT PRINTED: function 72 (strings_IndexByte)

-- NOT PRINTED: function 85 (jsonread_reader_word)

-- NOT PRINTED: function 55 (jsonread_reader_space)

-- NOT PRINTED: function 106 (jsonread_reader_any)

-- NOT PRINTED: function 86 (jsonread_reader_array)

-- NOT PRINTED: function 87 (jsonread_reader_object)

/-- A state of type 79 at block g of W; what its slices lead to came in by w0. -/
def IsS79 (w0 W : World) (g : Nat) (f0 : ByteArray) (f1 : Int) : Prop := W.heap[g]? = some (.cells #[.string f0, .int .i64 f1] 79 (0, 0)) ∧ w0.heap.size ≤ g
theorem IsS79.grown {w0 W : World} {g : Nat} {f0 : ByteArray} {f1 : Int} {W1 : World} {row : Option Nat} (h : IsS79 w0 W g f0 f1) (hw : W.grownBy W1 row) (hne : some g ≠ row) : IsS79 w0 W1 g f0 f1 := by
  obtain ⟨hb, hg⟩ := h
  exact ⟨blk_grown hb hw hne, hg⟩
theorem IsS79.kept {w0 W : World} {g : Nat} {f0 : ByteArray} {f1 : Int} {W1 : World} {S : Nat → Prop} (h : IsS79 w0 W g f0 f1) (hk : Kept W W1 S) (hne : ¬ S g) : IsS79 w0 W1 g f0 f1 := by
  obtain ⟨hb, hg⟩ := h
  exact ⟨blk_kept hb hk hne, hg⟩
theorem IsS79.below {w0 W : World} {g : Nat} {f0 : ByteArray} {f1 : Int} {W1 : World} (h : IsS79 w0 W g f0 f1) (hw : Below W.heap.size W W1) : IsS79 w0 W1 g f0 f1 := h.grown (grown_of_below hw none) (by simp)
theorem IsS79.alloc {w0 W : World} {g : Nat} {f0 : ByteArray} {f1 : Int} (h : IsS79 w0 W g f0 f1) (o : Obj) : IsS79 w0 (W.alloc o) g f0 f1 := h.below (below_alloc (Below.refl _ _) o)
theorem IsS79.drewN {w0 W : World} {g : Nat} {f0 : ByteArray} {f1 : Int} (h : IsS79 w0 W g f0 f1) (m : Nat) : IsS79 w0 (W.drewN m) g f0 f1 := h
theorem IsS79.drew {w0 W : World} {g : Nat} {f0 : ByteArray} {f1 : Int} (h : IsS79 w0 W g f0 f1) : IsS79 w0 W.drew g f0 f1 := h
theorem IsS79.at_ {w0 W : World} {g : Nat} {f0 : ByteArray} {f1 : Int} {w' : World} {m : Nat} (hq : W.drewN m = w') (h : IsS79 w0 W g f0 f1) : IsS79 w0 w' g f0 f1 := by subst hq; exact IsS79.drewN h m
theorem IsS79.lt {w0 W : World} {g : Nat} {f0 : ByteArray} {f1 : Int} (h : IsS79 w0 W g f0 f1) : g < W.heap.size := by
  obtain ⟨hb, hg⟩ := h
  exact blk_lt hb
theorem IsS79.far {w0 W : World} {g : Nat} {f0 : ByteArray} {f1 : Int} {p : Addr} (h : IsS79 w0 W g f0 f1) (hne : g ≠ p.block) (u : Value) : IsS79 w0 (W.setCell p u) g f0 f1 := by
  obtain ⟨hb, hg⟩ := h
  exact ⟨blk_far hb hne u, hg⟩
theorem IsS79.new (w0 W : World) (f0 : ByteArray) (f1 : Int) (hB : Below w0.heap.size w0 W) : IsS79 w0 (W.alloc (.cells #[.string f0, .int .i64 f1] 79)) W.heap.size f0 f1 := ⟨by simpa using heap_alloc_new W _, hB.size⟩

def jsonread_reader_digit.f (s0_0 : ByteArray) (s0_1 : Int) : Option (Bool × ByteArray × Int) := if s0_1 < (s0_0.size : Int) then (if 0 ≤ s0_1 then (if (bt s0_0 s0_1) ≥ 48 then (some (decide ((bt s0_0 s0_1) ≤ 57), s0_0, s0_1)) else (some (false, s0_0, s0_1))) else (none)) else (some (false, s0_0, s0_1))
-- NOT PRINTED: function 107 (jsonread_reader_digits)

-- NOT PRINTED: function 88 (jsonread_reader_number)

-- NOT PRINTED: function 52 (jsonread_reader_value)

-- NOT PRINTED: function 17 (jsonread_One)

-- NOT PRINTED: function 19 (jsonread_Space)

-- NOT PRINTED: function 13 (jsonread_Read)

-- NOT PRINTED: function 82 (errors_is)

-- NOT PRINTED: function 48 (errors_Is)

-- NOT PRINTED: function 49 (eponymlaw01_Named)

-- NOT PRINTED: function 15 (eponymlaw01_Is)

-- NOT PRINTED: function 12 (eponymlaw13_awake)

-- NOT PRINTED: function 56 (eponymref13_bad)

def eponymref13_is.f (a0 : ByteArray) (a1 : Int) (a2 : Int) : Option (Bool) := if a1 < (a0.size : Int) then (if 0 ≤ a1 then (some ((bt a0 a1) == a2)) else (none)) else (some false)
def eponymref01_Form.f (a0 : Int) : Option (ByteArray) := if a0 < 128 then (some (strOfNums (([(a0) % 256] : List Int)))) else (if a0 < 2048 then (some (strOfNums (([(wrap32 (192 + (wrap32 (Int.tdiv a0 64)))) % 256, (wrap32 (128 + (Int.tmod a0 64))) % 256] : List Int)))) else (if a0 < 65536 then (some (strOfNums (([(wrap32 (224 + (wrap32 (Int.tdiv a0 4096)))) % 256, (wrap32 (128 + (Int.tmod (wrap32 (Int.tdiv a0 64)) 64))) % 256, (wrap32 (128 + (Int.tmod a0 64))) % 256] : List Int)))) else (some (strOfNums (([(wrap32 (240 + (wrap32 (Int.tdiv a0 262144)))) % 256, (wrap32 (128 + (Int.tmod (wrap32 (Int.tdiv a0 4096)) 64))) % 256, (wrap32 (128 + (Int.tmod (wrap32 (Int.tdiv a0 64)) 64))) % 256, (wrap32 (128 + (Int.tmod a0 64))) % 256] : List Int))))))
end Go.Proofs.YtpdpgppaoipnlaaDoor.PAll
end

section
namespace Go.Proofs.YtpdpgppaoipnlaaDoor.PAll
open Go.RowKit Go.Proofs.YtpdpgppaoipnlaaDoorW.PrintWords Go.Proofs.YtpdpgppaoipnlaaDoorW.PrintLast Go.Proofs.YtpdpgppaoipnlaaDoorW.PrintMore
set_option linter.unusedVariables false
set_option linter.unusedSimpArgs false

mutual
def eponymref01_value.j0 : Nat → ByteArray → Int → Int → Bool → Option (Int)
  | 0, _, _, _, _ => none
  | k + 1, x0, x3, x4, x17 => if x17 = true then (some x3) else (if x4 = 2 then (if x3 ≥ 192 then (eponymref01_value.j1 k x0 x3 x4 (-1) (decide (x3 < 224))) else (eponymref01_value.j1 k x0 x3 x4 (-1) false)) else (eponymref01_value.j1 k x0 x3 x4 (-1) false))
def eponymref01_value.j1 : Nat → ByteArray → Int → Int → Int → Bool → Option (Int)
  | 0, _, _, _, _, _ => none
  | k + 1, x0, x3, x4, x5, x28 => if x28 = true then (eponymref01_value.j2 k x0 x3 x4 (wrap32 (x3 - 192))) else (eponymref01_value.j2 k x0 x3 x4 x5)
def eponymref01_value.j2 : Nat → ByteArray → Int → Int → Int → Option (Int)
  | 0, _, _, _, _ => none
  | k + 1, x0, x3, x4, x5 => if x4 = 3 then (if x3 ≥ 224 then (eponymref01_value.j3 k x0 x3 x4 x5 (decide (x3 < 240))) else (eponymref01_value.j3 k x0 x3 x4 x5 false)) else (eponymref01_value.j3 k x0 x3 x4 x5 false)
def eponymref01_value.j3 : Nat → ByteArray → Int → Int → Int → Bool → Option (Int)
  | 0, _, _, _, _, _ => none
  | k + 1, x0, x3, x4, x5, x40 => if x40 = true then (eponymref01_value.j4 k x0 x3 x4 (wrap32 (x3 - 224))) else (eponymref01_value.j4 k x0 x3 x4 x5)
def eponymref01_value.j4 : Nat → ByteArray → Int → Int → Int → Option (Int)
  | 0, _, _, _, _ => none
  | k + 1, x0, x3, x4, x5 => if x4 = 4 then (if x3 ≥ 240 then (eponymref01_value.j5 k x0 x3 x4 x5 (decide (x3 < 248))) else (eponymref01_value.j5 k x0 x3 x4 x5 false)) else (eponymref01_value.j5 k x0 x3 x4 x5 false)
def eponymref01_value.j5 : Nat → ByteArray → Int → Int → Int → Bool → Option (Int)
  | 0, _, _, _, _, _ => none
  | k + 1, x0, x3, x4, x5, x52 => if x52 = true then (eponymref01_value.j6 k x0 x4 (wrap32 (x3 - 240))) else (eponymref01_value.j6 k x0 x4 x5)
def eponymref01_value.j6 : Nat → ByteArray → Int → Int → Option (Int)
  | 0, _, _, _ => none
  | k + 1, x0, x4, x5 => if x5 < 0 then (some (-1)) else (eponymref01_value.l0 k x0 x4 x5 1)
def eponymref01_value.l0 : Nat → ByteArray → Int → Int → Int → Option (Int)
  | 0, _, _, _, _ => none
  | k + 1, x0, x4, x5, x6 => if x6 < x4 then (if 0 ≤ x6 then (if x6 < (x0.size : Int) then (if (bt x0 x6) < 128 then (some (-1)) else (if (bt x0 x6) > 191 then (some (-1)) else (eponymref01_value.l0 k x0 x4 (wrap32 ((wrap32 ((wrap32 (x5 * 64)) + (wrap32 (bt x0 x6)))) - 128)) (wrap64 (x6 + 1))))) else (none)) else (none)) else (some x5)
end
def eponymref01_value.f (k : Nat) (a0 : ByteArray) : Option (Int) := if 0 < (a0.size : Int) then (if (a0.size : Int) = 1 then (eponymref01_value.j0 k a0 (wrap32 (bt a0 0)) (a0.size : Int) (decide ((wrap32 (bt a0 0)) < 128))) else (eponymref01_value.j0 k a0 (wrap32 (bt a0 0)) (a0.size : Int) false)) else (none)
theorem eponymref01_value.mono_l : ∀ k, (∀ y0 y1 y2 y3, LeO (eponymref01_value.j0 k y0 y1 y2 y3) (eponymref01_value.j0 (k + 1) y0 y1 y2 y3)) ∧ (∀ y0 y1 y2 y3 y4, LeO (eponymref01_value.j1 k y0 y1 y2 y3 y4) (eponymref01_value.j1 (k + 1) y0 y1 y2 y3 y4)) ∧ (∀ y0 y1 y2 y3, LeO (eponymref01_value.j2 k y0 y1 y2 y3) (eponymref01_value.j2 (k + 1) y0 y1 y2 y3)) ∧ (∀ y0 y1 y2 y3 y4, LeO (eponymref01_value.j3 k y0 y1 y2 y3 y4) (eponymref01_value.j3 (k + 1) y0 y1 y2 y3 y4)) ∧ (∀ y0 y1 y2 y3, LeO (eponymref01_value.j4 k y0 y1 y2 y3) (eponymref01_value.j4 (k + 1) y0 y1 y2 y3)) ∧ (∀ y0 y1 y2 y3 y4, LeO (eponymref01_value.j5 k y0 y1 y2 y3 y4) (eponymref01_value.j5 (k + 1) y0 y1 y2 y3 y4)) ∧ (∀ y0 y1 y2, LeO (eponymref01_value.j6 k y0 y1 y2) (eponymref01_value.j6 (k + 1) y0 y1 y2)) ∧ (∀ y0 y1 y2 y3, LeO (eponymref01_value.l0 k y0 y1 y2 y3) (eponymref01_value.l0 (k + 1) y0 y1 y2 y3))
  | 0 => ⟨fun _ _ _ _ r h => by simp [eponymref01_value.j0] at h, fun _ _ _ _ _ r h => by simp [eponymref01_value.j1] at h, fun _ _ _ _ r h => by simp [eponymref01_value.j2] at h, fun _ _ _ _ _ r h => by simp [eponymref01_value.j3] at h, fun _ _ _ _ r h => by simp [eponymref01_value.j4] at h, fun _ _ _ _ _ r h => by simp [eponymref01_value.j5] at h, fun _ _ _ r h => by simp [eponymref01_value.j6] at h, fun _ _ _ _ r h => by simp [eponymref01_value.l0] at h⟩
  | k + 1 => by
    obtain ⟨ih0, ih1, ih2, ih3, ih4, ih5, ih6, ih7⟩ := eponymref01_value.mono_l k
    refine ⟨?_, ?_, ?_, ?_, ?_, ?_, ?_, ?_⟩
    · intro y0 y1 y2 y3
      unfold eponymref01_value.j0
      repeat' first
      | (with_reducible exact ih0 _ _ _ _)
      | (with_reducible exact ih1 _ _ _ _ _)
      | (with_reducible exact ih2 _ _ _ _)
      | (with_reducible exact ih3 _ _ _ _ _)
      | (with_reducible exact ih4 _ _ _ _)
      | (with_reducible exact ih5 _ _ _ _ _)
      | (with_reducible exact ih6 _ _ _)
      | (with_reducible exact ih7 _ _ _ _)
      | (with_reducible exact LeO.refl _)
      | (with_reducible exact LeO.none _)
      | (with_reducible refine LeO.ite ?_ ?_)
      | (with_reducible refine LeO.bind ?_ (fun _ => ?_))
      | exact ih0 _ _ _ _
      | exact ih1 _ _ _ _ _
      | exact ih2 _ _ _ _
      | exact ih3 _ _ _ _ _
      | exact ih4 _ _ _ _
      | exact ih5 _ _ _ _ _
      | exact ih6 _ _ _
      | exact ih7 _ _ _ _
      | exact LeO.none _
      | refine LeO.ite ?_ ?_
      | refine LeO.bind ?_ (fun _ => ?_)
    · intro y0 y1 y2 y3 y4
      unfold eponymref01_value.j1
      repeat' first
      | (with_reducible exact ih0 _ _ _ _)
      | (with_reducible exact ih1 _ _ _ _ _)
      | (with_reducible exact ih2 _ _ _ _)
      | (with_reducible exact ih3 _ _ _ _ _)
      | (with_reducible exact ih4 _ _ _ _)
      | (with_reducible exact ih5 _ _ _ _ _)
      | (with_reducible exact ih6 _ _ _)
      | (with_reducible exact ih7 _ _ _ _)
      | (with_reducible exact LeO.refl _)
      | (with_reducible exact LeO.none _)
      | (with_reducible refine LeO.ite ?_ ?_)
      | (with_reducible refine LeO.bind ?_ (fun _ => ?_))
      | exact ih0 _ _ _ _
      | exact ih1 _ _ _ _ _
      | exact ih2 _ _ _ _
      | exact ih3 _ _ _ _ _
      | exact ih4 _ _ _ _
      | exact ih5 _ _ _ _ _
      | exact ih6 _ _ _
      | exact ih7 _ _ _ _
      | exact LeO.none _
      | refine LeO.ite ?_ ?_
      | refine LeO.bind ?_ (fun _ => ?_)
    · intro y0 y1 y2 y3
      unfold eponymref01_value.j2
      repeat' first
      | (with_reducible exact ih0 _ _ _ _)
      | (with_reducible exact ih1 _ _ _ _ _)
      | (with_reducible exact ih2 _ _ _ _)
      | (with_reducible exact ih3 _ _ _ _ _)
      | (with_reducible exact ih4 _ _ _ _)
      | (with_reducible exact ih5 _ _ _ _ _)
      | (with_reducible exact ih6 _ _ _)
      | (with_reducible exact ih7 _ _ _ _)
      | (with_reducible exact LeO.refl _)
      | (with_reducible exact LeO.none _)
      | (with_reducible refine LeO.ite ?_ ?_)
      | (with_reducible refine LeO.bind ?_ (fun _ => ?_))
      | exact ih0 _ _ _ _
      | exact ih1 _ _ _ _ _
      | exact ih2 _ _ _ _
      | exact ih3 _ _ _ _ _
      | exact ih4 _ _ _ _
      | exact ih5 _ _ _ _ _
      | exact ih6 _ _ _
      | exact ih7 _ _ _ _
      | exact LeO.none _
      | refine LeO.ite ?_ ?_
      | refine LeO.bind ?_ (fun _ => ?_)
    · intro y0 y1 y2 y3 y4
      unfold eponymref01_value.j3
      repeat' first
      | (with_reducible exact ih0 _ _ _ _)
      | (with_reducible exact ih1 _ _ _ _ _)
      | (with_reducible exact ih2 _ _ _ _)
      | (with_reducible exact ih3 _ _ _ _ _)
      | (with_reducible exact ih4 _ _ _ _)
      | (with_reducible exact ih5 _ _ _ _ _)
      | (with_reducible exact ih6 _ _ _)
      | (with_reducible exact ih7 _ _ _ _)
      | (with_reducible exact LeO.refl _)
      | (with_reducible exact LeO.none _)
      | (with_reducible refine LeO.ite ?_ ?_)
      | (with_reducible refine LeO.bind ?_ (fun _ => ?_))
      | exact ih0 _ _ _ _
      | exact ih1 _ _ _ _ _
      | exact ih2 _ _ _ _
      | exact ih3 _ _ _ _ _
      | exact ih4 _ _ _ _
      | exact ih5 _ _ _ _ _
      | exact ih6 _ _ _
      | exact ih7 _ _ _ _
      | exact LeO.none _
      | refine LeO.ite ?_ ?_
      | refine LeO.bind ?_ (fun _ => ?_)
    · intro y0 y1 y2 y3
      unfold eponymref01_value.j4
      repeat' first
      | (with_reducible exact ih0 _ _ _ _)
      | (with_reducible exact ih1 _ _ _ _ _)
      | (with_reducible exact ih2 _ _ _ _)
      | (with_reducible exact ih3 _ _ _ _ _)
      | (with_reducible exact ih4 _ _ _ _)
      | (with_reducible exact ih5 _ _ _ _ _)
      | (with_reducible exact ih6 _ _ _)
      | (with_reducible exact ih7 _ _ _ _)
      | (with_reducible exact LeO.refl _)
      | (with_reducible exact LeO.none _)
      | (with_reducible refine LeO.ite ?_ ?_)
      | (with_reducible refine LeO.bind ?_ (fun _ => ?_))
      | exact ih0 _ _ _ _
      | exact ih1 _ _ _ _ _
      | exact ih2 _ _ _ _
      | exact ih3 _ _ _ _ _
      | exact ih4 _ _ _ _
      | exact ih5 _ _ _ _ _
      | exact ih6 _ _ _
      | exact ih7 _ _ _ _
      | exact LeO.none _
      | refine LeO.ite ?_ ?_
      | refine LeO.bind ?_ (fun _ => ?_)
    · intro y0 y1 y2 y3 y4
      unfold eponymref01_value.j5
      repeat' first
      | (with_reducible exact ih0 _ _ _ _)
      | (with_reducible exact ih1 _ _ _ _ _)
      | (with_reducible exact ih2 _ _ _ _)
      | (with_reducible exact ih3 _ _ _ _ _)
      | (with_reducible exact ih4 _ _ _ _)
      | (with_reducible exact ih5 _ _ _ _ _)
      | (with_reducible exact ih6 _ _ _)
      | (with_reducible exact ih7 _ _ _ _)
      | (with_reducible exact LeO.refl _)
      | (with_reducible exact LeO.none _)
      | (with_reducible refine LeO.ite ?_ ?_)
      | (with_reducible refine LeO.bind ?_ (fun _ => ?_))
      | exact ih0 _ _ _ _
      | exact ih1 _ _ _ _ _
      | exact ih2 _ _ _ _
      | exact ih3 _ _ _ _ _
      | exact ih4 _ _ _ _
      | exact ih5 _ _ _ _ _
      | exact ih6 _ _ _
      | exact ih7 _ _ _ _
      | exact LeO.none _
      | refine LeO.ite ?_ ?_
      | refine LeO.bind ?_ (fun _ => ?_)
    · intro y0 y1 y2
      unfold eponymref01_value.j6
      repeat' first
      | (with_reducible exact ih0 _ _ _ _)
      | (with_reducible exact ih1 _ _ _ _ _)
      | (with_reducible exact ih2 _ _ _ _)
      | (with_reducible exact ih3 _ _ _ _ _)
      | (with_reducible exact ih4 _ _ _ _)
      | (with_reducible exact ih5 _ _ _ _ _)
      | (with_reducible exact ih6 _ _ _)
      | (with_reducible exact ih7 _ _ _ _)
      | (with_reducible exact LeO.refl _)
      | (with_reducible exact LeO.none _)
      | (with_reducible refine LeO.ite ?_ ?_)
      | (with_reducible refine LeO.bind ?_ (fun _ => ?_))
      | exact ih0 _ _ _ _
      | exact ih1 _ _ _ _ _
      | exact ih2 _ _ _ _
      | exact ih3 _ _ _ _ _
      | exact ih4 _ _ _ _
      | exact ih5 _ _ _ _ _
      | exact ih6 _ _ _
      | exact ih7 _ _ _ _
      | exact LeO.none _
      | refine LeO.ite ?_ ?_
      | refine LeO.bind ?_ (fun _ => ?_)
    · intro y0 y1 y2 y3
      unfold eponymref01_value.l0
      repeat' first
      | (with_reducible exact ih0 _ _ _ _)
      | (with_reducible exact ih1 _ _ _ _ _)
      | (with_reducible exact ih2 _ _ _ _)
      | (with_reducible exact ih3 _ _ _ _ _)
      | (with_reducible exact ih4 _ _ _ _)
      | (with_reducible exact ih5 _ _ _ _ _)
      | (with_reducible exact ih6 _ _ _)
      | (with_reducible exact ih7 _ _ _ _)
      | (with_reducible exact LeO.refl _)
      | (with_reducible exact LeO.none _)
      | (with_reducible refine LeO.ite ?_ ?_)
      | (with_reducible refine LeO.bind ?_ (fun _ => ?_))
      | exact ih0 _ _ _ _
      | exact ih1 _ _ _ _ _
      | exact ih2 _ _ _ _
      | exact ih3 _ _ _ _ _
      | exact ih4 _ _ _ _
      | exact ih5 _ _ _ _ _
      | exact ih6 _ _ _
      | exact ih7 _ _ _ _
      | exact LeO.none _
      | refine LeO.ite ?_ ?_
      | refine LeO.bind ?_ (fun _ => ?_)
theorem eponymref01_value.mono : ∀ a0 k, LeO (eponymref01_value.f k a0) (eponymref01_value.f (k + 1) a0) := by
  intro a0 k
  obtain ⟨ih0, ih1, ih2, ih3, ih4, ih5, ih6, ih7⟩ := eponymref01_value.mono_l k
  unfold eponymref01_value.f
  repeat' first
      | (with_reducible exact ih0 _ _ _ _)
      | (with_reducible exact ih1 _ _ _ _ _)
      | (with_reducible exact ih2 _ _ _ _)
      | (with_reducible exact ih3 _ _ _ _ _)
      | (with_reducible exact ih4 _ _ _ _)
      | (with_reducible exact ih5 _ _ _ _ _)
      | (with_reducible exact ih6 _ _ _)
      | (with_reducible exact ih7 _ _ _ _)
      | (with_reducible exact LeO.refl _)
      | (with_reducible exact LeO.none _)
      | (with_reducible refine LeO.ite ?_ ?_)
      | (with_reducible refine LeO.bind ?_ (fun _ => ?_))
      | exact ih0 _ _ _ _
      | exact ih1 _ _ _ _ _
      | exact ih2 _ _ _ _
      | exact ih3 _ _ _ _ _
      | exact ih4 _ _ _ _
      | exact ih5 _ _ _ _ _
      | exact ih6 _ _ _
      | exact ih7 _ _ _ _
      | exact LeO.none _
      | refine LeO.ite ?_ ?_
      | refine LeO.bind ?_ (fun _ => ?_)
end Go.Proofs.YtpdpgppaoipnlaaDoor.PAll
end

section
namespace Go.Proofs.YtpdpgppaoipnlaaDoor.PAll
open Go.RowKit Go.Proofs.YtpdpgppaoipnlaaDoorW.PrintWords Go.Proofs.YtpdpgppaoipnlaaDoorW.PrintLast Go.Proofs.YtpdpgppaoipnlaaDoorW.PrintMore
set_option linter.unusedVariables false
set_option linter.unusedSimpArgs false

def eponymref01_Right.f (a0 : Int) : Option (Bool) := if a0 ≥ 0 then (if a0 ≤ 1114111 then (if a0 ≥ 55296 then (some (!(decide (a0 ≤ 57343)))) else (some (!false))) else (some false)) else (some false)
mutual
def eponymref01_some.j0 : Nat → Int → Int → Int → Int → Int → Option (Bool)
  | 0, _, _, _, _, _ => none
  | k + 1, x0, x1, x2, x7, x8 => if x2 = 4 then (eponymref01_some.j1 k x0 x1 65536 1114111) else (eponymref01_some.j1 k x0 x1 x7 x8)
def eponymref01_some.j1 : Nat → Int → Int → Int → Int → Option (Bool)
  | 0, _, _, _, _ => none
  | k + 1, x0, x1, x7, x8 => if x0 < x7 then (eponymref01_some.j2 k x7 x1 x8) else (eponymref01_some.j2 k x0 x1 x8)
def eponymref01_some.j2 : Nat → Int → Int → Int → Option (Bool)
  | 0, _, _, _ => none
  | k + 1, x0, x1, x8 => if x1 > x8 then (if x0 ≥ 55296 then (if x0 ≤ 57343 then (some (decide (57344 ≤ x8))) else (some (decide (x0 ≤ x8)))) else (some (decide (x0 ≤ x8)))) else (if x0 ≥ 55296 then (if x0 ≤ 57343 then (some (decide (57344 ≤ x1))) else (some (decide (x0 ≤ x1)))) else (some (decide (x0 ≤ x1))))
end
def eponymref01_some.f (k : Nat) (a0 : Int) (a1 : Int) (a2 : Int) : Option (Bool) := if a2 = 3 then (eponymref01_some.j0 k a0 a1 a2 2048 65535) else (eponymref01_some.j0 k a0 a1 a2 128 2047)
theorem eponymref01_some.mono_l : ∀ k, (∀ y0 y1 y2 y3 y4, LeO (eponymref01_some.j0 k y0 y1 y2 y3 y4) (eponymref01_some.j0 (k + 1) y0 y1 y2 y3 y4)) ∧ (∀ y0 y1 y2 y3, LeO (eponymref01_some.j1 k y0 y1 y2 y3) (eponymref01_some.j1 (k + 1) y0 y1 y2 y3)) ∧ (∀ y0 y1 y2, LeO (eponymref01_some.j2 k y0 y1 y2) (eponymref01_some.j2 (k + 1) y0 y1 y2))
  | 0 => ⟨fun _ _ _ _ _ r h => by simp [eponymref01_some.j0] at h, fun _ _ _ _ r h => by simp [eponymref01_some.j1] at h, fun _ _ _ r h => by simp [eponymref01_some.j2] at h⟩
  | k + 1 => by
    obtain ⟨ih0, ih1, ih2⟩ := eponymref01_some.mono_l k
    refine ⟨?_, ?_, ?_⟩
    · intro y0 y1 y2 y3 y4
      unfold eponymref01_some.j0
      repeat' first
      | (with_reducible exact ih0 _ _ _ _ _)
      | (with_reducible exact ih1 _ _ _ _)
      | (with_reducible exact ih2 _ _ _)
      | (with_reducible exact LeO.refl _)
      | (with_reducible exact LeO.none _)
      | (with_reducible refine LeO.ite ?_ ?_)
      | (with_reducible refine LeO.bind ?_ (fun _ => ?_))
      | exact ih0 _ _ _ _ _
      | exact ih1 _ _ _ _
      | exact ih2 _ _ _
      | exact LeO.none _
      | refine LeO.ite ?_ ?_
      | refine LeO.bind ?_ (fun _ => ?_)
    · intro y0 y1 y2 y3
      unfold eponymref01_some.j1
      repeat' first
      | (with_reducible exact ih0 _ _ _ _ _)
      | (with_reducible exact ih1 _ _ _ _)
      | (with_reducible exact ih2 _ _ _)
      | (with_reducible exact LeO.refl _)
      | (with_reducible exact LeO.none _)
      | (with_reducible refine LeO.ite ?_ ?_)
      | (with_reducible refine LeO.bind ?_ (fun _ => ?_))
      | exact ih0 _ _ _ _ _
      | exact ih1 _ _ _ _
      | exact ih2 _ _ _
      | exact LeO.none _
      | refine LeO.ite ?_ ?_
      | refine LeO.bind ?_ (fun _ => ?_)
    · intro y0 y1 y2
      unfold eponymref01_some.j2
      repeat' first
      | (with_reducible exact ih0 _ _ _ _ _)
      | (with_reducible exact ih1 _ _ _ _)
      | (with_reducible exact ih2 _ _ _)
      | (with_reducible exact LeO.refl _)
      | (with_reducible exact LeO.none _)
      | (with_reducible refine LeO.ite ?_ ?_)
      | (with_reducible refine LeO.bind ?_ (fun _ => ?_))
      | exact ih0 _ _ _ _ _
      | exact ih1 _ _ _ _
      | exact ih2 _ _ _
      | exact LeO.none _
      | refine LeO.ite ?_ ?_
      | refine LeO.bind ?_ (fun _ => ?_)
theorem eponymref01_some.mono : ∀ a0 a1 a2 k, LeO (eponymref01_some.f k a0 a1 a2) (eponymref01_some.f (k + 1) a0 a1 a2) := by
  intro a0 a1 a2 k
  obtain ⟨ih0, ih1, ih2⟩ := eponymref01_some.mono_l k
  unfold eponymref01_some.f
  repeat' first
      | (with_reducible exact ih0 _ _ _ _ _)
      | (with_reducible exact ih1 _ _ _ _)
      | (with_reducible exact ih2 _ _ _)
      | (with_reducible exact LeO.refl _)
      | (with_reducible exact LeO.none _)
      | (with_reducible refine LeO.ite ?_ ?_)
      | (with_reducible refine LeO.bind ?_ (fun _ => ?_))
      | exact ih0 _ _ _ _ _
      | exact ih1 _ _ _ _
      | exact ih2 _ _ _
      | exact LeO.none _
      | refine LeO.ite ?_ ?_
      | refine LeO.bind ?_ (fun _ => ?_)
end Go.Proofs.YtpdpgppaoipnlaaDoor.PAll
end

section
namespace Go.Proofs.YtpdpgppaoipnlaaDoor.PAll
open Go.RowKit Go.Proofs.YtpdpgppaoipnlaaDoorW.PrintWords Go.Proofs.YtpdpgppaoipnlaaDoorW.PrintLast Go.Proofs.YtpdpgppaoipnlaaDoorW.PrintMore
set_option linter.unusedVariables false
set_option linter.unusedSimpArgs false

mutual
def eponymref01_Next.l0 : Nat → ByteArray → Int → Int → Option (Int × Int × Int)
  | 0, _, _, _ => none
  | k + 1, x0, x1, x7 => if x7 ≤ 4 then (eponymref01_Next.j1 k x0 x1 x7 (decide ((wrap64 (x1 + x7)) ≤ (x0.size : Int)))) else (eponymref01_Next.j1 k x0 x1 x7 false)
def eponymref01_Next.j1 : Nat → ByteArray → Int → Int → Bool → Option (Int × Int × Int)
  | 0, _, _, _, _ => none
  | k + 1, x0, x1, x7, x24 => if x24 = true then (if 0 ≤ x1 then (if x1 ≤ (wrap64 (x1 + x7)) then (if (wrap64 (x1 + x7)) ≤ (x0.size : Int) then ((eponymref01_value.f k (x0.extract (x1 : Int).toNat ((wrap64 (x1 + x7)) : Int).toNat)).bind fun t128 => (if t128 ≥ 0 then ((eponymref01_Right.f t128).bind fun t129 => (if t129 = true then ((eponymref01_Form.f t128).bind fun t130 => (if t130.toList = (x0.extract (x1 : Int).toNat ((wrap64 (x1 + x7)) : Int).toNat).toList then (some (t128, x7, 0)) else (eponymref01_Next.l0 k x0 x1 (wrap64 (x7 + 1))))) else (eponymref01_Next.l0 k x0 x1 (wrap64 (x7 + 1))))) else (eponymref01_Next.l0 k x0 x1 (wrap64 (x7 + 1))))) else (none)) else (none)) else (none)) else (if 0 ≤ x1 then (if x1 ≤ (x0.size : Int) then (eponymref01_Next.l1 k (x0.extract (x1 : Int).toNat x0.size) (wrap64 (((x0.extract (x1 : Int).toNat x0.size).size : Int) + 1))) else (none)) else (none))
def eponymref01_Next.l1 : Nat → ByteArray → Int → Option (Int × Int × Int)
  | 0, _, _ => none
  | k + 1, x9, x10 => if x10 ≤ 4 then (eponymref01_Next.l2 k x9 x10 x9 x9) else (some (0, 0, 1))
def eponymref01_Next.l2 : Nat → ByteArray → Int → ByteArray → ByteArray → Option (Int × Int × Int)
  | 0, _, _, _, _ => none
  | k + 1, x9, x10, x11, x12 => if (x11.size : Int) < x10 then (if x11.size + 1 ≤ 9223372036854775807 then (if x12.size + 1 ≤ 9223372036854775807 then (eponymref01_Next.l2 k x9 x10 (x11 ++ (⟨#[128]⟩ : ByteArray)) (x12 ++ (⟨#[191]⟩ : ByteArray))) else (none)) else (none)) else ((eponymref01_value.f k x11).bind fun t131 => ((eponymref01_value.f k x12).bind fun t132 => (if t131 ≥ 0 then (if t132 ≥ 0 then ((eponymref01_some.f k t131 t132 x10).bind fun t133 => (if t133 = true then (some (0, 0, 2)) else (eponymref01_Next.l1 k x9 (wrap64 (x10 + 1))))) else (eponymref01_Next.l1 k x9 (wrap64 (x10 + 1)))) else (eponymref01_Next.l1 k x9 (wrap64 (x10 + 1))))))
end
def eponymref01_Next.f (k : Nat) (a0 : ByteArray) (a1 : Int) : Option (Int × Int × Int) := eponymref01_Next.l0 k a0 a1 1
theorem eponymref01_Next.mono_l : ∀ k, (∀ y0 y1 y2, LeO (eponymref01_Next.l0 k y0 y1 y2) (eponymref01_Next.l0 (k + 1) y0 y1 y2)) ∧ (∀ y0 y1 y2 y3, LeO (eponymref01_Next.j1 k y0 y1 y2 y3) (eponymref01_Next.j1 (k + 1) y0 y1 y2 y3)) ∧ (∀ y0 y1, LeO (eponymref01_Next.l1 k y0 y1) (eponymref01_Next.l1 (k + 1) y0 y1)) ∧ (∀ y0 y1 y2 y3, LeO (eponymref01_Next.l2 k y0 y1 y2 y3) (eponymref01_Next.l2 (k + 1) y0 y1 y2 y3))
  | 0 => ⟨fun _ _ _ r h => by simp [eponymref01_Next.l0] at h, fun _ _ _ _ r h => by simp [eponymref01_Next.j1] at h, fun _ _ r h => by simp [eponymref01_Next.l1] at h, fun _ _ _ _ r h => by simp [eponymref01_Next.l2] at h⟩
  | k + 1 => by
    obtain ⟨ih0, ih1, ih2, ih3⟩ := eponymref01_Next.mono_l k
    refine ⟨?_, ?_, ?_, ?_⟩
    · intro y0 y1 y2
      unfold eponymref01_Next.l0
      repeat' first
      | (with_reducible exact ih0 _ _ _)
      | (with_reducible exact ih1 _ _ _ _)
      | (with_reducible exact ih2 _ _)
      | (with_reducible exact ih3 _ _ _ _)
      | (with_reducible exact eponymref01_some.mono _ _ _ _)
      | (with_reducible exact eponymref01_value.mono _ _)
      | (with_reducible exact LeO.refl _)
      | (with_reducible exact LeO.none _)
      | (with_reducible refine LeO.ite ?_ ?_)
      | (with_reducible refine LeO.bind ?_ (fun _ => ?_))
      | exact ih0 _ _ _
      | exact ih1 _ _ _ _
      | exact ih2 _ _
      | exact ih3 _ _ _ _
      | exact eponymref01_some.mono _ _ _ _
      | exact eponymref01_value.mono _ _
      | exact LeO.none _
      | refine LeO.ite ?_ ?_
      | refine LeO.bind ?_ (fun _ => ?_)
    · intro y0 y1 y2 y3
      unfold eponymref01_Next.j1
      repeat' first
      | (with_reducible exact ih0 _ _ _)
      | (with_reducible exact ih1 _ _ _ _)
      | (with_reducible exact ih2 _ _)
      | (with_reducible exact ih3 _ _ _ _)
      | (with_reducible exact eponymref01_some.mono _ _ _ _)
      | (with_reducible exact eponymref01_value.mono _ _)
      | (with_reducible exact LeO.refl _)
      | (with_reducible exact LeO.none _)
      | (with_reducible refine LeO.ite ?_ ?_)
      | (with_reducible refine LeO.bind ?_ (fun _ => ?_))
      | exact ih0 _ _ _
      | exact ih1 _ _ _ _
      | exact ih2 _ _
      | exact ih3 _ _ _ _
      | exact eponymref01_some.mono _ _ _ _
      | exact eponymref01_value.mono _ _
      | exact LeO.none _
      | refine LeO.ite ?_ ?_
      | refine LeO.bind ?_ (fun _ => ?_)
    · intro y0 y1
      unfold eponymref01_Next.l1
      repeat' first
      | (with_reducible exact ih0 _ _ _)
      | (with_reducible exact ih1 _ _ _ _)
      | (with_reducible exact ih2 _ _)
      | (with_reducible exact ih3 _ _ _ _)
      | (with_reducible exact eponymref01_some.mono _ _ _ _)
      | (with_reducible exact eponymref01_value.mono _ _)
      | (with_reducible exact LeO.refl _)
      | (with_reducible exact LeO.none _)
      | (with_reducible refine LeO.ite ?_ ?_)
      | (with_reducible refine LeO.bind ?_ (fun _ => ?_))
      | exact ih0 _ _ _
      | exact ih1 _ _ _ _
      | exact ih2 _ _
      | exact ih3 _ _ _ _
      | exact eponymref01_some.mono _ _ _ _
      | exact eponymref01_value.mono _ _
      | exact LeO.none _
      | refine LeO.ite ?_ ?_
      | refine LeO.bind ?_ (fun _ => ?_)
    · intro y0 y1 y2 y3
      unfold eponymref01_Next.l2
      repeat' first
      | (with_reducible exact ih0 _ _ _)
      | (with_reducible exact ih1 _ _ _ _)
      | (with_reducible exact ih2 _ _)
      | (with_reducible exact ih3 _ _ _ _)
      | (with_reducible exact eponymref01_some.mono _ _ _ _)
      | (with_reducible exact eponymref01_value.mono _ _)
      | (with_reducible exact LeO.refl _)
      | (with_reducible exact LeO.none _)
      | (with_reducible refine LeO.ite ?_ ?_)
      | (with_reducible refine LeO.bind ?_ (fun _ => ?_))
      | exact ih0 _ _ _
      | exact ih1 _ _ _ _
      | exact ih2 _ _
      | exact ih3 _ _ _ _
      | exact eponymref01_some.mono _ _ _ _
      | exact eponymref01_value.mono _ _
      | exact LeO.none _
      | refine LeO.ite ?_ ?_
      | refine LeO.bind ?_ (fun _ => ?_)
theorem eponymref01_Next.mono : ∀ a0 a1 k, LeO (eponymref01_Next.f k a0 a1) (eponymref01_Next.f (k + 1) a0 a1) := by
  intro a0 a1 k
  obtain ⟨ih0, ih1, ih2, ih3⟩ := eponymref01_Next.mono_l k
  unfold eponymref01_Next.f
  repeat' first
      | (with_reducible exact ih0 _ _ _)
      | (with_reducible exact ih1 _ _ _ _)
      | (with_reducible exact ih2 _ _)
      | (with_reducible exact ih3 _ _ _ _)
      | (with_reducible exact eponymref01_some.mono _ _ _ _)
      | (with_reducible exact eponymref01_value.mono _ _)
      | (with_reducible exact LeO.refl _)
      | (with_reducible exact LeO.none _)
      | (with_reducible refine LeO.ite ?_ ?_)
      | (with_reducible refine LeO.bind ?_ (fun _ => ?_))
      | exact ih0 _ _ _
      | exact ih1 _ _ _ _
      | exact ih2 _ _
      | exact ih3 _ _ _ _
      | exact eponymref01_some.mono _ _ _ _
      | exact eponymref01_value.mono _ _
      | exact LeO.none _
      | refine LeO.ite ?_ ?_
      | refine LeO.bind ?_ (fun _ => ?_)
end Go.Proofs.YtpdpgppaoipnlaaDoor.PAll
end

