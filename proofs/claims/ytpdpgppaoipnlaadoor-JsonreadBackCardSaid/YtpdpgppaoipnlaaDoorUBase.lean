/- What the claim uses of the text Base. -/
import Derived.PlainAid
import Derived.Laws.BytesArg
import Derived.Lib.Strings
set_option linter.unusedVariables false
set_option linter.unusedSimpArgs false
namespace Go.Proofs.YtpdpgppaoipnlaaDoor
section
open Go.PlainAid

def utfRight (r : Int) : Bool := decide (0 ≤ r) && (decide (r ≤ 1114111) && (decide (r < 55296) || decide (57343 < r)))
def utfWidth (r : Int) : Int := if utfRight r = false then 0 else if r < 128 then 1 else if r < 2048 then 2 else if r < 65536 then 3 else 4
/-- What a first byte tells: more, low, high. -/
def utfFirst (b : Int) : Int × Int × Int × Int :=
  if 245 ≤ b then (-1, 0, 128, 191) else if 240 ≤ b then (3, b % 8, if b = 240 then 144 else 128, if b = 244 then 143 else 191)
  else if 224 ≤ b then (2, b % 16, if b = 224 then 160 else 128, if b = 237 then 159 else 191)
  else if 194 ≤ b then (1, b % 32, 128, 191) else if 128 ≤ b then (-1, 0, 128, 191) else (0, b, 128, 191)

/-- One more byte of a form: from what was read (r) and where the byte may be; k: its place in the form, n: how many there are. -/
def nxStep (s : ByteArray) (at_ : Int) (k : Int) (lo hi : Int) (r : Int) (next : Int → Int × Int × Int) : Int × Int × Int :=
  if (s.size : Int) ≤ at_ + k then (0, 0, 2) else if bt s (at_ + k).toNat < lo ∨ hi < bt s (at_ + k).toNat then (0, 0, 1) else next (r * 64 + bt s (at_ + k).toNat % 64)
/-- The rune at a place, its width, a number: 0, or of what is wrong. -/
def nx (s : ByteArray) (at_ : Int) : Int × Int × Int :=
  if at_ < 0 ∨ (s.size : Int) ≤ at_ then (0, 0, 4) else
  let (m, r, lo, hi) := utfFirst (bt s at_.toNat)
  if m < 0 then (0, 0, 1) else if m = 0 then (r, 1, 0)
  else nxStep s at_ 1 lo hi r fun r => if m = 1 then (r, 2, 0) else nxStep s at_ 2 128 191 r fun r => if m = 2 then (r, 3, 0) else nxStep s at_ 3 128 191 r fun r => (r, 4, 0)

theorem utfFirst_tells (b m r lo hi : Int) (h0 : 0 ≤ b) (h1 : b ≤ 255) (h : utfFirst b = (m, r, lo, hi)) :
    m = -1 ∨ (m = 0 ∧ 0 ≤ r ∧ r ≤ 127) ∨ (m = 1 ∧ 0 ≤ r ∧ r ≤ 31) ∨ (m = 2 ∧ 0 ≤ r ∧ r ≤ 15) ∨ (m = 3 ∧ 0 ≤ r ∧ r ≤ 4 ∧ 128 ≤ lo ∧ (r = 4 → hi = 143) ∧ hi ≤ 191) := by
  unfold utfFirst at h
  split at h
  · simp only [Prod.mk.injEq] at h; omega
  · split at h
    · simp only [Prod.mk.injEq] at h; omega
    · split at h
      · simp only [Prod.mk.injEq] at h; omega
      · split at h
        · simp only [Prod.mk.injEq] at h; omega
        · split at h <;> (simp only [Prod.mk.injEq] at h; omega)
theorem nx_good (s : ByteArray) (at_ : Int) (r n : Int) (h : nx s at_ = (r, n, 0)) : 0 ≤ at_ ∧ at_ + n ≤ s.size ∧ 1 ≤ n ∧ n ≤ 4 ∧ 0 ≤ r ∧ r ≤ 1114111 := by
  unfold nx at h
  split at h
  · simp at h
  · rename_i hin
    have hb0 := bt_nonneg s at_.toNat
    have hb1 := bt_le s at_.toNat
    have c1 := bt_nonneg s (at_ + 1).toNat
    have c2 := bt_nonneg s (at_ + 2).toNat
    have c3 := bt_nonneg s (at_ + 3).toNat
    rcases hf : utfFirst (bt s at_.toNat) with ⟨m, r0, lo, hi⟩
    have ht := utfFirst_tells _ m r0 lo hi hb0 hb1 hf
    rw [hf] at h
    unfold nxStep at h
    dsimp only at h
    (repeat' split at h) <;> (simp only [Prod.mk.injEq] at h; omega)
/-- A text's runes; or the place and the number of what is wrong. -/
def dcd (s : ByteArray) : Nat → Int → List Int → List Int × Int × Int
  | 0, _, acc => (acc, 0, 0)
  | k + 1, at_, acc => if (s.size : Int) ≤ at_ then (acc, 0, 0) else if (nx s at_).2.2 = 0 then dcd s k (at_ + (nx s at_).2.1) (acc ++ [(nx s at_).1]) else ([], at_, (nx s at_).2.2)
def dec (s : ByteArray) : List Int × Int × Int := dcd s s.size 0 []
/-- A right rune's form. -/
def formL (r : Int) : List Int :=
  if r < 128 then [r] else if r < 2048 then [192 + r / 64, 128 + r % 64]
  else if r < 65536 then [224 + r / 4096, 128 + r / 64 % 64, 128 + r % 64]
  else [240 + r / 262144, 128 + r / 4096 % 64, 128 + r / 64 % 64, 128 + r % 64]
theorem formL_range (r : Int) (h0 : 0 ≤ r) (h1 : r ≤ 1114111) : ∀ x ∈ formL r, 0 ≤ x ∧ x ≤ 255 := by
  intro x hx
  unfold formL at hx
  split at hx
  · simp at hx; omega
  · split at hx
    · simp at hx; omega
    · split at hx
      · simp at hx; omega
      · simp at hx; omega
end

section
open Go.PlainAid

/-- A hexadecimal digit's number. -/
def hexd (b : Int) : Int := if 48 ≤ b ∧ b ≤ 57 then b - 48 else if 97 ≤ b ∧ b ≤ 102 then b - 87 else if 65 ≤ b ∧ b ≤ 70 then b - 55 else -1
theorem hexd_le (b : Int) : -1 ≤ hexd b ∧ hexd b ≤ 15 := by unfold hexd; omega
end

section
open Go.PlainAid

/-- A text's bytes, as numbers. -/
def ints (t : ByteArray) : List Int := t.data.toList.map fun b => (b.toNat : Int)

theorem ints_length (t : ByteArray) : (ints t).length = t.size := by
  unfold ints
  rw [List.length_map, Array.length_toList]
  rfl
theorem ints_range (t : ByteArray) : ∀ x ∈ ints t, 0 ≤ x ∧ x ≤ 255 := by
  intro x hx
  obtain ⟨b, _, rfl⟩ := List.mem_map.1 hx
  have := b.toNat_lt
  omega
theorem bt_ints (t : ByteArray) (k : Nat) : bt t k = (ints t).getD k 0 := by
  unfold bt ints
  split
  · rename_i h
    rw [List.getD_eq_getElem?_getD, List.getElem?_map]
    have h' : k < t.data.toList.length := by rw [Array.length_toList]; exact h
    rw [List.getElem?_eq_getElem h']
    rfl
  · rename_i h
    rw [List.getD_eq_getElem?_getD, List.getElem?_eq_none (by rw [List.length_map, Array.length_toList]; exact Nat.le_of_not_lt h)]
    rfl
theorem ints_append (a b : ByteArray) : ints (a ++ b) = ints a ++ ints b := by
  simp [ints]
theorem ints_extract (s : ByteArray) (i j : Nat) : ints (s.extract i j) = ((ints s).take j).drop i := by
  unfold ints
  rw [Lib.extract_data, ← List.map_take, ← List.map_drop, List.drop_take]
theorem ints_inj {a b : ByteArray} (h : ints a = ints b) : a = b := by
  unfold ints at h
  have hb : ∀ l m : List UInt8, l.map (fun b => (b.toNat : Int)) = m.map (fun b => (b.toNat : Int)) → l = m := by
    intro l
    induction l with
    | nil => intro m h; cases m with
      | nil => rfl
      | cons y m => simp at h
    | cons x l ih => intro m h; cases m with
      | nil => simp at h
      | cons y m =>
        simp only [List.map_cons, List.cons.injEq] at h
        rw [ih m h.2]
        congr 1
        exact UInt8.toNat_inj.1 (by omega)
  have := hb _ _ h
  cases a; cases b
  simp at this ⊢
  exact this
theorem toList_ints (a b : ByteArray) : a.toList = b.toList ↔ ints a = ints b := by
  rw [ByteArray.toList_eq, ByteArray.toList_eq]
  constructor
  · intro h; unfold ints; rw [h]
  · intro h; rw [ints_inj h]
theorem ints_nums (xs : List Int) (h : ∀ x ∈ xs, 0 ≤ x ∧ x ≤ 255) : ints (strOfNums xs) = xs := by
  unfold ints
  rw [strOfNums_data, List.map_map]
  conv => rhs; rw [← List.map_id xs]
  apply List.map_congr_left
  intro x hx
  have := h x hx
  simp
  omega
end
end Go.Proofs.YtpdpgppaoipnlaaDoor

