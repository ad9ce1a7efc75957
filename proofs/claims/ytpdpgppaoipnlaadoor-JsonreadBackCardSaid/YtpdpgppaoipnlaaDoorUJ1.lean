/- What the claim uses of the text J1. -/
import Derived.Test.YtpdpgppaoipnlaaDoorProg
import Derived.Test.YtpdpgppaoipnlaaDoorUWWords
import Derived.Lib.Hide
import Derived.Test.YtpdpgppaoipnlaaDoorUBase
import Derived.Test.YtpdpgppaoipnlaaDoorUUtf
import Derived.Test.YtpdpgppaoipnlaaDoorUErrs
import Derived.Test.YtpdpgppaoipnlaaDoorUIdx
import Derived.Lib.Builder
import Derived.Deep.RegionWith
import Derived.Deep.QuietTactic
import Derived.BigQuiet
import Derived.RegionDies
import Derived.Deep.DeepMust
import Derived.Maps.AppendAt
import Derived.Deep.DeepCutAuto
import Derived.Deep.CutBlock
import Derived.Laws.BitsLemmas
import Derived.Deep.WholeRow
import Derived.Defers
import Derived.Recover
import Derived.Stop.Asserts
set_option linter.unusedVariables false
set_option linter.unusedSimpArgs false
namespace Go.Proofs.YtpdpgppaoipnlaaDoor
section
open Go.RowKit Go.Proofs.YtpdpgppaoipnlaaDoorW.PrintWords

/-- A JSON value. -/
structure JV where
  kind : Int
  text : ByteArray
  list : List JV
  mem : List (ByteArray × JV)

def jz : JV := ⟨0, ⟨#[]⟩, [], []⟩

def JF (d : Kd JV) : Kd JV := Kd.iso (Kd.pair (Kd.int .i64) (Kd.pair Kd.string (Kd.pair (Kd.slice 26 d) (Kd.slice 50 (Kd.pair Kd.string d))))) (fun x : JV => (x.kind, x.text, x.list, x.mem))
theorem jmono : Kd.Mono JF := Kd.mono_iso _ (Kd.mono_pair (Kd.mono_const _) (Kd.mono_pair (Kd.mono_const _) (Kd.mono_pair (Kd.mono_slice 26 Kd.mono_id) (Kd.mono_slice 50 (Kd.mono_pair (Kd.mono_const _) Kd.mono_id)))))
def jE : List Nat := [26, 50]
theorem jsz : ∀ n, (Kd.upto JF 4 jE n).sz = 4 := Kd.upto_sz (fun _ => rfl)
/-- A value nested at most n deep; a member; a value of whatever depth. -/
def jd (n : Nat) : Kd JV := Kd.upto JF 4 jE n
def jm (n : Nat) : Kd (ByteArray × JV) := Kd.pair Kd.string (jd n)
/-- A value as a call's argument, a slot, a result. -/
def jcells (x : JV) (A2 : Option Addr) (c2 : Nat) (A3 : Option Addr) (c3 : Nat) : List Value := [.int .i64 x.kind, .string x.text, .slice A2 x.list.length c2, .slice A3 x.mem.length c3]

theorem jd_zero {w : World} {x : JV} {cs : List Value} (h : (jd 0).K w x cs) : False := h
theorem jd_open {n : Nat} {w : World} {x : JV} {cs : List Value} (h : (jd (n + 1)).K w x cs) :
    ∃ A2 c2 A3 c3, cs = jcells x A2 c2 A3 c3 ∧ x.list.length ≤ c2 ∧ (jd n).C w A2 x.list.length x.list ∧ x.mem.length ≤ c3 ∧ (jm n).C w A3 x.mem.length x.mem := by
  obtain ⟨_, _, rfl, rfl, _, _, rfl, rfl, _, _, rfl, ⟨A2, c2, rfl, l2, g2⟩, ⟨A3, c3, rfl, l3, g3⟩⟩ := h
  exact ⟨A2, c2, A3, c3, rfl, l2, g2, l3, g3⟩
theorem jd_mk (n : Nat) (w : World) (x : JV) {A2 : Option Addr} {c2 : Nat} {A3 : Option Addr} {c3 : Nat} (l2 : x.list.length ≤ c2) (g2 : (jd n).C w A2 x.list.length x.list) (l3 : x.mem.length ≤ c3) (g3 : (jm n).C w A3 x.mem.length x.mem) :
    (jd (n + 1)).K w x (jcells x A2 c2 A3 c3) :=
  ⟨[_], [_, _, _], rfl, rfl, [_], [_, _], rfl, rfl, [_], [_], rfl, ⟨A2, c2, rfl, l2, g2⟩, ⟨A3, c3, rfl, l3, g3⟩⟩
theorem jd_cells {n : Nat} {w : World} {x : JV} {cs : List Value} (h : (jd n).K w x cs) : ∃ m, n = m + 1 := by
  cases n with
  | zero => exact (jd_zero h).elim
  | succ m => exact ⟨m, rfl⟩
theorem jd_le {n m : Nat} (hnm : n ≤ m) {w : World} {x : JV} {cs : List Value} (h : (jd n).K w x cs) : (jd m).K w x cs := Kd.upto_K_le jmono jsz hnm h
/-- An element of a row of values. -/
theorem jv_at {n : Nat} {w : World} {A : Option Addr} {k : Nat} {xs : List JV} (h : (jd n).C w A k xs) (i : Nat) (h1 : i < k) :
    ∃ ad A2 c2 A3 c3, A = some ad ∧ (jd n).K w (xs.getD i jz) (jcells (xs.getD i jz) A2 c2 A3 c3) ∧
      w.cell? (ad.add (i * 4)) = some (.int .i64 (xs.getD i jz).kind) ∧ w.cell? ⟨(ad.add (i * 4)).block, (ad.add (i * 4)).off + 1, none⟩ = some (.string (xs.getD i jz).text) ∧
      w.cell? ⟨(ad.add (i * 4)).block, (ad.add (i * 4)).off + 2, none⟩ = some (.slice A2 (xs.getD i jz).list.length c2) ∧ w.cell? ⟨(ad.add (i * 4)).block, (ad.add (i * 4)).off + 3, none⟩ = some (.slice A3 (xs.getD i jz).mem.length c3) := by
  obtain ⟨ad, c, e, _, hK, hc0⟩ := Kd.C_get h jz (i : Int) (by omega) (by omega)
  have hs : (jd n).sz = 4 := jsz n
  rw [hs, Int.toNat_natCast] at hc0
  rw [Int.toNat_natCast] at hK
  obtain ⟨m, rfl⟩ := jd_cells hK
  obtain ⟨A2, c2, A3, c3, rfl, l2, g2, l3, g3⟩ := jd_open hK
  refine ⟨ad, A2, c2, A3, c3, e, hK, ?_, ?_, ?_, ?_⟩
  · have := hc0 0 _ rfl; rwa [Nat.add_zero] at this
  · rw [← add_field _ _ 1 (by omega)]; exact hc0 1 _ rfl
  · rw [← add_field _ _ 2 (by omega)]; exact hc0 2 _ rfl
  · rw [← add_field _ _ 3 (by omega)]; exact hc0 3 _ rfl
/-- A member. -/
theorem jm_at {n : Nat} {w : World} {A : Option Addr} {k : Nat} {xs : List (ByteArray × JV)} (h : (jm n).C w A k xs) (i : Nat) (h1 : i < k) :
    ∃ ad A2 c2 A3 c3, A = some ad ∧ (jd n).K w (xs.getD i (⟨#[]⟩, jz)).2 (jcells (xs.getD i (⟨#[]⟩, jz)).2 A2 c2 A3 c3) ∧
      w.cell? (ad.add (i * 5)) = some (.string (xs.getD i (⟨#[]⟩, jz)).1) ∧
      w.cell? ⟨(ad.add (i * 5)).block, (ad.add (i * 5)).off + 1, none⟩ = some (.int .i64 (xs.getD i (⟨#[]⟩, jz)).2.kind) ∧ w.cell? ⟨(ad.add (i * 5)).block, (ad.add (i * 5)).off + 2, none⟩ = some (.string (xs.getD i (⟨#[]⟩, jz)).2.text) ∧
      w.cell? ⟨(ad.add (i * 5)).block, (ad.add (i * 5)).off + 3, none⟩ = some (.slice A2 (xs.getD i (⟨#[]⟩, jz)).2.list.length c2) ∧ w.cell? ⟨(ad.add (i * 5)).block, (ad.add (i * 5)).off + 4, none⟩ = some (.slice A3 (xs.getD i (⟨#[]⟩, jz)).2.mem.length c3) := by
  obtain ⟨ad, c, e, _, hK, hc0⟩ := Kd.C_get h (⟨#[]⟩, jz) (i : Int) (by omega) (by omega)
  have hs : (jm n).sz = 5 := by show 1 + (jd n).sz = 5; rw [show (jd n).sz = 4 from jsz n]
  rw [hs, Int.toNat_natCast] at hc0
  rw [Int.toNat_natCast] at hK
  obtain ⟨_, c1, rfl, rfl, hK⟩ := hK
  obtain ⟨m, rfl⟩ := jd_cells hK
  obtain ⟨A2, c2, A3, c3, rfl, l2, g2, l3, g3⟩ := jd_open hK
  refine ⟨ad, A2, c2, A3, c3, e, hK, ?_, ?_, ?_, ?_, ?_⟩
  · have := hc0 0 _ rfl; rwa [Nat.add_zero] at this
  · rw [← add_field _ _ 1 (by omega)]; exact hc0 1 _ rfl
  · rw [← add_field _ _ 2 (by omega)]; exact hc0 2 _ rfl
  · rw [← add_field _ _ 3 (by omega)]; exact hc0 3 _ rfl
  · rw [← add_field _ _ 4 (by omega)]; exact hc0 4 _ rfl
end

section
open Go.RowKit Go.PlainAid

instance byteArrayEq : DecidableEq ByteArray := fun a b => decidable_of_iff (ints a = ints b) ⟨ints_inj, fun h => h ▸ rfl⟩
/-- Is it a digit's byte? -/
def isDig (b : Int) : Bool := decide (48 ≤ b) && decide (b ≤ 57)
/-- Does this byte stand at a place? -/
def isAt (s : ByteArray) (i : Nat) (b : Int) : Bool := decide (i < s.size) && decide (bt s i = b)
def digAt (s : ByteArray) (i : Nat) : Bool := decide (i < s.size) && isDig (bt s i)
/-- The place behind digits. -/
def digs (s : ByteArray) : Nat → Nat → Nat
  | 0, i => i
  | k + 1, i => if digAt s i = true then digs s k (i + 1) else i
def dgs (s : ByteArray) (i : Nat) : Nat := digs s (s.size - i) i
def isSp (b : Int) : Bool := decide (b = 9) || (decide (b = 10) || (decide (b = 13) || decide (b = 32)))
def spcs (s : ByteArray) : Nat → Nat → Nat
  | 0, i => i
  | k + 1, i => if i < s.size ∧ isSp (bt s i) = true then spcs s k (i + 1) else i
/-- The place behind space. -/
def spc (s : ByteArray) (i : Nat) : Nat := spcs s (s.size - i) i
/-- A fault at a place: that the text ends there, or its byte. -/
def badAt (s : ByteArray) (i : Nat) : Int × Int := if s.size ≤ i then (s.size, 2) else (i, 1)

/-- Is a text written as a number? -/
def wrt (s : ByteArray) : Bool :=
  let i0 := if isAt s 0 45 = true then 1 else 0
  if digAt s i0 = false then false else
  let i1 := if isAt s i0 48 = true then i0 + 1 else dgs s i0
  if isAt s i1 46 = true ∧ digAt s (i1 + 1) = false then false else
  let i2 := if isAt s i1 46 = true then dgs s (i1 + 1) else i1
  if isAt s i2 101 = true ∨ isAt s i2 69 = true then
    let i3 := if isAt s (i2 + 1) 43 = true ∨ isAt s (i2 + 1) 45 = true then i2 + 2 else i2 + 1
    if digAt s i3 = false then false else decide (dgs s i3 = s.size)
  else decide (i2 = s.size)

/-- A number's end; or the place and the number of what is wrong. -/
def numAt (s : ByteArray) (at_ : Nat) : Int × Int :=
  let i0 := if isAt s at_ 45 = true then at_ + 1 else at_
  if digAt s i0 = false then badAt s i0 else
  let i1 := if isAt s i0 48 = true then i0 + 1 else dgs s i0
  if isAt s i1 46 = true ∧ digAt s (i1 + 1) = false then badAt s (i1 + 1) else
  let i2 := if isAt s i1 46 = true then dgs s (i1 + 1) else i1
  if isAt s i2 101 = true ∨ isAt s i2 69 = true then
    let i3 := if isAt s (i2 + 1) 43 = true ∨ isAt s (i2 + 1) 45 = true then i2 + 2 else i2 + 1
    if digAt s i3 = false then badAt s i3 else (dgs s i3, 0)
  else (i2, 0)

/-- One of the three words: its end; or what is wrong. -/
def wordAt (s : ByteArray) : List Int → Nat → Int × Int
  | [], i => (i, 0)
  | b :: l, i => if isAt s i b = true then wordAt s l (i + 1) else badAt s i

/-- The number of so many hexadecimal digits (r: of those ahead); or what is wrong: (value, place, number). -/
def unitAt (s : ByteArray) : Nat → Nat → Int → Int × Int × Int
  | 0, i, r => (r, i, 0)
  | k + 1, i, r => if i < s.size ∧ 0 ≤ hexd (bt s i) then unitAt s k (i + 1) (16 * r + hexd (bt s i)) else (0, badAt s i)
/-- The second half of a pair; below 0: none stands there. -/
def lowAt (s : ByteArray) (i : Nat) : Int :=
  if isAt s i 92 = true ∧ isAt s (i + 1) 117 = true ∧ (unitAt s 4 (i + 2) 0).2.2 = 0 ∧ 56320 ≤ (unitAt s 4 (i + 2) 0).1 ∧ (unitAt s 4 (i + 2) 0).1 ≤ 57343 then (unitAt s 4 (i + 2) 0).1 else -1
/-- What a byte behind a backslash means; below 0: nothing by itself. -/
def escOf (b : Int) : Int := if b = 98 then 8 else if b = 102 then 12 else if b = 110 then 10 else if b = 114 then 13 else if b = 116 then 9 else if b = 34 ∨ b = 92 ∨ b = 47 then b else -1
/-- The rune of an escape whose backslash stands at a place: the rune, the place behind it, a number; or what is wrong. -/
def escAt (s : ByteArray) (fr : Nat) : Int × Int × Int :=
  if s.size ≤ fr + 1 then (0, s.size, 2)
  else if 0 ≤ escOf (bt s (fr + 1)) then (escOf (bt s (fr + 1)), fr + 2, 0)
  else if bt s (fr + 1) ≠ 117 then (0, fr + 1, 1)
  else
    let u := unitAt s 4 (fr + 2) 0
    if u.2.2 ≠ 0 then u
    else if 55296 ≤ u.1 ∧ u.1 ≤ 56319 then (if lowAt s (fr + 6) < 0 then (0, fr, 4) else (65536 + (u.1 - 55296) * 1024 + lowAt s (fr + 6) - 56320, fr + 12, 0))
    else if 56320 ≤ u.1 ∧ u.1 ≤ 57343 then (0, fr, 4)
    else (u.1, fr + 6, 0)
/-- A string's runes behind its first quote, and the place behind it; or what is wrong. -/
def strK (s : ByteArray) : Nat → Nat → List Int → List Int × Int × Int
  | 0, i, acc => (acc, i, 0)
  | k + 1, i, acc =>
    if s.size ≤ i then ([], s.size, 2)
    else if bt s i = 34 then (acc, i + 1, 0)
    else if bt s i < 32 then ([], i, 1)
    else if bt s i = 92 then (if (escAt s i).2.2 = 0 then strK s k (escAt s i).2.1.toNat (acc ++ [(escAt s i).1]) else ([], (escAt s i).2.1, (escAt s i).2.2))
    else if (nx s i).2.2 = 0 then strK s k (i + (nx s i).2.1.toNat) (acc ++ [(nx s i).1]) else ([], i, (nx s i).2.2)
def strAt (s : ByteArray) (at_ : Nat) : List Int × Int × Int := if isAt s at_ 34 = true then strK s (s.size - at_) (at_ + 1) [] else ([], badAt s at_)

/-- May a value begin with this byte? -/
def starter (b : Int) : Bool := decide (b = 110 ∨ b = 102 ∨ b = 116 ∨ b = 34 ∨ b = 91 ∨ b = 123 ∨ b = 45 ∨ (48 ≤ b ∧ b ≤ 57))
def txtOf (l : List Int) : ByteArray := strOfNums (l.map formL).flatten
/-- The names of members, as numbers. -/
def nms (l : List (ByteArray × JV)) : List (List Int) := l.map fun p => ints p.1
/-- An array's rest, from a value on. -/
def arrK (s : ByteArray) (val : Nat → JV × Int × Int) : Nat → Nat → List JV → JV × Int × Int
  | 0, i, _ => (jz, i, 0)
  | k + 1, i, acc =>
    let v := val (spc s i)
    if v.2.2 ≠ 0 then (jz, v.2) else
    let j := spc s v.2.1.toNat
    if isAt s j 93 = true then (⟨5, ⟨#[]⟩, acc ++ [v.1], []⟩, j + 1, 0)
    else if isAt s j 44 = true then arrK s val k (j + 1) (acc ++ [v.1])
    else (jz, badAt s j)
/-- An object's rest, from a member on. -/
def objK (s : ByteArray) (val : Nat → JV × Int × Int) : Nat → Nat → List (ByteArray × JV) → JV × Int × Int
  | 0, i, _ => (jz, i, 0)
  | k + 1, i, acc =>
    let n := strAt s (spc s i)
    if n.2.2 ≠ 0 then (jz, n.2) else
    if ints (txtOf n.1) ∈ nms acc then (jz, spc s i, 7) else
    let i2 := spc s n.2.1.toNat
    if isAt s i2 58 = false then (jz, badAt s i2) else
    let v := val (spc s (i2 + 1))
    if v.2.2 ≠ 0 then (jz, v.2) else
    let j := spc s v.2.1.toNat
    if isAt s j 125 = true then (⟨6, ⟨#[]⟩, [], acc ++ [(txtOf n.1, v.1)]⟩, j + 1, 0)
    else if isAt s j 44 = true then objK s val k (j + 1) (acc ++ [(txtOf n.1, v.1)])
    else (jz, badAt s j)
/-- The value at a place, of so many levels that may stand within one another; the place behind it, 0; or a place and a number. -/
def valAt (s : ByteArray) : Nat → Nat → JV × Int × Int
  | 0, at_ => if s.size ≤ at_ then (jz, s.size, 2) else if starter (bt s at_) = false then (jz, at_, 1) else (jz, at_, 9)
  | L + 1, at_ =>
    if s.size ≤ at_ then (jz, s.size, 2) else if starter (bt s at_) = false then (jz, at_, 1)
    else if bt s at_ = 110 then (if (wordAt s [110, 117, 108, 108] at_).2 = 0 then (⟨0, ⟨#[]⟩, [], []⟩, wordAt s [110, 117, 108, 108] at_) else (jz, wordAt s [110, 117, 108, 108] at_))
    else if bt s at_ = 102 then (if (wordAt s [102, 97, 108, 115, 101] at_).2 = 0 then (⟨1, ⟨#[]⟩, [], []⟩, wordAt s [102, 97, 108, 115, 101] at_) else (jz, wordAt s [102, 97, 108, 115, 101] at_))
    else if bt s at_ = 116 then (if (wordAt s [116, 114, 117, 101] at_).2 = 0 then (⟨2, ⟨#[]⟩, [], []⟩, wordAt s [116, 114, 117, 101] at_) else (jz, wordAt s [116, 114, 117, 101] at_))
    else if bt s at_ = 34 then (if (strAt s at_).2.2 = 0 then (⟨4, txtOf (strAt s at_).1, [], []⟩, (strAt s at_).2) else (jz, (strAt s at_).2))
    else if bt s at_ = 91 then (if isAt s (spc s (at_ + 1)) 93 = true then (⟨5, ⟨#[]⟩, [], []⟩, spc s (at_ + 1) + 1, 0) else arrK s (valAt s L) s.size (spc s (at_ + 1)) [])
    else if bt s at_ = 123 then (if isAt s (spc s (at_ + 1)) 125 = true then (⟨6, ⟨#[]⟩, [], []⟩, spc s (at_ + 1) + 1, 0) else objK s (valAt s L) s.size (spc s (at_ + 1)) [])
    else if (numAt s at_).2 = 0 then (⟨3, s.extract at_ (numAt s at_).1.toNat, [], []⟩, numAt s at_) else (jz, numAt s at_)
/-- The value of a JSON text; or a place and a number. -/
def readV (s : ByteArray) : JV × Int × Int :=
  if 4194304 < s.size then (jz, 0, 3) else
  let v := valAt s 32 (spc s 0)
  if v.2.2 ≠ 0 then v else if spc s v.2.1.toNat < s.size then (jz, spc s v.2.1.toNat, 1) else (v.1, v.2.1, 0)

/-- Is a text well-formed? -/
def goodT (s : ByteArray) : Bool := decide ((dec s).2.2 = 0)
/-- Has a value something that its kind doesn't have? -/
def alienV (x : JV) : Bool := decide ((x.kind ≠ 3 ∧ x.kind ≠ 4 ∧ x.text.size ≠ 0) ∨ (x.kind ≠ 5 ∧ x.list.length ≠ 0) ∨ (x.kind ≠ 6 ∧ x.mem.length ≠ 0) ∨ (x.kind = 3 ∧ wrt x.text = false))
/-- Is one of the names one of those ahead of it? -/
def dupN : List (List Int) → List (List Int) → Bool
  | _, [] => false
  | seen, n :: l => decide (n ∈ seen) || dupN (seen ++ [n]) l
/-- The number of what is wrong with a value by itself, at a level. -/
def oneN (x : JV) (level : Int) : Int :=
  if 32 < level then 9 else if x.kind < 0 ∨ 6 < x.kind then 17 else if alienV x = true then 5
  else if x.kind = 4 ∧ goodT x.text = false then 1
  else if (x.mem.map Prod.fst).all goodT = false then 1
  else if dupN [] (nms x.mem) = true then 7 else 0
mutual
/-- How many values a value has. -/
def cntV : JV → Nat
  | ⟨_, _, l, m⟩ => 1 + cntL l + cntM m
def cntL : List JV → Nat
  | [] => 0
  | x :: l => cntV x + cntL l
def cntM : List (ByteArray × JV) → Nat
  | [] => 0
  | (_, x) :: l => cntV x + cntM l
end
mutual
/-- How many values, and bytes of texts and names. -/
def totV : JV → Nat
  | ⟨_, t, l, m⟩ => 1 + t.size + totL l + totM m
def totL : List JV → Nat
  | [] => 0
  | x :: l => totV x + totL l
def totM : List (ByteArray × JV) → Nat
  | [] => 0
  | (n, x) :: l => n.size + totV x + totM l
end
/-- A byte in a text in quotes. -/
def hexl (n : Int) : Int := if n < 10 then 48 + n else 87 + n
def quo1 (b : Int) : List Int :=
  if b = 34 ∨ b = 92 then [92, b] else if 32 ≤ b then [b] else if b = 8 then [92, 98] else if b = 9 then [92, 116] else if b = 10 then [92, 110] else if b = 12 then [92, 102] else if b = 13 then [92, 114]
  else [92, 117, 48, 48, hexl (b / 16), hexl (b % 16)]
def quo (l : List Int) : List Int := 34 :: ((l.map quo1).flatten ++ [34])
mutual
/-- Are two values the same, members in the same order? -/
def sameV : JV → JV → Bool
  | ⟨k, t, l, m⟩, y => decide (k = y.kind) && (decide (t = y.text) && (sameL l y.list && sameM m y.mem))
def sameL : List JV → List JV → Bool
  | [], [] => true
  | x :: l, y :: r => sameV x y && sameL l r
  | _, _ => false
def sameM : List (ByteArray × JV) → List (ByteArray × JV) → Bool
  | [], [] => true
  | (n, x) :: l, (o, y) :: r => decide (n = o) && (sameV x y && sameM l r)
  | _, _ => false
end
end

section
open Go.RowKit Go.PlainAid

/-- A reader: the text, and the place up to which it was read. -/
def Rd (b : Nat) (s : ByteArray) (i : Nat) (w : World) : Prop := w.heap[b]? = some (.cells #[.string s, .int .i64 i] 79 (0, 0))
theorem Rd.c0 {b i : Nat} {s : ByteArray} {w : World} (h : Rd b s i w) : w.cell? ⟨b, 0, none⟩ = some (.string s) := by rw [Lib.cell_of_heap h]; rfl
theorem Rd.c1 {b i : Nat} {s : ByteArray} {w : World} (h : Rd b s i w) : w.cell? ⟨b, 1, none⟩ = some (.int .i64 i) := by rw [Lib.cell_of_heap h]; rfl
theorem Rd.f1 {b i : Nat} {s : ByteArray} {w : World} (h : Rd b s i w) : w.frozen? ⟨b, 1, none⟩ = false := Lib.frozen_of_heap h 1
theorem Rd.lt {b i : Nat} {s : ByteArray} {w : World} (h : Rd b s i w) : b < w.heap.size := (Array.getElem?_eq_some_iff.1 h).1
theorem Rd.set {b i : Nat} {s : ByteArray} {w : World} (h : Rd b s i w) (j : Nat) : Rd b s j (w.setCell ⟨b, 1, none⟩ (.int .i64 j)) := by
  unfold Rd at *
  simp [World.setCell, Array.getElem?_modify, h]
theorem Rd.kept {b i : Nat} {s : ByteArray} {w w' : World} {row : Option Nat} (h : Rd b s i w) (hg : w.grownBy w' row) (hr : some b ≠ row) : Rd b s i w' := (hg.block b h.lt hr).trans h
theorem Rd.drewN {b i : Nat} {s : ByteArray} {w : World} (h : Rd b s i w) (n : Nat) : Rd b s i (w.drewN n) := h
theorem Rd.below {b i : Nat} {s : ByteArray} {w w' : World} (h : Rd b s i w) (hb : Below w.heap.size w w') : Rd b s i w' := (hb.block b h.lt).trans h

theorem grown_below {w w' : World} (h : Below w.heap.size w w') (row : Option Nat) : w.grownBy w' row := ⟨h.os, h.tape, h.output, h.size, fun k hk _ => h.block k hk⟩
theorem grown_drewN (w : World) (n : Nat) (row : Option Nat) : w.grownBy (w.drewN n) row := ⟨rfl, rfl, rfl, Nat.le_refl _, fun _ _ _ => rfl⟩
theorem grown_cell {w w' : World} {b : Nat} (h : w.grownBy w' (some b)) (o : Nat) (v : Value) : w.grownBy (w'.setCell ⟨b, o, none⟩ v) (some b) :=
  h.trans ⟨rfl, rfl, rfl, by simp [World.setCell], fun k _ hk => Below.heap_setCell _ _ _ _ (fun e => hk (by rw [e]))⟩

theorem sent_ne {w : World} {g b i t : Nat} {s : ByteArray} {v : Value} (h : w.cell? ⟨g, 0, none⟩ = some (.iface t v)) (hr : Rd b s i w) : some g ≠ some b := by
  intro e
  injection e with e
  subst e
  rw [hr.c0] at h
  simp at h
theorem Sents.grown {E : Nat → Addr} {w w' : World} {b i : Nat} {s : ByteArray} (h : Sents E w) (hr : Rd b s i w) (hg : w.grownBy w' (some b)) : Sents E w' :=
  ⟨hg.cell h.et (sent_ne h.et hr), hg.cell h.c1 (sent_ne h.c1 hr), hg.cell h.c2 (sent_ne h.c2 hr), fun a => hg.cell (h.c3 a) (sent_ne (h.c3 a) hr), hg.cell h.c4 (sent_ne h.c4 hr), hg.cell h.c5 (sent_ne h.c5 hr), fun a => hg.cell (h.c6 a) (sent_ne (h.c6 a) hr), hg.cell h.c7 (sent_ne h.c7 hr), fun a => hg.cell (h.c8 a) (sent_ne (h.c8 a) hr), hg.cell h.c9 (sent_ne h.c9 hr), fun a => hg.cell (h.c10 a) (sent_ne (h.c10 a) hr), fun a => hg.cell (h.c11 a) (sent_ne (h.c11 a) hr), fun a => hg.cell (h.c12 a) (sent_ne (h.c12 a) hr), fun a => hg.cell (h.c13 a) (sent_ne (h.c13 a) hr), fun a => hg.cell (h.c14 a) (sent_ne (h.c14 a) hr), fun a => hg.cell (h.c15 a) (sent_ne (h.c15 a) hr), fun a => hg.cell (h.c16 a) (sent_ne (h.c16 a) hr), hg.cell h.c17 (sent_ne h.c17 hr), fun a => hg.cell (h.c18 a) (sent_ne (h.c18 a) hr)⟩

/-- A call that returns, the reader then being at a place; nothing else that was there turns. -/
def Ret (b : Nat) (s : ByteArray) (v : Value) (j : Nat) (w : World) (e : Ending) (w' : World) : Prop := e = .returned v ∧ Hid (Rd b s j w') ∧ Hid (w.grownBy w' (some b))
/-- A call that gives up, with a named error at a place. -/
def Thr (E : Nat → Addr) (b : Nat) (s : ByteArray) (at_ n : Int) (w : World) (e : Ending) (w' : World) : Prop :=
  ∃ p, e = .panicked [{ v := .iface 69 (.pointer (some p)), recovered := false }] ∧ Hid (ErrV E w' (.iface 69 (.pointer (some p))) at_ n) ∧ Hid (w.grownBy w' (some b)) ∧ Hid (∃ j, Rd b s j w')
theorem grown2 {b : Nat} {w w1 w2 : World} (h : w.grownBy w1 (some b)) (h2 : w1.grownBy w2 (some b)) : w.grownBy w2 (some b) := h.trans h2
theorem index_in (t : ByteArray) (c : Int) (h0 : 0 ≤ c) (h1 : c ≤ 255) : ∃ v : Int, (∀ w, Calls Tryd.prog 72 #[.string t, .int .u8 c] w fun e w' => e = .returned (.int .i64 v) ∧ w' = w) ∧ (0 ≤ v ↔ c ∈ ints t) := by
  refine ⟨_, fun w => strings_IndexByte t c w, ?_⟩
  have hge := Lib.indexByte_ge t.data.toList c.toNat.toUInt8
  constructor
  · intro h
    obtain ⟨o, ho⟩ : ∃ o : Nat, Lib.indexByte t.data.toList c.toNat.toUInt8 = o := ⟨(Lib.indexByte t.data.toList c.toNat.toUInt8).toNat, by omega⟩
    obtain ⟨g1, _⟩ := Lib.indexByte_some ho
    unfold ints
    exact List.mem_map.2 ⟨_, List.mem_of_getElem? g1, (u8_of c h0 h1 _).1 rfl⟩
  · intro h
    rcases Int.lt_or_le (Lib.indexByte t.data.toList c.toNat.toUInt8) 0 with hlt | hle
    · exfalso
      obtain ⟨b, hb, hc⟩ := List.mem_map.1 h
      obtain ⟨k, hk⟩ := List.getElem?_of_mem hb
      exact Lib.indexByte_none (by omega) k (hk.trans (congrArg some ((u8_of c h0 h1 b).2 hc)))
    · exact hle

set_option maxHeartbeats 400000 in
theorem throw_any (at_ : Int) (a : Addr) (w : World) :
    Calls Tryd.prog 84 #[.int .i64 at_, .iface 180 (.pointer (some a))] w fun e w' => e = .panicked [{ v := .iface 69 (.pointer (some ⟨w.heap.size, 0, none⟩)), recovered := false }] ∧ w' = w.alloc (.cells #[.int .i64 at_, .iface 180 (.pointer (some a))] 71) := by
  go_enter Tryd.func84, Tryd.ntmps84
  go_wp2
  exact ⟨rfl, rfl, rfl⟩
/-- A fault that was thrown: what the caller knows. -/
theorem thr_new {E : Nat → Addr} {b j : Nat} {s : ByteArray} {at_ : Int} {n : Int} {k : Nat} {w W : World} (hn : n = k) (h1 : 1 ≤ k) (h2 : k ≤ 18) (hg : w.grownBy W (some b)) (hr : Rd b s j W) :
    Thr E b s at_ n w (.panicked [{ v := .iface 69 (.pointer (some ⟨W.heap.size, 0, none⟩)), recovered := false }]) (W.alloc (.cells #[.int .i64 at_, .iface 180 (.pointer (some (E k)))] 71)) :=
  ⟨_, rfl, ErrV.new hn h1 h2, hg.trans (World.grownBy_alloc _ _ _), ⟨j, hr.kept (World.grownBy_alloc _ _ none) (by simp)⟩⟩
set_option maxHeartbeats 400000 in
theorem peek_ok (b : Nat) (s : ByteArray) (i : Nat) (w : World) (hl : s.size ≤ 1000000000) (hr : Rd b s i w) (h : i < s.size) :
    Calls Tryd.prog 83 #[.pointer (some ⟨b, 0, none⟩)] w (Ret b s (.int .u8 (bt s i)) i w) := by
  have hbt := get_bt s
  have c0 := hr.c0
  have c1 := hr.c1
  have HR := Lib.hid hr
  clear hr
  have hlt : decide (s.size ≤ i) = false := by simp; omega
  go_enter Tryd.func83, Tryd.ntmps83
  go_wp2_with fail
  go_quiet (fail)
  go_wp2_with fail
  go_quiet (fail)
  go_wp2
  go_ret
  exact ⟨rfl, HR.out, (grown_drewN _ _ _).trans (grown_drewN _ _ _)⟩

set_option maxHeartbeats 1000000 in
theorem peek_end {E : Nat → Addr} (b : Nat) (s : ByteArray) (i : Nat) (w : World) (hl : s.size ≤ 1000000000) (hs : Sents E w) (hr : Rd b s i w) (h : s.size ≤ i) :
    Calls Tryd.prog 83 #[.pointer (some ⟨b, 0, none⟩)] w (Thr E b s s.size 2 w) := by
  have c0 := hr.c0
  have c1 := hr.c1
  have c2 := hs.c2
  have hlt : decide (s.size ≤ i) = true := by simpa using h
  have HR := Lib.hid hr
  clear hr hs
  go_enter Tryd.func83, Tryd.ntmps83
  go_wp2_with fail
  go_quiet (fail)
  go_wp2_with fail
  go_region_dies
  all_goals (refine (throw_any _ _ _).mono ?_; rintro e w' ⟨rfl, rfl⟩; exact ⟨rfl, thr_new (k := 2) rfl (by omega) (by omega) (grown_drewN _ _ _) (Rd.drewN HR.out _)⟩)

set_option maxHeartbeats 1000000 in
theorem take_ok (b : Nat) (s : ByteArray) (i : Nat) (c : Int) (w : World) (hl : s.size ≤ 1000000000) (hr : Rd b s i w) (h : isAt s i c = true) :
    Calls Tryd.prog 89 #[.pointer (some ⟨b, 0, none⟩), .int .u8 c] w (Ret b s (.tuple #[]) (i + 1) w) := by
  obtain ⟨hi, hc⟩ : i < s.size ∧ bt s i = c := by simpa [isAt] using h
  have hcb : (bt s i != c) = false := by rw [bne_eq_false_iff_eq]; exact hc
  have HP := Lib.hid (peek_ok b s i w hl hr hi)
  clear hc h hr
  go_enter Tryd.func89, Tryd.ntmps89
  go_wp2_with fail
  refine HP.out.mono ?_
  rintro e w1 ⟨rfl, HR, HG⟩
  have c1 := HR.out.c1
  have f1 := HR.out.f1
  go_wp2
  refine bodyPost_ret (results_none rfl _ _ _) rfl ?_
  refine ⟨rfl, ?_, grown_cell HG.out _ _⟩
  have := HR.out.set (i + 1)
  push_cast at this
  exact this

set_option maxHeartbeats 1000000 in
theorem take_bad {E : Nat → Addr} (b : Nat) (s : ByteArray) (i : Nat) (c : Int) (w : World) (hl : s.size ≤ 1000000000) (hs : Sents E w) (hr : Rd b s i w) (h : isAt s i c = false) :
    Calls Tryd.prog 89 #[.pointer (some ⟨b, 0, none⟩), .int .u8 c] w (Thr E b s (badAt s i).1 (badAt s i).2 w) := by
  by_cases hi : s.size ≤ i
  · have HP := Lib.hid (peek_end b s i w hl hs hr hi)
    have HB : Hid (badAt s i = ((s.size : Int), 2)) := by show _ = _; unfold badAt; rw [if_pos hi]
    clear h hr hs
    rw [HB.out]
    go_enter Tryd.func89, Tryd.ntmps89
    go_wp2_with fail
    refine HP.out.mono ?_
    rintro e w1 ⟨p, rfl, h1, h2, h3⟩
    exact ⟨rfl, p, rfl, h1, h2, h3⟩
  · have hc : bt s i ≠ c := by
      intro e; simp [isAt, e] at h; omega
    have hcb : (bt s i != c) = true := by rw [bne_iff_ne]; exact hc
    have HB : Hid (badAt s i = ((i : Int), 1)) := by show _ = _; unfold badAt; rw [if_neg hi]
    have HP := Lib.hid (peek_ok b s i w hl hr (by omega))
    have HS := Lib.hid hs
    have HR0 := Lib.hid hr
    clear hc h hr hs
    rw [HB.out]
    go_enter Tryd.func89, Tryd.ntmps89
    go_wp2_with fail
    refine HP.out.mono ?_
    rintro e w1 ⟨rfl, HR, HG⟩
    have c1 := HR.out.c1
    have g1 := (HS.out.grown HR0.out HG.out).c1
    go_wp2_with fail
    go_region_dies
    all_goals (refine (throw_any _ _ _).mono ?_; rintro e w' ⟨rfl, rfl⟩; exact ⟨rfl, thr_new (k := 1) rfl (by omega) (by omega) (HG.out.trans (grown_drewN _ _ _)) (Rd.drewN HR.out _)⟩)

/-- Does one of some bytes stand at a place? -/
def anyAt (s : ByteArray) (i : Nat) (l : List Int) : Bool := decide (i < s.size) && decide (bt s i ∈ l)

set_option maxHeartbeats 1000000 in
theorem any_yes (b : Nat) (s : ByteArray) (i : Nat) (t : ByteArray) (w : World) (hl : s.size ≤ 1000000000) (hr : Rd b s i w) (h : anyAt s i (ints t) = true) :
    Calls Tryd.prog 106 #[.pointer (some ⟨b, 0, none⟩), .string t] w (Ret b s (.bool true) (i + 1) w) := by
  obtain ⟨hi, hm⟩ : i < s.size ∧ bt s i ∈ ints t := by simpa [anyAt] using h
  obtain ⟨v, hv, hvm⟩ := index_in t (bt s i) (bt_nonneg _ _) (bt_le _ _)
  have hv0 : decide (0 ≤ v) = true := by simpa using hvm.2 hm
  have hlt : decide (i < s.size) = true := by simpa using hi
  have hbt := get_bt s
  have HV := Lib.hid hv
  have HR := Lib.hid hr
  have c0 : ∀ n, (w.drewN n).cell? ⟨b, 0, none⟩ = some (.string s) := fun _ => hr.c0
  have c1 : ∀ n, (w.drewN n).cell? ⟨b, 1, none⟩ = some (.int .i64 i) := fun _ => hr.c1
  have f1 : ∀ n, (w.drewN n).frozen? ⟨b, 1, none⟩ = false := fun _ => hr.f1
  have d0 := hr.c0
  have d1 := hr.c1
  clear hv hvm hm h hr
  go_enter Tryd.func106, Tryd.ntmps106
  go_wp2_with fail
  go_quiet ((go_at_call 72; exact Calls.quiet_of_same (HV.out _)))
  go_wp2_with fail
  go_ret
  refine ⟨rfl, ?_, grown_cell (grown_drewN _ _ _) _ _⟩
  have := Rd.set (HR.out.drewN nq) (i + 1)
  push_cast at this
  exact this

set_option maxHeartbeats 1000000 in
theorem any_no (b : Nat) (s : ByteArray) (i : Nat) (t : ByteArray) (w : World) (hl : s.size ≤ 1000000000) (hr : Rd b s i w) (h : anyAt s i (ints t) = false) :
    Calls Tryd.prog 106 #[.pointer (some ⟨b, 0, none⟩), .string t] w (Ret b s (.bool false) i w) := by
  have HR := Lib.hid hr
  have d0 := hr.c0
  have d1 := hr.c1
  clear hr
  by_cases hi : i < s.size
  · have hm : ¬ bt s i ∈ ints t := by simpa [anyAt, hi] using h
    obtain ⟨v, hv, hvm⟩ := index_in t (bt s i) (bt_nonneg _ _) (bt_le _ _)
    have hv0 : decide (0 ≤ v) = false := by simp; have := mt hvm.1 hm; omega
    have hlt : decide (i < s.size) = true := by simpa using hi
    have hbt := get_bt s
    have HV := Lib.hid hv
    clear hv hvm hm h
    go_enter Tryd.func106, Tryd.ntmps106
    go_wp2_with fail
    go_quiet ((go_at_call 72; exact Calls.quiet_of_same (HV.out _)))
    go_wp2_with fail
    go_ret
    exact ⟨rfl, HR.out, grown_drewN _ _ _⟩
  · have hlt : decide (i < s.size) = false := by simpa using hi
    clear h
    go_enter Tryd.func106, Tryd.ntmps106
    go_wp2_with fail
    go_quiet (fail)
    go_wp2_with fail
    go_ret
    exact ⟨rfl, HR.out, grown_drewN _ _ _⟩
end

section
open Go.RowKit Go.PlainAid

set_option maxHeartbeats 1000000 in
theorem digit_any (b : Nat) (s : ByteArray) (i : Nat) (w : World) (hl : s.size ≤ 1000000000) (hr : Rd b s i w) (d : Bool) (h : digAt s i = d) :
    Calls Tryd.prog 119 #[.pointer (some ⟨b, 0, none⟩)] w (Ret b s (.bool d) i w) := by
  have HR := Lib.hid hr
  have d0 := hr.c0
  have d1 := hr.c1
  clear hr
  have hbt := get_bt s
  have n0 := bt_nonneg s i
  have l0 := bt_le s i
  by_cases hi : i < s.size
  · have hlt : decide (i < s.size) = true := by simpa using hi
    by_cases h1 : 48 ≤ bt s i
    · have g1 : decide (48 ≤ bt s i) = true := by simpa using h1
      by_cases h2 : bt s i ≤ 57
      · have g2 : decide (bt s i ≤ 57) = true := by simpa using h2
        obtain rfl : d = true := by rw [← h]; simp [digAt, isDig, hi, h1, h2]
        clear h
        go_enter Tryd.func119, Tryd.ntmps119
        go_wp2_with fail
        go_quiet (fail)
        go_wp2_with fail
        go_ret
        exact ⟨rfl, HR.out, grown_drewN _ _ _⟩
      · have g2 : decide (bt s i ≤ 57) = false := by simp; omega
        obtain rfl : d = false := by rw [← h]; simp [digAt, isDig, hi, h1]; omega
        clear h
        go_enter Tryd.func119, Tryd.ntmps119
        go_wp2_with fail
        go_quiet (fail)
        go_wp2_with fail
        go_ret
        exact ⟨rfl, HR.out, grown_drewN _ _ _⟩
    · have g1 : decide (48 ≤ bt s i) = false := by simp; omega
      obtain rfl : d = false := by rw [← h]; simp [digAt, isDig, hi]; omega
      clear h
      go_enter Tryd.func119, Tryd.ntmps119
      go_wp2_with fail
      go_quiet (fail)
      go_wp2_with fail
      go_ret
      exact ⟨rfl, HR.out, grown_drewN _ _ _⟩
  · have hlt : decide (i < s.size) = false := by simpa using hi
    obtain rfl : d = false := by rw [← h]; simp [digAt, hi]
    clear h
    go_enter Tryd.func119, Tryd.ntmps119
    go_wp2_with fail
    go_quiet (fail)
    go_wp2_with fail
    go_ret
    exact ⟨rfl, HR.out, grown_drewN _ _ _⟩

theorem digAt_lt {s : ByteArray} {i : Nat} (h : digAt s i = true) : i < s.size := by
  unfold digAt at h
  simp at h
  exact h.1
theorem digs_le (s : ByteArray) : ∀ k i : Nat, i + k = s.size → i ≤ digs s k i ∧ digs s k i ≤ s.size
  | 0, i, h => by simp [digs]; omega
  | k + 1, i, h => by
    unfold digs
    split
    · have := digs_le s k (i + 1) (by omega); omega
    · omega

set_option maxHeartbeats 1000000 in
theorem digits_ok (b : Nat) (s : ByteArray) (i : Nat) (w : World) (hl : s.size ≤ 1000000000) (hr : Rd b s i w) (h : digAt s i = true) :
    Calls Tryd.prog 107 #[.pointer (some ⟨b, 0, none⟩)] w (Ret b s (.tuple #[]) (dgs s i) w) := by
  have hi := digAt_lt h
  have HP := Lib.hid (peek_ok b s i w hl hr hi)
  have HH := Lib.hid h
  clear hr h
  go_enter Tryd.func107, Tryd.ntmps107
  go_wp2_with fail
  refine HP.out.mono ?_
  rintro e w1 ⟨rfl, HR, HG⟩
  go_wp2_with fail
  refine (digit_any b s i w1 hl HR.out true HH.out).mono ?_
  rintro e w2 ⟨rfl, HR2, HG2⟩
  have HG3 := Lib.hid (grown2 HG.out HG2.out)
  clear HG HG2 HR HP
  go_wp2_with fail
  go_loopg [] (s.size - i) (fun k w' => ∃ j : Nat, Hid (j + k = s.size) ∧ Hid (digs s k j = dgs s i) ∧ Hid (Rd b s j w') ∧ Hid (w.grownBy w' (some b)))
  case atStart => exact ⟨i, by show _ = _; omega, rfl, HR2.out, HG3.out⟩
  case round =>
    obtain ⟨j, HI, HD, HRj, HGj⟩ := hrel
    clear HR2 HG3
    by_cases hd : digAt s j = true
    · cases gk with
      | zero =>
        have := digAt_lt hd
        have := HI.out
        omega
      | succ k1 =>
        have HC := Lib.hid (digit_any b s j wr hl HRj.out true hd)
        have HD2 : Hid (digs s k1 (j + 1) = dgs s i) := by
          have := HD.out
          unfold digs at this
          rw [if_pos hd] at this
          exact this
        have hj := digAt_lt hd
        have HI2 : Hid (j + 1 + k1 = s.size) := by have := HI.out; show _ = _; omega
        clear hd HD HI
        go_wp2_with fail
        refine HC.out.mono ?_
        rintro e w3 ⟨rfl, HR3, HG3⟩
        have c1 := HR3.out.c1
        have f1 := HR3.out.f1
        go_wp2_with fail
        go_roundg k1
        case measure => omega
        case rel => exact ⟨j + 1, HI2, HD2, by have := HR3.out.set (j + 1); push_cast at this; exact this, grown_cell (HGj.out.trans HG3.out) _ _⟩
    · have hd' : digAt s j = false := by simpa using hd
      have HC := Lib.hid (digit_any b s j wr hl HRj.out false hd')
      have HD2 : Hid (dgs s i = j) := by
        have := HD.out
        cases gk with
        | zero => exact this.symm
        | succ k1 =>
          unfold digs at this
          rw [if_neg hd] at this
          exact this.symm
      clear hd hd' HD HI
      go_wp2_with fail
      refine HC.out.mono ?_
      rintro e w3 ⟨rfl, HR3, HG3⟩
      go_wp2
      refine bodyPost_ret (results_none rfl _ _ _) rfl ?_
      exact ⟨rfl, by rw [HD2.out]; exact HR3.out, HGj.out.trans HG3.out⟩

set_option maxHeartbeats 1000000 in
theorem digits_bad {E : Nat → Addr} (b : Nat) (s : ByteArray) (i : Nat) (w : World) (hl : s.size ≤ 1000000000) (hs : Sents E w) (hr : Rd b s i w) (h : digAt s i = false) :
    Calls Tryd.prog 107 #[.pointer (some ⟨b, 0, none⟩)] w (Thr E b s (badAt s i).1 (badAt s i).2 w) := by
  by_cases hi : s.size ≤ i
  · have HP := Lib.hid (peek_end b s i w hl hs hr hi)
    have HB : Hid (badAt s i = ((s.size : Int), 2)) := by show _ = _; unfold badAt; rw [if_pos hi]
    clear h hr hs
    rw [HB.out]
    go_enter Tryd.func107, Tryd.ntmps107
    go_wp2_with fail
    refine HP.out.mono ?_
    rintro e w1 ⟨p, rfl, h1, h2, h3⟩
    exact ⟨rfl, p, rfl, h1, h2, h3⟩
  · have HB : Hid (badAt s i = ((i : Int), 1)) := by show _ = _; unfold badAt; rw [if_neg hi]
    have HP := Lib.hid (peek_ok b s i w hl hr (by omega))
    have HS := Lib.hid hs
    have HR0 := Lib.hid hr
    have HH := Lib.hid h
    clear h hr hs
    rw [HB.out]
    go_enter Tryd.func107, Tryd.ntmps107
    go_wp2_with fail
    refine HP.out.mono ?_
    rintro e w1 ⟨rfl, HR, HG⟩
    go_wp2_with fail
    refine (digit_any b s i w1 hl HR.out false HH.out).mono ?_
    rintro e w2 ⟨rfl, HR2, HG2⟩
    have HG3 := Lib.hid (grown2 HG.out HG2.out)
    have c1 := HR2.out.c1
    have g1 := (HS.out.grown HR0.out HG3.out).c1
    go_wp2_with fail
    go_region_dies
    all_goals (refine (throw_any _ _ _).mono ?_; rintro e w' ⟨rfl, rfl⟩; exact ⟨rfl, thr_new (k := 1) rfl (by omega) (by omega) (HG3.out.trans (grown_drewN _ _ _)) (Rd.drewN HR2.out _)⟩)

theorem isSp_mem (b : Int) : b ∈ ints ⟨#[9, 10, 13, 32]⟩ ↔ isSp b = true := by
  simp [isSp, ints]

set_option maxHeartbeats 1000000 in
theorem space_any (b : Nat) (s : ByteArray) (i : Nat) (w : World) (hl : s.size ≤ 1000000000) (hr : Rd b s i w) :
    Calls Tryd.prog 55 #[.pointer (some ⟨b, 0, none⟩)] w (Ret b s (.tuple #[]) (spc s i) w) := by
  have HR := Lib.hid hr
  clear hr
  go_enter Tryd.func55, Tryd.ntmps55
  go_wp2_with fail
  go_loopg [] (s.size - i) (fun k w' => ∃ j : Nat, Hid (s.size - j = k) ∧ Hid (spcs s k j = spc s i) ∧ Hid (Rd b s j w') ∧ Hid (w.grownBy w' (some b)))
  case atStart => exact ⟨i, rfl, rfl, HR.out, World.grownBy.refl _ _⟩
  case round =>
    obtain ⟨j, HI, HD, HRj, HGj⟩ := hrel
    clear HR
    have d0 := HRj.out.c0
    have d1 := HRj.out.c1
    have hbt := get_bt s
    by_cases hj : j < s.size
    · have hlt : decide (j < s.size) = true := by simpa using hj
      cases gk with
      | zero => have := HI.out; omega
      | succ k1 =>
        obtain ⟨v, hv, hvm⟩ := index_in ⟨#[9, 10, 13, 32]⟩ (bt s j) (bt_nonneg _ _) (bt_le _ _)
        have HV := Lib.hid hv
        by_cases hsp : isSp (bt s j) = true
        · have hv0 : decide (0 ≤ v) = true := by simpa using hvm.2 ((isSp_mem _).2 hsp)
          have HD2 : Hid (spcs s k1 (j + 1) = spc s i) := by
            have := HD.out
            unfold spcs at this
            rw [if_pos ⟨hj, hsp⟩] at this
            exact this
          have HI2 : Hid (s.size - (j + 1) = k1) := by have := HI.out; show _ = _; omega
          have c1 : ∀ n, (wr.drewN n).cell? ⟨b, 1, none⟩ = some (.int .i64 j) := fun _ => HRj.out.c1
          have f1 : ∀ n, (wr.drewN n).frozen? ⟨b, 1, none⟩ = false := fun _ => HRj.out.f1
          clear hv hvm hsp HD HI
          go_wp2_with fail
          go_quiet ((go_at_call 72; exact Calls.quiet_of_same (HV.out _)))
          go_wp2_with fail
          go_roundg k1
          case measure => omega
          case rel => exact ⟨j + 1, HI2, HD2, by have := Rd.set (HRj.out.drewN nq) (j + 1); push_cast at this; exact this, grown_cell (HGj.out.trans (grown_drewN _ _ _)) _ _⟩
        · have hv0 : decide (0 ≤ v) = false := by simp; have := mt (fun h => (isSp_mem _).1 (hvm.1 h)) hsp; omega
          have HD2 : Hid (spc s i = j) := by
            have := HD.out
            unfold spcs at this
            rw [if_neg (fun h => hsp h.2)] at this
            exact this.symm
          clear hv hvm hsp HD HI
          go_wp2_with fail
          go_quiet ((go_at_call 72; exact Calls.quiet_of_same (HV.out _)))
          go_wp2
          refine bodyPost_ret (results_none rfl _ _ _) rfl ?_
          exact ⟨rfl, by rw [HD2.out]; exact HRj.out, HGj.out.trans (grown_drewN _ _ _)⟩
    · have hlt : decide (j < s.size) = false := by simpa using hj
      have HD2 : Hid (spc s i = j) := by
        have := HD.out
        have h0 : gk = 0 := by have := HI.out; omega
        rw [h0] at this
        exact this.symm
      clear HD HI
      go_wp2_with fail
      go_quiet (fail)
      go_wp2
      refine bodyPost_ret (results_none rfl _ _ _) rfl ?_
      exact ⟨rfl, by rw [HD2.out]; exact HRj.out, HGj.out.trans (grown_drewN _ _ _)⟩
end

section
open Go.RowKit Go.PlainAid

theorem any_any (b : Nat) (s : ByteArray) (i : Nat) (t : ByteArray) (w : World) (hl : s.size ≤ 1000000000) (hr : Rd b s i w) :
    Calls Tryd.prog 106 #[.pointer (some ⟨b, 0, none⟩), .string t] w (Ret b s (.bool (anyAt s i (ints t))) (if anyAt s i (ints t) = true then i + 1 else i) w) := by
  cases h : anyAt s i (ints t) with
  | true => rw [if_pos rfl]; exact any_yes b s i t w hl hr h
  | false => rw [if_neg (by simp)]; exact any_no b s i t w hl hr h
theorem anyAt_one (s : ByteArray) (i : Nat) (c : Int) : anyAt s i [c] = isAt s i c := by simp [anyAt, isAt]
theorem anyAt_two (s : ByteArray) (i : Nat) (c d : Int) : anyAt s i [c, d] = (isAt s i c || isAt s i d) := by
  unfold anyAt isAt
  by_cases h : i < s.size <;> simp [h]

theorem Thr.pre {E : Nat → Addr} {b : Nat} {s : ByteArray} {at_ n : Int} {w w1 w2 : World} {e : Ending} (hg : w.grownBy w1 (some b)) (h : Thr E b s at_ n w1 e w2) : Thr E b s at_ n w e w2 := by
  obtain ⟨p, h1, h2, h3, h4⟩ := h
  exact ⟨p, h1, h2, hg.trans h3.out, h4⟩
theorem Ret.pre {b j : Nat} {s : ByteArray} {v : Value} {w w1 w2 : World} {e : Ending} (hg : w.grownBy w1 (some b)) (h : Ret b s v j w1 e w2) : Ret b s v j w e w2 := ⟨h.1, h.2.1, hg.trans h.2.2.out⟩

def NumIs (E : Nat → Addr) (b : Nat) (s : ByteArray) (at_ : Nat) (w : World) (e : Ending) (w' : World) : Prop :=
  ((numAt s at_).2 = 0 ∧ Ret b s (.string (s.extract at_ (numAt s at_).1.toNat)) (numAt s at_).1.toNat w e w') ∨ ((numAt s at_).2 ≠ 0 ∧ Thr E b s (numAt s at_).1 (numAt s at_).2 w e w')
theorem NumIs.good {E : Nat → Addr} {b : Nat} {s : ByteArray} {at_ j : Nat} {w w' : World} {e : Ending} (h : numAt s at_ = ((j : Int), 0)) (hr : Ret b s (.string (s.extract at_ j)) j w e w') : NumIs E b s at_ w e w' := .inl (by rw [h]; exact ⟨rfl, hr⟩)
theorem badAt_ne (s : ByteArray) (i : Nat) : (badAt s i).2 ≠ 0 := by unfold badAt; split <;> simp
theorem NumIs.bad {E : Nat → Addr} {b : Nat} {s : ByteArray} {at_ j : Nat} {w w' : World} {e : Ending} (h : numAt s at_ = badAt s j) (hr : Thr E b s (badAt s j).1 (badAt s j).2 w e w') : NumIs E b s at_ w e w' := .inr (by rw [h]; exact ⟨badAt_ne s j, hr⟩)
theorem isAt_lt {s : ByteArray} {i : Nat} {c : Int} (h : isAt s i c = true) : i < s.size ∧ bt s i = c := by simpa [isAt] using h
theorem dgs_le (s : ByteArray) (i : Nat) (h : i ≤ s.size) : i ≤ dgs s i ∧ dgs s i ≤ s.size := digs_le s (s.size - i) i (by omega)
theorem isAt_dig {s : ByteArray} {i : Nat} {c : Int} (h : isAt s i c = true) (h0 : 48 ≤ c) (h1 : c ≤ 57) : digAt s i = true := by
  obtain ⟨h2, h3⟩ := isAt_lt h
  simp [digAt, isDig, h2, h3, h0, h1]

set_option maxHeartbeats 2000000 in
theorem number_any {E : Nat → Addr} (b : Nat) (s : ByteArray) (i : Nat) (w : World) (hl : s.size ≤ 1000000000) (hi : i ≤ s.size) (hs : Sents E w) (hr : Rd b s i w) :
    Calls Tryd.prog 88 #[.pointer (some ⟨b, 0, none⟩)] w (NumIs E b s i w) := by
  have HR0 := Lib.hid hr
  have HS := Lib.hid hs
  have d1 := hr.c1
  clear hr hs
  obtain ⟨i0, Hi0⟩ : ∃ i0, Hid ((if isAt s i 45 = true then i + 1 else i) = i0) := ⟨_, rfl⟩
  have hi0 : i ≤ i0 ∧ i0 ≤ s.size := by
    rw [← Hi0.out]
    split
    · rename_i h; have := (isAt_lt h).1; omega
    · omega
  go_enter Tryd.func88, Tryd.ntmps88
  go_wp2_with fail
  refine (any_any b s i ⟨#[45]⟩ _ hl HR0.out).mono ?_
  rintro e w1 ⟨rfl, HR, HG⟩
  have HR1 : Hid (Rd b s i0 w1) := by
    have := HR.out
    rw [show ints ⟨#[45]⟩ = [45] from rfl, anyAt_one, Hi0.out] at this
    exact this
  clear HR d1
  generalize anyAt s i (ints ⟨#[45]⟩) = dd
  have HG1 := Lib.hid HG.out
  clear HG
  obtain ⟨z, Hz⟩ : ∃ z, Hid (isAt s i0 48 = z) := ⟨_, rfl⟩
  by_cases hd0 : digAt s i0 = false
  · have HN : Hid (numAt s i = badAt s i0) := by
      show _ = _
      unfold numAt
      simp only []
      rw [Hi0.out, if_pos hd0]
    have hz : z = false := by
      cases hz : z with
      | false => rfl
      | true => rw [hz] at Hz; have := isAt_dig Hz.out (by omega) (by omega); rw [hd0] at this; simp at this
    subst hz
    have HD0 := Lib.hid hd0
    clear hd0
    go_wp2_with fail
    refine (any_any b s i0 ⟨#[48]⟩ _ hl HR1.out).mono ?_
    rintro e w2 ⟨rfl, HR2, HG2⟩
    rw [show ints ⟨#[48]⟩ = [48] from rfl, anyAt_one, Hz.out]
    rw [show ints ⟨#[48]⟩ = [48] from rfl, anyAt_one, Hz.out] at HR2
    have HR3 : Hid (Rd b s i0 w2) := HR2.out
    have HG3 := Lib.hid (HG1.out.trans HG2.out)
    clear HR2 HG2 HG1 HR1
    go_wp2_with fail
    refine (digits_bad (E := E) b s i0 _ hl (HS.out.grown HR0.out HG3.out) HR3.out HD0.out).mono ?_
    intro e w3 ht
    have HT := Lib.hid (Thr.pre HG3.out ht)
    obtain ⟨p, rfl, _, _⟩ := ht
    exact ⟨rfl, NumIs.bad HN.out HT.out⟩
  · have hd1 : digAt s i0 = true := by simpa using hd0
    have HD1 := Lib.hid hd1
    obtain ⟨i1, Hi1⟩ : ∃ i1, Hid ((if isAt s i0 48 = true then i0 + 1 else dgs s i0) = i1) := ⟨_, rfl⟩
    have hi1 : i0 ≤ i1 ∧ i1 ≤ s.size := by
      rw [← Hi1.out]
      have := digAt_lt hd1
      have := dgs_le s i0 (by omega)
      split <;> omega
    obtain ⟨dt, Hdt⟩ : ∃ dt, Hid (isAt s i1 46 = dt) := ⟨_, rfl⟩
    obtain ⟨i2, Hi2⟩ : ∃ i2, Hid ((if isAt s i1 46 = true then dgs s (i1 + 1) else i1) = i2) := ⟨_, rfl⟩
    clear hd0 hd1
    go_upto_if 12 with (go_at_call 106; refine (any_any b s i0 ⟨#[48]⟩ _ hl HR1.out).mono ?_; rintro e w2 ⟨rfl, HR2, HG2⟩; rw [show ints ⟨#[48]⟩ = [48] from rfl, anyAt_one, Hz.out]; rw [show ints ⟨#[48]⟩ = [48] from rfl, anyAt_one, Hz.out] at HR2)
    go_cut [] (fun wc => Hid (Rd b s i1 wc) ∧ Hid (w.grownBy wc (some b)))
    case first =>
      cases z with
      | true =>
        go_wp2
        go_meet
        case rel => exact ⟨by rw [← Hi1.out, Hz.out]; exact HR2.out, HG1.out.trans HG2.out⟩
      | false =>
        go_wp2_with fail
        refine (digits_ok b s i0 _ hl HR2.out HD1.out).mono ?_
        rintro e w3 ⟨rfl, HR3, HG3⟩
        go_wp2_with fail
        go_meet
        case rel => exact ⟨by rw [← Hi1.out, Hz.out]; exact HR3.out, (HG1.out.trans HG2.out).trans HG3.out⟩
    case rest =>
      obtain ⟨HR5, HG5⟩ := hcut
      clear HG1 HR1 HR2 HG2
      go_wp2_with fail
      refine (any_any b s i1 ⟨#[46]⟩ _ hl HR5.out).mono ?_
      rintro e w6 ⟨rfl, HR6, HG6⟩
      rw [show ints ⟨#[46]⟩ = [46] from rfl, anyAt_one, Hdt.out]
      rw [show ints ⟨#[46]⟩ = [46] from rfl, anyAt_one, Hdt.out] at HR6
      have HG7 := Lib.hid (HG5.out.trans HG6.out)
      clear HR5 HG5 HG6
      by_cases hbad : isAt s i1 46 = true ∧ digAt s (i1 + 1) = false
      · have HN : Hid (numAt s i = badAt s (i1 + 1)) := by
          show _ = _
          unfold numAt
          simp only []
          rw [Hi0.out, if_neg (by simp [HD1.out]), Hi1.out, if_pos hbad]
        have hdt : dt = true := by rw [← Hdt.out]; exact hbad.1
        subst hdt
        have HD2 := Lib.hid hbad.2
        have HR7 : Hid (Rd b s (i1 + 1) w6) := HR6.out
        clear hbad HR6
        go_wp2_with fail
        refine (digits_bad (E := E) b s (i1 + 1) _ hl (HS.out.grown HR0.out HG7.out) HR7.out HD2.out).mono ?_
        intro e w3 ht
        have HT := Lib.hid (Thr.pre HG7.out ht)
        obtain ⟨p, rfl, _, _⟩ := ht
        exact ⟨rfl, NumIs.bad HN.out HT.out⟩
      · have hi2 : i1 ≤ i2 ∧ i2 ≤ s.size := by
          rw [← Hi2.out]
          split
          · rename_i h
            have := (isAt_lt h).1
            have := dgs_le s (i1 + 1) (by omega)
            omega
          · omega
        have HD2 : Hid (dt = true → digAt s (i1 + 1) = true) := by
          intro h
          have h2 : isAt s i1 46 = true := by rw [Hdt.out]; exact h
          cases hx : digAt s (i1 + 1) with
          | true => rfl
          | false => exact absurd ⟨h2, hx⟩ hbad
        have HBAD := Lib.hid hbad
        obtain ⟨ee, Hee⟩ : ∃ ee, Hid ((isAt s i2 101 || isAt s i2 69) = ee) := ⟨_, rfl⟩
        clear hbad
        go_upto_if 16 with (fail)
        go_cut [] (fun wc => Hid (Rd b s i2 wc) ∧ Hid (w.grownBy wc (some b)))
        case first =>
          cases dt with
          | true =>
            have HR7 : Hid (Rd b s (i1 + 1) w6) := HR6.out
            go_wp2_with fail
            refine (digits_ok b s (i1 + 1) _ hl HR7.out (by first | exact HD2.out rfl | exact HD2.out trivial)).mono ?_
            rintro e w3 ⟨rfl, HR3, HG3⟩
            go_wp2_with fail
            go_meet
            case rel => exact ⟨by rw [← Hi2.out, Hdt.out]; exact HR3.out, HG7.out.trans HG3.out⟩
          | false =>
            go_wp2
            go_meet
            case rel => exact ⟨by rw [← Hi2.out, Hdt.out]; exact HR6.out, HG7.out⟩
        case rest =>
          obtain ⟨HR8, HG8⟩ := hcut
          clear HG7 HR6 HD2
          go_wp2_with fail
          refine (any_any b s i2 ⟨#[101, 69]⟩ _ hl HR8.out).mono ?_
          rintro e w9 ⟨rfl, HR9, HG9⟩
          rw [show ints ⟨#[101, 69]⟩ = [101, 69] from rfl, anyAt_two, Hee.out]
          rw [show ints ⟨#[101, 69]⟩ = [101, 69] from rfl, anyAt_two, Hee.out] at HR9
          have HG10 := Lib.hid (HG8.out.trans HG9.out)
          clear HR8 HG8 HG9
          cases ee with
          | false =>
            have HN : Hid (numAt s i = ((i2 : Int), 0)) := by
              show _ = _
              unfold numAt
              simp only []
              have he := Hee.out
              simp at he
              rw [Hi0.out, if_neg (by simp [HD1.out]), Hi1.out, if_neg HBAD.out, Hi2.out, if_neg (by rw [he.1, he.2]; simp)]
            have c0 := HR9.out.c0
            have c1 : w9.cell? ⟨b, 1, none⟩ = some (.int .i64 i2) := HR9.out.c1
            have hle : i ≤ i2 := by omega
            have HR10 : Hid (Rd b s i2 w9) := HR9.out
            go_wp2_with fail
            go_quiet (fail)
            go_wp2
            go_ret
            exact NumIs.good HN.out ⟨rfl, HR10.out, HG10.out.trans (grown_drewN _ _ _)⟩
          | true =>
            have HR10 : Hid (Rd b s (i2 + 1) w9) := HR9.out
            obtain ⟨i3, Hi3⟩ : ∃ i3, Hid ((if isAt s (i2 + 1) 43 = true ∨ isAt s (i2 + 1) 45 = true then i2 + 2 else i2 + 1) = i3) := ⟨_, rfl⟩
            have HI2 : Hid (isAt s i2 101 = true ∨ isAt s i2 69 = true) := by show _ ∨ _; simpa using Hee.out
            have hlt2 : i2 < s.size := by rcases HI2.out with h | h <;> exact (isAt_lt h).1
            clear HR9
            go_wp2_with fail
            refine (any_any b s (i2 + 1) ⟨#[43, 45]⟩ _ hl HR10.out).mono ?_
            rintro e w11 ⟨rfl, HR11, HG11⟩
            have HR12 : Hid (Rd b s i3 w11) := by
              have := HR11.out
              rw [show ints ⟨#[43, 45]⟩ = [43, 45] from rfl, anyAt_two] at this
              rw [← Hi3.out]
              show Rd _ _ _ _
              by_cases h : isAt s (i2 + 1) 43 = true ∨ isAt s (i2 + 1) 45 = true
              · rw [if_pos h]; rw [if_pos (by simpa using h)] at this; exact this
              · rw [if_neg h]; rw [if_neg (by simpa using h)] at this; exact this
            have HG12 := Lib.hid (HG10.out.trans HG11.out)
            generalize anyAt s (i2 + 1) (ints ⟨#[43, 45]⟩) = dd2
            clear HR10 HR11 HG10 HG11
            by_cases hd3 : digAt s i3 = false
            · have HN : Hid (numAt s i = badAt s i3) := by
                show _ = _
                unfold numAt
                simp only []
                rw [Hi0.out, if_neg (by simp [HD1.out]), Hi1.out, if_neg HBAD.out, Hi2.out, if_pos HI2.out, Hi3.out, if_pos hd3]
              have HD3 := Lib.hid hd3
              clear hd3
              go_wp2_with fail
              refine (digits_bad (E := E) b s i3 _ hl (HS.out.grown HR0.out HG12.out) HR12.out HD3.out).mono ?_
              intro e w3 ht
              have HT := Lib.hid (Thr.pre HG12.out ht)
              obtain ⟨p, rfl, _, _⟩ := ht
              exact ⟨rfl, NumIs.bad HN.out HT.out⟩
            · have HN : Hid (numAt s i = ((dgs s i3 : Int), 0)) := by
                show _ = _
                unfold numAt
                simp only []
                rw [Hi0.out, if_neg (by simp [HD1.out]), Hi1.out, if_neg HBAD.out, Hi2.out, if_pos HI2.out, Hi3.out, if_neg hd3]
              have hd4 : digAt s i3 = true := by simpa using hd3
              have hi3 : i ≤ i3 := by rw [← Hi3.out]; split <;> omega
              have hd5 := dgs_le s i3 (by have := digAt_lt hd4; omega)
              have HD4 := Lib.hid hd4
              clear hd3 hd4
              go_wp2_with fail
              refine (digits_ok b s i3 _ hl HR12.out HD4.out).mono ?_
              rintro e w13 ⟨rfl, HR13, HG13⟩
              have c0 := HR13.out.c0
              have c1 := HR13.out.c1
              have hle : i ≤ dgs s i3 := by omega
              have hle2 : dgs s i3 ≤ s.size := by omega
              clear hd5
              go_wp2_with fail
              go_quiet (fail)
              go_wp2
              go_ret
              exact NumIs.good HN.out ⟨rfl, HR13.out, (HG12.out.trans HG13.out).trans (grown_drewN _ _ _)⟩
end

section
open Go.RowKit Go.PlainAid

theorem i32_or4 {x y : Int} (hx₀ : 0 ≤ x) (hx : x % 16 = 0) (hx₁ : x < 2147483648) (h₀ : 0 ≤ y) (h₁ : y < 16) : bits .or .i32 x y = x + y :=
  bits_join .i32 31 (by decide) wraps_i32 4 x y hx₀ hx hx₁ h₀ h₁ (by omega)

theorem unitAt_range (s : ByteArray) : ∀ (k i : Nat) (r : Int), 0 ≤ r → (unitAt s k i r).2.2 = 0 → 0 ≤ (unitAt s k i r).1 ∧ (unitAt s k i r).1 < (r + 1) * 16 ^ k ∧ (unitAt s k i r).2.1 = ((i + k : Nat) : Int) ∧ i + k ≤ s.size + (if k = 0 then i else 0)
  | 0, i, r, h0, _ => by simp [unitAt]; omega
  | k + 1, i, r, h0, h => by
    unfold unitAt at h ⊢
    by_cases hc : i < s.size ∧ 0 ≤ hexd (bt s i)
    · rw [if_pos hc] at h ⊢
      have hx := hexd_le (bt s i)
      obtain ⟨h1, h2, h3, h4⟩ := unitAt_range s k (i + 1) (16 * r + hexd (bt s i)) (by omega) h
      refine ⟨h1, ?_, by rw [h3]; congr 1; omega, ?_⟩
      · have e : (r + 1) * 16 ^ (k + 1) = (16 * r + 16) * 16 ^ k := by rw [Int.pow_succ]; rw [Int.add_mul, Int.add_mul, Int.mul_comm (16 ^ k) 16, ← Int.mul_assoc, ← Int.mul_assoc, Int.mul_comm r 16]; simp
        have p : (0 : Int) < 16 ^ k := Int.pow_pos (by omega)
        have : (16 * r + hexd (bt s i) + 1) * 16 ^ k ≤ (16 * r + 16) * 16 ^ k := Int.mul_le_mul_of_nonneg_right (by omega) (by omega)
        rw [e]; omega
      · rw [if_neg (by omega)]
        by_cases hk : k = 0
        · subst hk; omega
        · rw [if_neg hk] at h4; omega
    · rw [if_neg hc] at h
      exact absurd h (badAt_ne s i)

def UnitIs (E : Nat → Addr) (b : Nat) (s : ByteArray) (i : Nat) (w : World) (e : Ending) (w' : World) : Prop :=
  ((unitAt s 4 i 0).2.2 = 0 ∧ Ret b s (.int .i32 (unitAt s 4 i 0).1) (i + 4) w e w') ∨ ((unitAt s 4 i 0).2.2 ≠ 0 ∧ Thr E b s (unitAt s 4 i 0).2.1 (unitAt s 4 i 0).2.2 w e w')
theorem UnitIs.good {E : Nat → Addr} {b : Nat} {s : ByteArray} {i : Nat} {r x : Int} {w w' : World} {e : Ending} (h : unitAt s 4 i 0 = (r, x, 0)) (hr : Ret b s (.int .i32 r) (i + 4) w e w') : UnitIs E b s i w e w' := .inl (by rw [h]; exact ⟨rfl, hr⟩)
theorem UnitIs.bad {E : Nat → Addr} {b : Nat} {s : ByteArray} {i j : Nat} {w w' : World} {e : Ending} (h : unitAt s 4 i 0 = (0, badAt s j)) (hr : Thr E b s (badAt s j).1 (badAt s j).2 w e w') : UnitIs E b s i w e w' := .inr (by rw [h]; exact ⟨badAt_ne s j, hr⟩)
theorem pow16 {c : Nat} (h : c ≤ 3) : 16 ^ c ≤ 4096 := Nat.pow_le_pow_right (n := 16) (by omega) h

set_option maxHeartbeats 2000000 in
set_option maxRecDepth 100000 in
theorem unit_any {E : Nat → Addr} (b : Nat) (s : ByteArray) (i : Nat) (w : World) (hl : s.size ≤ 1000000000) (hs : Sents E w) (hr : Rd b s i w) :
    Calls Tryd.prog 111 #[.pointer (some ⟨b, 0, none⟩)] w (UnitIs E b s i w) := by
  have HR0 := Lib.hid hr
  have HS := Lib.hid hs
  clear hr hs
  go_enter Tryd.func111, Tryd.ntmps111
  go_wp2_with fail
  go_loopg [3, 5] 4 (fun k v3 v5 w' => ∃ (c r : Nat), v5 = .int .i64 c ∧ v3 = .int .i32 r ∧ Hid (c + k = 4) ∧ Hid (r < 16 ^ c) ∧ Hid (unitAt s k (i + c) r = unitAt s 4 i 0) ∧ Hid (Rd b s (i + c) w') ∧ Hid (w.grownBy w' (some b)))
  case atStart => exact ⟨0, 0, rfl, rfl, by show _ = _; omega, by show _ < _; omega, rfl, HR0.out, World.grownBy.refl _ _⟩
  case round =>
    obtain ⟨c, r, rfl, rfl, HI, HB, HD, HR, HG⟩ := hrel
    by_cases hc4 : c < 4
    · cases gk with
      | zero => have := HI.out; omega
      | succ k1 =>
        have hr4 : r < 4096 := Nat.lt_of_lt_of_le HB.out (pow16 (by omega))
        have HI2 : Hid (c + 1 + k1 = 4) := by have := HI.out; show _ = _; omega
        by_cases hx : i + c < s.size
        · by_cases hh : 0 ≤ hexd (bt s (i + c))
          · have hle := hexd_le (bt s (i + c))
            have HD2 : Hid (unitAt s k1 (i + (c + 1)) ((16 * r + (hexd (bt s (i + c))).toNat : Nat) : Int) = unitAt s 4 i 0) := by
              have := HD.out
              unfold unitAt at this
              rw [if_pos ⟨hx, hh⟩] at this
              rw [show ((16 * r + (hexd (bt s (i + c))).toNat : Nat) : Int) = 16 * (r : Int) + hexd (bt s (i + c)) by omega]
              exact this
            have HB2 : Hid (16 * r + (hexd (bt s (i + c))).toNat < 16 ^ (c + 1)) := by
              have := HB.out
              show _ < _
              rw [Nat.pow_succ]
              omega
            have HHX : Hid ((48 ≤ bt s (i + c) ∧ bt s (i + c) ≤ 57 ∧ hexd (bt s (i + c)) = bt s (i + c) - 48) ∨ (97 ≤ bt s (i + c) ∧ bt s (i + c) ≤ 102 ∧ hexd (bt s (i + c)) = bt s (i + c) - 87) ∨ (65 ≤ bt s (i + c) ∧ bt s (i + c) ≤ 70 ∧ hexd (bt s (i + c)) = bt s (i + c) - 55)) := by
              show _ ∨ _
              unfold hexd at hh ⊢
              split at hh
              · rename_i h; exact .inl ⟨h.1, h.2, by rw [if_pos h]⟩
              · rename_i h; split at hh
                · rename_i h2; exact .inr (.inl ⟨h2.1, h2.2, by rw [if_neg h, if_pos h2]⟩)
                · rename_i h2; split at hh
                  · rename_i h3; exact .inr (.inr ⟨h3.1, h3.2, by rw [if_neg h, if_neg h2, if_pos h3]⟩)
                  · omega
            have hp := peek_ok b s (i + c) wr hl HR.out hx
            have HP := Lib.hid hp
            obtain ⟨x, HX⟩ : ∃ x, Hid (bt s (i + c) = x) := ⟨_, rfl⟩
            rw [HX.out] at HP HD2 HB2 HHX
            clear hp hle hh HD HI HB
            rcases HHX.out with ⟨x1, x2, x3⟩ | ⟨x1, x2, x3⟩ | ⟨x1, x2, x3⟩
            all_goals
              have HX3 := Lib.hid x3
              clear x3 HHX
              go_wp2_with fail
              refine HP.out.mono ?_
              rintro e w2 ⟨rfl, HR2, HG2⟩
              have c1 := HR2.out.c1
              have f1 := HR2.out.f1
              go_wp2_with fail
              go_roundg k1
              case measure => omega
              case rel => exact ⟨c + 1, 16 * r + (hexd x).toNat, by go_num, by rw [i32_or4 (by omega) (by omega) (by omega) (by omega) (by omega)]; exact congrArg (Value.int .i32) (by have := HX3.out; omega), HI2, HB2, HD2, by have := HR2.out.set (i + c + 1); push_cast at this; exact this, grown_cell (HG.out.trans HG2.out) _ _⟩
          · have HN : Hid (unitAt s 4 i 0 = (0, badAt s (i + c))) := by
              have := HD.out
              unfold unitAt at this
              rw [if_neg (fun h => hh h.2)] at this
              exact this.symm
            have HBA : Hid (badAt s (i + c) = (((i + c : Nat) : Int), 1)) := by show _ = _; unfold badAt; rw [if_neg (by omega)]
            have hp := peek_ok b s (i + c) wr hl HR.out hx
            have hh' : ¬ (48 ≤ bt s (i + c) ∧ bt s (i + c) ≤ 57) ∧ ¬ (97 ≤ bt s (i + c) ∧ bt s (i + c) ≤ 102) ∧ ¬ (65 ≤ bt s (i + c) ∧ bt s (i + c) ≤ 70) := by
              unfold hexd at hh; omega
            have HP := Lib.hid hp
            obtain ⟨x, HX⟩ : ∃ x, Hid (bt s (i + c) = x) := ⟨_, rfl⟩
            rw [HX.out] at HP hh'
            obtain ⟨x1, x2, x3⟩ := hh'
            clear hp hh HD HI HB
            go_wp2_with fail
            refine HP.out.mono ?_
            rintro e w2 ⟨rfl, HR2, HG2⟩
            have HG3 := Lib.hid (HG.out.trans HG2.out)
            have c1 := HR2.out.c1
            have g1 := (HS.out.grown HR0.out HG3.out).c1
            go_wp2_with fail
            all_goals first | (exfalso; omega) | skip
            all_goals
              go_region_dies
              all_goals (refine (throw_any _ _ _).mono ?_; rintro e w' ⟨rfl, rfl⟩; exact ⟨rfl, UnitIs.bad HN.out (by rw [HBA.out]; exact thr_new (k := 1) rfl (by omega) (by omega) (HG3.out.trans (grown_drewN _ _ _)) (Rd.drewN HR2.out _))⟩)
        · have HN : Hid (unitAt s 4 i 0 = (0, badAt s (i + c))) := by
            have := HD.out
            unfold unitAt at this
            rw [if_neg (fun h => hx h.1)] at this
            exact this.symm
          have HBA : Hid (badAt s (i + c) = ((s.size : Int), 2)) := by show _ = _; unfold badAt; rw [if_pos (by omega)]
          have HP := Lib.hid (peek_end (E := E) b s (i + c) wr hl (HS.out.grown HR0.out HG.out) HR.out (by omega))
          clear HD HI HB
          go_wp2_with fail
          refine HP.out.mono ?_
          intro e w2 ht
          have HT := Lib.hid (Thr.pre HG.out ht)
          obtain ⟨p, rfl, _, _⟩ := ht
          exact ⟨rfl, UnitIs.bad HN.out (by rw [HBA.out]; exact HT.out)⟩
    · have hc : c = 4 := by have := HI.out; omega
      subst hc
      have HN : Hid (unitAt s 4 i 0 = ((r : Int), ((i + 4 : Nat) : Int), 0)) := by
        have := HD.out
        have h0 : gk = 0 := by have := HI.out; omega
        rw [h0] at this
        exact this.symm
      clear HD HI HB
      go_wp2
      go_ret
      exact UnitIs.good HN.out ⟨rfl, HR.out, HG.out⟩
end

section
open Go.RowKit Go.PlainAid Go.Extern.Stop Go.Stop Go.Extern

theorem assertSome (p : Addr) (w : World) : (Instr.typeAssert (.iface 69 (.pointer (some p))) 20 69 true).run Tryd.prog w = .ok (.tuple #[.pointer (some p), .bool true]) w := by kernel_rfl
theorem assertNone (w : World) : (Instr.typeAssert .nilIface 20 69 true).run Tryd.prog w = .ok (.tuple #[.pointer none, .bool false]) w := by kernel_rfl

set_option maxHeartbeats 400000 in
theorem caught_some (p : Addr) (w : World) :
    Calls Tryd.prog 51 #[.iface 69 (.pointer (some p))] w fun e w' => e = .returned (.iface 69 (.pointer (some p))) ∧ w' = w := by
  have ha := assertSome p
  go_enter Tryd.func51, Tryd.ntmps51
  go_wp2
  go_ret
  exact ⟨rfl, rfl⟩
set_option maxHeartbeats 400000 in
theorem caught_none (w : World) :
    Calls Tryd.prog 51 #[.nilIface] w fun e w' => e = .returned .nilIface ∧ w' = w := by
  have ha := assertNone
  go_enter Tryd.func51, Tryd.ntmps51
  go_wp2
  go_ret
  exact ⟨rfl, rfl⟩

set_option maxHeartbeats 1000000 in
theorem low1_panicking (pb pd pr : Addr) (b j : Nat) (s : ByteArray) (back : Nat) (x : Int) (pv : Addr) (older : List PanicEntry) (w : World) (hr : Rd b s j w)
    (h1 : w.cell? pb = some (.int .i64 back)) (h2 : w.cell? pd = some (.pointer (some ⟨b, 0, none⟩))) (h3 : w.cell? pr = some (.int .i32 x)) (h4 : w.frozen? pr = false) (hne : pr.block ≠ b) :
    CallsD Tryd.prog 121 #[.pointer (some pb), .pointer (some pd), .pointer (some pr)] (.panicking ({ v := .iface 69 (.pointer (some pv)), recovered := false } :: older)) w fun e u' w' =>
      e = .returned (.tuple #[]) ∧ u' = .panicking ({ v := .iface 69 (.pointer (some pv)), recovered := true } :: older) ∧ w' = (w.setCell ⟨b, 1, none⟩ (.int .i64 back)).setCell pr (.int .i32 (-1)) := by
  have c1 := hr.c1
  have f1 := hr.f1
  refine callsD_of_wpS Tryd.func121 rfl fun c₀ cs hu => ?_
  apply wpS_seq
  apply wpS_region
  simp [wpOpsS, go_sem, recoverD, hu, Tryd.ntmps121, Exit.thenS]
  refine (caught_some pv w).mono ?_
  rintro e w' ⟨rfl, hw⟩
  rw [hw]
  clear hw
  have h5 : (w.setCell ⟨b, 1, none⟩ (.int .i64 back)).cell? pr = some (.int .i32 x) := (World.cell?_of_block (Below.heap_setCell w ⟨b, 1, none⟩ _ pr.block hne)).trans h3
  simp [go_sem, eqGuard, Result.andThen]
  refine wpS_cond (t := true) (by simp [Act.eval, Array.replicate]) ?_
  simp only [if_true]
  apply wpS_region
  simp [wpOpsS, go_sem, h1, h2, c1, f1, h5, h4, bodyPostS, results, Tryd.results121, Result.andThen, Array.replicate]

set_option maxHeartbeats 1000000 in
theorem low1_idle (pb pd pr : Addr) (w : World) :
    CallsD Tryd.prog 121 #[.pointer (some pb), .pointer (some pd), .pointer (some pr)] .returning w fun e u' w' => e = .returned (.tuple #[]) ∧ u' = .returning ∧ w' = w := by
  refine callsD_of_wpS Tryd.func121 rfl fun c₀ cs hu => ?_
  apply wpS_seq
  apply wpS_region
  simp [wpOpsS, go_sem, recoverD, hu, Tryd.ntmps121, Exit.thenS]
  refine (caught_none w).mono ?_
  rintro e w' ⟨rfl, hw⟩
  rw [hw]
  clear hw
  simp [go_sem, eqGuard, Result.andThen]
  refine wpS_cond (t := false) (by simp [Act.eval, Array.replicate]) ?_
  simp only [Bool.false_eq_true, if_false]
  refine wpS_of_wp (wp_skip ?_)
  cases c₀
  simp_all [bodyPostS, results, Tryd.results121]
end
end Go.Proofs.YtpdpgppaoipnlaaDoor

