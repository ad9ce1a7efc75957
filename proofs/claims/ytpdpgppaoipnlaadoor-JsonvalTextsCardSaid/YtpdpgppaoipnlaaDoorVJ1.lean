/- What the claim uses of the text J1. -/
import Derived.Test.YtpdpgppaoipnlaaDoorProg
import Derived.Test.YtpdpgppaoipnlaaDoorVWWords
import Derived.Lib.Hide
import Derived.Test.YtpdpgppaoipnlaaDoorVBase
import Derived.Test.YtpdpgppaoipnlaaDoorVUtf
import Derived.Test.YtpdpgppaoipnlaaDoorVErrs
import Derived.Test.YtpdpgppaoipnlaaDoorVIdx
import Derived.Lib.Builder
import Derived.Deep.RegionWith
import Derived.Deep.QuietTactic
import Derived.BigQuiet
import Derived.RegionDies
import Derived.Deep.DeepMust
import Derived.Maps.AppendAt
import Derived.Deep.DeepCutAuto
import Derived.Deep.CutBlock
import Derived.Laws.BitsLemmas
import Derived.Deep.WholeRow
import Derived.Defers
import Derived.Recover
import Derived.Stop.Asserts
set_option linter.unusedVariables false
set_option linter.unusedSimpArgs false
namespace Go.Proofs.YtpdpgppaoipnlaaDoor
section
open Go.RowKit Go.Proofs.YtpdpgppaoipnlaaDoorW.PrintWords

/-- A JSON value. -/
structure JV where
  kind : Int
  text : ByteArray
  list : List JV
  mem : List (ByteArray × JV)

def jz : JV := ⟨0, ⟨#[]⟩, [], []⟩

def JF (d : Kd JV) : Kd JV := Kd.iso (Kd.pair (Kd.int .i64) (Kd.pair Kd.string (Kd.pair (Kd.slice 26 d) (Kd.slice 50 (Kd.pair Kd.string d))))) (fun x : JV => (x.kind, x.text, x.list, x.mem))
theorem jmono : Kd.Mono JF := Kd.mono_iso _ (Kd.mono_pair (Kd.mono_const _) (Kd.mono_pair (Kd.mono_const _) (Kd.mono_pair (Kd.mono_slice 26 Kd.mono_id) (Kd.mono_slice 50 (Kd.mono_pair (Kd.mono_const _) Kd.mono_id)))))
def jE : List Nat := [26, 50]
theorem jsz : ∀ n, (Kd.upto JF 4 jE n).sz = 4 := Kd.upto_sz (fun _ => rfl)
/-- A value nested at most n deep; a member; a value of whatever depth. -/
def jd (n : Nat) : Kd JV := Kd.upto JF 4 jE n
def jm (n : Nat) : Kd (ByteArray × JV) := Kd.pair Kd.string (jd n)
/-- A value as a call's argument, a slot, a result. -/
def jcells (x : JV) (A2 : Option Addr) (c2 : Nat) (A3 : Option Addr) (c3 : Nat) : List Value := [.int .i64 x.kind, .string x.text, .slice A2 x.list.length c2, .slice A3 x.mem.length c3]

theorem jd_zero {w : World} {x : JV} {cs : List Value} (h : (jd 0).K w x cs) : False := h
theorem jd_open {n : Nat} {w : World} {x : JV} {cs : List Value} (h : (jd (n + 1)).K w x cs) :
    ∃ A2 c2 A3 c3, cs = jcells x A2 c2 A3 c3 ∧ x.list.length ≤ c2 ∧ (jd n).C w A2 x.list.length x.list ∧ x.mem.length ≤ c3 ∧ (jm n).C w A3 x.mem.length x.mem := by
  obtain ⟨_, _, rfl, rfl, _, _, rfl, rfl, _, _, rfl, ⟨A2, c2, rfl, l2, g2⟩, ⟨A3, c3, rfl, l3, g3⟩⟩ := h
  exact ⟨A2, c2, A3, c3, rfl, l2, g2, l3, g3⟩
theorem jd_mk (n : Nat) (w : World) (x : JV) {A2 : Option Addr} {c2 : Nat} {A3 : Option Addr} {c3 : Nat} (l2 : x.list.length ≤ c2) (g2 : (jd n).C w A2 x.list.length x.list) (l3 : x.mem.length ≤ c3) (g3 : (jm n).C w A3 x.mem.length x.mem) :
    (jd (n + 1)).K w x (jcells x A2 c2 A3 c3) :=
  ⟨[_], [_, _, _], rfl, rfl, [_], [_, _], rfl, rfl, [_], [_], rfl, ⟨A2, c2, rfl, l2, g2⟩, ⟨A3, c3, rfl, l3, g3⟩⟩
theorem jd_cells {n : Nat} {w : World} {x : JV} {cs : List Value} (h : (jd n).K w x cs) : ∃ m, n = m + 1 := by
  cases n with
  | zero => exact (jd_zero h).elim
  | succ m => exact ⟨m, rfl⟩
theorem jd_le {n m : Nat} (hnm : n ≤ m) {w : World} {x : JV} {cs : List Value} (h : (jd n).K w x cs) : (jd m).K w x cs := Kd.upto_K_le jmono jsz hnm h
/-- An element of a row of values. -/
theorem jv_at {n : Nat} {w : World} {A : Option Addr} {k : Nat} {xs : List JV} (h : (jd n).C w A k xs) (i : Nat) (h1 : i < k) :
    ∃ ad A2 c2 A3 c3, A = some ad ∧ (jd n).K w (xs.getD i jz) (jcells (xs.getD i jz) A2 c2 A3 c3) ∧
      w.cell? (ad.add (i * 4)) = some (.int .i64 (xs.getD i jz).kind) ∧ w.cell? ⟨(ad.add (i * 4)).block, (ad.add (i * 4)).off + 1, none⟩ = some (.string (xs.getD i jz).text) ∧
      w.cell? ⟨(ad.add (i * 4)).block, (ad.add (i * 4)).off + 2, none⟩ = some (.slice A2 (xs.getD i jz).list.length c2) ∧ w.cell? ⟨(ad.add (i * 4)).block, (ad.add (i * 4)).off + 3, none⟩ = some (.slice A3 (xs.getD i jz).mem.length c3) := by
  obtain ⟨ad, c, e, _, hK, hc0⟩ := Kd.C_get h jz (i : Int) (by omega) (by omega)
  have hs : (jd n).sz = 4 := jsz n
  rw [hs, Int.toNat_natCast] at hc0
  rw [Int.toNat_natCast] at hK
  obtain ⟨m, rfl⟩ := jd_cells hK
  obtain ⟨A2, c2, A3, c3, rfl, l2, g2, l3, g3⟩ := jd_open hK
  refine ⟨ad, A2, c2, A3, c3, e, hK, ?_, ?_, ?_, ?_⟩
  · have := hc0 0 _ rfl; rwa [Nat.add_zero] at this
  · rw [← add_field _ _ 1 (by omega)]; exact hc0 1 _ rfl
  · rw [← add_field _ _ 2 (by omega)]; exact hc0 2 _ rfl
  · rw [← add_field _ _ 3 (by omega)]; exact hc0 3 _ rfl
/-- A member. -/
theorem jm_at {n : Nat} {w : World} {A : Option Addr} {k : Nat} {xs : List (ByteArray × JV)} (h : (jm n).C w A k xs) (i : Nat) (h1 : i < k) :
    ∃ ad A2 c2 A3 c3, A = some ad ∧ (jd n).K w (xs.getD i (⟨#[]⟩, jz)).2 (jcells (xs.getD i (⟨#[]⟩, jz)).2 A2 c2 A3 c3) ∧
      w.cell? (ad.add (i * 5)) = some (.string (xs.getD i (⟨#[]⟩, jz)).1) ∧
      w.cell? ⟨(ad.add (i * 5)).block, (ad.add (i * 5)).off + 1, none⟩ = some (.int .i64 (xs.getD i (⟨#[]⟩, jz)).2.kind) ∧ w.cell? ⟨(ad.add (i * 5)).block, (ad.add (i * 5)).off + 2, none⟩ = some (.string (xs.getD i (⟨#[]⟩, jz)).2.text) ∧
      w.cell? ⟨(ad.add (i * 5)).block, (ad.add (i * 5)).off + 3, none⟩ = some (.slice A2 (xs.getD i (⟨#[]⟩, jz)).2.list.length c2) ∧ w.cell? ⟨(ad.add (i * 5)).block, (ad.add (i * 5)).off + 4, none⟩ = some (.slice A3 (xs.getD i (⟨#[]⟩, jz)).2.mem.length c3) := by
  obtain ⟨ad, c, e, _, hK, hc0⟩ := Kd.C_get h (⟨#[]⟩, jz) (i : Int) (by omega) (by omega)
  have hs : (jm n).sz = 5 := by show 1 + (jd n).sz = 5; rw [show (jd n).sz = 4 from jsz n]
  rw [hs, Int.toNat_natCast] at hc0
  rw [Int.toNat_natCast] at hK
  obtain ⟨_, c1, rfl, rfl, hK⟩ := hK
  obtain ⟨m, rfl⟩ := jd_cells hK
  obtain ⟨A2, c2, A3, c3, rfl, l2, g2, l3, g3⟩ := jd_open hK
  refine ⟨ad, A2, c2, A3, c3, e, hK, ?_, ?_, ?_, ?_, ?_⟩
  · have := hc0 0 _ rfl; rwa [Nat.add_zero] at this
  · rw [← add_field _ _ 1 (by omega)]; exact hc0 1 _ rfl
  · rw [← add_field _ _ 2 (by omega)]; exact hc0 2 _ rfl
  · rw [← add_field _ _ 3 (by omega)]; exact hc0 3 _ rfl
  · rw [← add_field _ _ 4 (by omega)]; exact hc0 4 _ rfl
end

section
open Go.RowKit Go.PlainAid

instance byteArrayEq : DecidableEq ByteArray := fun a b => decidable_of_iff (ints a = ints b) ⟨ints_inj, fun h => h ▸ rfl⟩
/-- Is it a digit's byte? -/
def isDig (b : Int) : Bool := decide (48 ≤ b) && decide (b ≤ 57)
/-- Does this byte stand at a place? -/
def isAt (s : ByteArray) (i : Nat) (b : Int) : Bool := decide (i < s.size) && decide (bt s i = b)
def digAt (s : ByteArray) (i : Nat) : Bool := decide (i < s.size) && isDig (bt s i)
/-- The place behind digits. -/
def digs (s : ByteArray) : Nat → Nat → Nat
  | 0, i => i
  | k + 1, i => if digAt s i = true then digs s k (i + 1) else i
def dgs (s : ByteArray) (i : Nat) : Nat := digs s (s.size - i) i
/-- A fault at a place: that the text ends there, or its byte. -/
def badAt (s : ByteArray) (i : Nat) : Int × Int := if s.size ≤ i then (s.size, 2) else (i, 1)

/-- Is a text written as a number? -/
def wrt (s : ByteArray) : Bool :=
  let i0 := if isAt s 0 45 = true then 1 else 0
  if digAt s i0 = false then false else
  let i1 := if isAt s i0 48 = true then i0 + 1 else dgs s i0
  if isAt s i1 46 = true ∧ digAt s (i1 + 1) = false then false else
  let i2 := if isAt s i1 46 = true then dgs s (i1 + 1) else i1
  if isAt s i2 101 = true ∨ isAt s i2 69 = true then
    let i3 := if isAt s (i2 + 1) 43 = true ∨ isAt s (i2 + 1) 45 = true then i2 + 2 else i2 + 1
    if digAt s i3 = false then false else decide (dgs s i3 = s.size)
  else decide (i2 = s.size)

/-- A number's end; or the place and the number of what is wrong. -/
def numAt (s : ByteArray) (at_ : Nat) : Int × Int :=
  let i0 := if isAt s at_ 45 = true then at_ + 1 else at_
  if digAt s i0 = false then badAt s i0 else
  let i1 := if isAt s i0 48 = true then i0 + 1 else dgs s i0
  if isAt s i1 46 = true ∧ digAt s (i1 + 1) = false then badAt s (i1 + 1) else
  let i2 := if isAt s i1 46 = true then dgs s (i1 + 1) else i1
  if isAt s i2 101 = true ∨ isAt s i2 69 = true then
    let i3 := if isAt s (i2 + 1) 43 = true ∨ isAt s (i2 + 1) 45 = true then i2 + 2 else i2 + 1
    if digAt s i3 = false then badAt s i3 else (dgs s i3, 0)
  else (i2, 0)

/-- The number of so many hexadecimal digits (r: of those ahead); or what is wrong: (value, place, number). -/
def unitAt (s : ByteArray) : Nat → Nat → Int → Int × Int × Int
  | 0, i, r => (r, i, 0)
  | k + 1, i, r => if i < s.size ∧ 0 ≤ hexd (bt s i) then unitAt s k (i + 1) (16 * r + hexd (bt s i)) else (0, badAt s i)
/-- The second half of a pair; below 0: none stands there. -/
def lowAt (s : ByteArray) (i : Nat) : Int :=
  if isAt s i 92 = true ∧ isAt s (i + 1) 117 = true ∧ (unitAt s 4 (i + 2) 0).2.2 = 0 ∧ 56320 ≤ (unitAt s 4 (i + 2) 0).1 ∧ (unitAt s 4 (i + 2) 0).1 ≤ 57343 then (unitAt s 4 (i + 2) 0).1 else -1
/-- What a byte behind a backslash means; below 0: nothing by itself. -/
def escOf (b : Int) : Int := if b = 98 then 8 else if b = 102 then 12 else if b = 110 then 10 else if b = 114 then 13 else if b = 116 then 9 else if b = 34 ∨ b = 92 ∨ b = 47 then b else -1
/-- The rune of an escape whose backslash stands at a place: the rune, the place behind it, a number; or what is wrong. -/
def escAt (s : ByteArray) (fr : Nat) : Int × Int × Int :=
  if s.size ≤ fr + 1 then (0, s.size, 2)
  else if 0 ≤ escOf (bt s (fr + 1)) then (escOf (bt s (fr + 1)), fr + 2, 0)
  else if bt s (fr + 1) ≠ 117 then (0, fr + 1, 1)
  else
    let u := unitAt s 4 (fr + 2) 0
    if u.2.2 ≠ 0 then u
    else if 55296 ≤ u.1 ∧ u.1 ≤ 56319 then (if lowAt s (fr + 6) < 0 then (0, fr, 4) else (65536 + (u.1 - 55296) * 1024 + lowAt s (fr + 6) - 56320, fr + 12, 0))
    else if 56320 ≤ u.1 ∧ u.1 ≤ 57343 then (0, fr, 4)
    else (u.1, fr + 6, 0)
/-- A string's runes behind its first quote, and the place behind it; or what is wrong. -/
def strK (s : ByteArray) : Nat → Nat → List Int → List Int × Int × Int
  | 0, i, acc => (acc, i, 0)
  | k + 1, i, acc =>
    if s.size ≤ i then ([], s.size, 2)
    else if bt s i = 34 then (acc, i + 1, 0)
    else if bt s i < 32 then ([], i, 1)
    else if bt s i = 92 then (if (escAt s i).2.2 = 0 then strK s k (escAt s i).2.1.toNat (acc ++ [(escAt s i).1]) else ([], (escAt s i).2.1, (escAt s i).2.2))
    else if (nx s i).2.2 = 0 then strK s k (i + (nx s i).2.1.toNat) (acc ++ [(nx s i).1]) else ([], i, (nx s i).2.2)
def strAt (s : ByteArray) (at_ : Nat) : List Int × Int × Int := if isAt s at_ 34 = true then strK s (s.size - at_) (at_ + 1) [] else ([], badAt s at_)

def txtOf (l : List Int) : ByteArray := strOfNums (l.map formL).flatten
/-- The names of members, as numbers. -/
def nms (l : List (ByteArray × JV)) : List (List Int) := l.map fun p => ints p.1
/-- Is a text well-formed? -/
def goodT (s : ByteArray) : Bool := decide ((dec s).2.2 = 0)
/-- Has a value something that its kind doesn't have? -/
def alienV (x : JV) : Bool := decide ((x.kind ≠ 3 ∧ x.kind ≠ 4 ∧ x.text.size ≠ 0) ∨ (x.kind ≠ 5 ∧ x.list.length ≠ 0) ∨ (x.kind ≠ 6 ∧ x.mem.length ≠ 0) ∨ (x.kind = 3 ∧ wrt x.text = false))
/-- Is one of the names one of those ahead of it? -/
def dupN : List (List Int) → List (List Int) → Bool
  | _, [] => false
  | seen, n :: l => decide (n ∈ seen) || dupN (seen ++ [n]) l
/-- The number of what is wrong with a value by itself, at a level. -/
def oneN (x : JV) (level : Int) : Int :=
  if 32 < level then 9 else if x.kind < 0 ∨ 6 < x.kind then 17 else if alienV x = true then 5
  else if x.kind = 4 ∧ goodT x.text = false then 1
  else if (x.mem.map Prod.fst).all goodT = false then 1
  else if dupN [] (nms x.mem) = true then 7 else 0
mutual
/-- How many values a value has. -/
def cntV : JV → Nat
  | ⟨_, _, l, m⟩ => 1 + cntL l + cntM m
def cntL : List JV → Nat
  | [] => 0
  | x :: l => cntV x + cntL l
def cntM : List (ByteArray × JV) → Nat
  | [] => 0
  | (_, x) :: l => cntV x + cntM l
end
mutual
/-- How many values, and bytes of texts and names. -/
def totV : JV → Nat
  | ⟨_, t, l, m⟩ => 1 + t.size + totL l + totM m
def totL : List JV → Nat
  | [] => 0
  | x :: l => totV x + totL l
def totM : List (ByteArray × JV) → Nat
  | [] => 0
  | (n, x) :: l => n.size + totV x + totM l
end
/-- A byte in a text in quotes. -/
def hexl (n : Int) : Int := if n < 10 then 48 + n else 87 + n
def quo1 (b : Int) : List Int :=
  if b = 34 ∨ b = 92 then [92, b] else if 32 ≤ b then [b] else if b = 8 then [92, 98] else if b = 9 then [92, 116] else if b = 10 then [92, 110] else if b = 12 then [92, 102] else if b = 13 then [92, 114]
  else [92, 117, 48, 48, hexl (b / 16), hexl (b % 16)]
def quo (l : List Int) : List Int := 34 :: ((l.map quo1).flatten ++ [34])
end

section
open Go.RowKit Go.PlainAid

/-- A reader: the text, and the place up to which it was read. -/
def Rd (b : Nat) (s : ByteArray) (i : Nat) (w : World) : Prop := w.heap[b]? = some (.cells #[.string s, .int .i64 i] 79 (0, 0))
theorem Rd.c0 {b i : Nat} {s : ByteArray} {w : World} (h : Rd b s i w) : w.cell? ⟨b, 0, none⟩ = some (.string s) := by rw [Lib.cell_of_heap h]; rfl
theorem Rd.c1 {b i : Nat} {s : ByteArray} {w : World} (h : Rd b s i w) : w.cell? ⟨b, 1, none⟩ = some (.int .i64 i) := by rw [Lib.cell_of_heap h]; rfl
theorem Rd.f1 {b i : Nat} {s : ByteArray} {w : World} (h : Rd b s i w) : w.frozen? ⟨b, 1, none⟩ = false := Lib.frozen_of_heap h 1
theorem Rd.lt {b i : Nat} {s : ByteArray} {w : World} (h : Rd b s i w) : b < w.heap.size := (Array.getElem?_eq_some_iff.1 h).1
theorem Rd.set {b i : Nat} {s : ByteArray} {w : World} (h : Rd b s i w) (j : Nat) : Rd b s j (w.setCell ⟨b, 1, none⟩ (.int .i64 j)) := by
  unfold Rd at *
  simp [World.setCell, Array.getElem?_modify, h]
theorem Rd.kept {b i : Nat} {s : ByteArray} {w w' : World} {row : Option Nat} (h : Rd b s i w) (hg : w.grownBy w' row) (hr : some b ≠ row) : Rd b s i w' := (hg.block b h.lt hr).trans h
theorem Rd.drewN {b i : Nat} {s : ByteArray} {w : World} (h : Rd b s i w) (n : Nat) : Rd b s i (w.drewN n) := h
theorem Rd.below {b i : Nat} {s : ByteArray} {w w' : World} (h : Rd b s i w) (hb : Below w.heap.size w w') : Rd b s i w' := (hb.block b h.lt).trans h

theorem grown_below {w w' : World} (h : Below w.heap.size w w') (row : Option Nat) : w.grownBy w' row := ⟨h.os, h.tape, h.output, h.size, fun k hk _ => h.block k hk⟩
theorem grown_cell {w w' : World} {b : Nat} (h : w.grownBy w' (some b)) (o : Nat) (v : Value) : w.grownBy (w'.setCell ⟨b, o, none⟩ v) (some b) :=
  h.trans ⟨rfl, rfl, rfl, by simp [World.setCell], fun k _ hk => Below.heap_setCell _ _ _ _ (fun e => hk (by rw [e]))⟩

theorem sent_ne {w : World} {g b i t : Nat} {s : ByteArray} {v : Value} (h : w.cell? ⟨g, 0, none⟩ = some (.iface t v)) (hr : Rd b s i w) : some g ≠ some b := by
  intro e
  injection e with e
  subst e
  rw [hr.c0] at h
  simp at h
theorem Sents.grown {E : Nat → Addr} {w w' : World} {b i : Nat} {s : ByteArray} (h : Sents E w) (hr : Rd b s i w) (hg : w.grownBy w' (some b)) : Sents E w' :=
  ⟨hg.cell h.et (sent_ne h.et hr), hg.cell h.c1 (sent_ne h.c1 hr), hg.cell h.c2 (sent_ne h.c2 hr), fun a => hg.cell (h.c3 a) (sent_ne (h.c3 a) hr), hg.cell h.c4 (sent_ne h.c4 hr), hg.cell h.c5 (sent_ne h.c5 hr), fun a => hg.cell (h.c6 a) (sent_ne (h.c6 a) hr), hg.cell h.c7 (sent_ne h.c7 hr), fun a => hg.cell (h.c8 a) (sent_ne (h.c8 a) hr), hg.cell h.c9 (sent_ne h.c9 hr), fun a => hg.cell (h.c10 a) (sent_ne (h.c10 a) hr), fun a => hg.cell (h.c11 a) (sent_ne (h.c11 a) hr), fun a => hg.cell (h.c12 a) (sent_ne (h.c12 a) hr), fun a => hg.cell (h.c13 a) (sent_ne (h.c13 a) hr), fun a => hg.cell (h.c14 a) (sent_ne (h.c14 a) hr), fun a => hg.cell (h.c15 a) (sent_ne (h.c15 a) hr), fun a => hg.cell (h.c16 a) (sent_ne (h.c16 a) hr), hg.cell h.c17 (sent_ne h.c17 hr), fun a => hg.cell (h.c18 a) (sent_ne (h.c18 a) hr)⟩

/-- A call that returns, the reader then being at a place; nothing else that was there turns. -/
def Ret (b : Nat) (s : ByteArray) (v : Value) (j : Nat) (w : World) (e : Ending) (w' : World) : Prop := e = .returned v ∧ Hid (Rd b s j w') ∧ Hid (w.grownBy w' (some b))
/-- A call that gives up, with a named error at a place. -/
def Thr (E : Nat → Addr) (b : Nat) (s : ByteArray) (at_ n : Int) (w : World) (e : Ending) (w' : World) : Prop :=
  ∃ p, e = .panicked [{ v := .iface 69 (.pointer (some p)), recovered := false }] ∧ Hid (ErrV E w' (.iface 69 (.pointer (some p))) at_ n) ∧ Hid (w.grownBy w' (some b)) ∧ Hid (∃ j, Rd b s j w')
theorem index_in (t : ByteArray) (c : Int) (h0 : 0 ≤ c) (h1 : c ≤ 255) : ∃ v : Int, (∀ w, Calls Tryd.prog 72 #[.string t, .int .u8 c] w fun e w' => e = .returned (.int .i64 v) ∧ w' = w) ∧ (0 ≤ v ↔ c ∈ ints t) := by
  refine ⟨_, fun w => strings_IndexByte t c w, ?_⟩
  have hge := Lib.indexByte_ge t.data.toList c.toNat.toUInt8
  constructor
  · intro h
    obtain ⟨o, ho⟩ : ∃ o : Nat, Lib.indexByte t.data.toList c.toNat.toUInt8 = o := ⟨(Lib.indexByte t.data.toList c.toNat.toUInt8).toNat, by omega⟩
    obtain ⟨g1, _⟩ := Lib.indexByte_some ho
    unfold ints
    exact List.mem_map.2 ⟨_, List.mem_of_getElem? g1, (u8_of c h0 h1 _).1 rfl⟩
  · intro h
    rcases Int.lt_or_le (Lib.indexByte t.data.toList c.toNat.toUInt8) 0 with hlt | hle
    · exfalso
      obtain ⟨b, hb, hc⟩ := List.mem_map.1 h
      obtain ⟨k, hk⟩ := List.getElem?_of_mem hb
      exact Lib.indexByte_none (by omega) k (hk.trans (congrArg some ((u8_of c h0 h1 b).2 hc)))
    · exact hle

/-- Does one of some bytes stand at a place? -/
def anyAt (s : ByteArray) (i : Nat) (l : List Int) : Bool := decide (i < s.size) && decide (bt s i ∈ l)

end

section
open Go.RowKit Go.PlainAid

theorem digAt_lt {s : ByteArray} {i : Nat} (h : digAt s i = true) : i < s.size := by
  unfold digAt at h
  simp at h
  exact h.1
theorem digs_le (s : ByteArray) : ∀ k i : Nat, i + k = s.size → i ≤ digs s k i ∧ digs s k i ≤ s.size
  | 0, i, h => by simp [digs]; omega
  | k + 1, i, h => by
    unfold digs
    split
    · have := digs_le s k (i + 1) (by omega); omega
    · omega

end

section
open Go.RowKit Go.PlainAid

theorem anyAt_one (s : ByteArray) (i : Nat) (c : Int) : anyAt s i [c] = isAt s i c := by simp [anyAt, isAt]
theorem anyAt_two (s : ByteArray) (i : Nat) (c d : Int) : anyAt s i [c, d] = (isAt s i c || isAt s i d) := by
  unfold anyAt isAt
  by_cases h : i < s.size <;> simp [h]

theorem Thr.pre {E : Nat → Addr} {b : Nat} {s : ByteArray} {at_ n : Int} {w w1 w2 : World} {e : Ending} (hg : w.grownBy w1 (some b)) (h : Thr E b s at_ n w1 e w2) : Thr E b s at_ n w e w2 := by
  obtain ⟨p, h1, h2, h3, h4⟩ := h
  exact ⟨p, h1, h2, hg.trans h3.out, h4⟩
theorem Ret.pre {b j : Nat} {s : ByteArray} {v : Value} {w w1 w2 : World} {e : Ending} (hg : w.grownBy w1 (some b)) (h : Ret b s v j w1 e w2) : Ret b s v j w e w2 := ⟨h.1, h.2.1, hg.trans h.2.2.out⟩

def NumIs (E : Nat → Addr) (b : Nat) (s : ByteArray) (at_ : Nat) (w : World) (e : Ending) (w' : World) : Prop :=
  ((numAt s at_).2 = 0 ∧ Ret b s (.string (s.extract at_ (numAt s at_).1.toNat)) (numAt s at_).1.toNat w e w') ∨ ((numAt s at_).2 ≠ 0 ∧ Thr E b s (numAt s at_).1 (numAt s at_).2 w e w')
theorem NumIs.good {E : Nat → Addr} {b : Nat} {s : ByteArray} {at_ j : Nat} {w w' : World} {e : Ending} (h : numAt s at_ = ((j : Int), 0)) (hr : Ret b s (.string (s.extract at_ j)) j w e w') : NumIs E b s at_ w e w' := .inl (by rw [h]; exact ⟨rfl, hr⟩)
theorem badAt_ne (s : ByteArray) (i : Nat) : (badAt s i).2 ≠ 0 := by unfold badAt; split <;> simp
theorem NumIs.bad {E : Nat → Addr} {b : Nat} {s : ByteArray} {at_ j : Nat} {w w' : World} {e : Ending} (h : numAt s at_ = badAt s j) (hr : Thr E b s (badAt s j).1 (badAt s j).2 w e w') : NumIs E b s at_ w e w' := .inr (by rw [h]; exact ⟨badAt_ne s j, hr⟩)
theorem isAt_lt {s : ByteArray} {i : Nat} {c : Int} (h : isAt s i c = true) : i < s.size ∧ bt s i = c := by simpa [isAt] using h
theorem dgs_le (s : ByteArray) (i : Nat) (h : i ≤ s.size) : i ≤ dgs s i ∧ dgs s i ≤ s.size := digs_le s (s.size - i) i (by omega)
end

section
open Go.RowKit Go.PlainAid

def UnitIs (E : Nat → Addr) (b : Nat) (s : ByteArray) (i : Nat) (w : World) (e : Ending) (w' : World) : Prop :=
  ((unitAt s 4 i 0).2.2 = 0 ∧ Ret b s (.int .i32 (unitAt s 4 i 0).1) (i + 4) w e w') ∨ ((unitAt s 4 i 0).2.2 ≠ 0 ∧ Thr E b s (unitAt s 4 i 0).2.1 (unitAt s 4 i 0).2.2 w e w')
theorem UnitIs.good {E : Nat → Addr} {b : Nat} {s : ByteArray} {i : Nat} {r x : Int} {w w' : World} {e : Ending} (h : unitAt s 4 i 0 = (r, x, 0)) (hr : Ret b s (.int .i32 r) (i + 4) w e w') : UnitIs E b s i w e w' := .inl (by rw [h]; exact ⟨rfl, hr⟩)
theorem UnitIs.bad {E : Nat → Addr} {b : Nat} {s : ByteArray} {i j : Nat} {w w' : World} {e : Ending} (h : unitAt s 4 i 0 = (0, badAt s j)) (hr : Thr E b s (badAt s j).1 (badAt s j).2 w e w') : UnitIs E b s i w e w' := .inr (by rw [h]; exact ⟨badAt_ne s j, hr⟩)
end

end Go.Proofs.YtpdpgppaoipnlaaDoor

