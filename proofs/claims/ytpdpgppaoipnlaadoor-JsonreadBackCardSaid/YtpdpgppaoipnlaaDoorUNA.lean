/- What the claim uses of the text NA. -/
import Derived.Test.YtpdpgppaoipnlaaDoorUJ1
import Derived.Test.YtpdpgppaoipnlaaDoorUJ4
import Derived.Test.YtpdpgppaoipnlaaDoorUK1
import Derived.Test.YtpdpgppaoipnlaaDoorUUtfLaw
set_option linter.unusedVariables false
set_option linter.unusedSimpArgs false
namespace Go.Proofs.YtpdpgppaoipnlaaDoor
section
open Go.RowKit Go.PlainAid

theorem wdgs_more (s : ByteArray) (j : Nat) (h : digAt s j = true) : dgs s (j + 1) = dgs s j := by
  unfold dgs
  have hj := digAt_lt h
  obtain ⟨k, hk⟩ : ∃ k, s.size - j = k + 1 := ⟨s.size - j - 1, by omega⟩
  rw [hk, show s.size - (j + 1) = k by omega]
  conv => rhs; unfold digs
  rw [if_pos h]
theorem wdgs_stop (s : ByteArray) (j : Nat) (h : digAt s j = false) : dgs s j = j := by
  unfold dgs
  cases hk : s.size - j with
  | zero => rfl
  | succ k => unfold digs; rw [if_neg (by simp [h])]
/-- Written's own variables: the place (block a), the text (block b). -/
structure Wr (a b : Nat) (s : ByteArray) (i : Nat) (w : World) : Prop where
  p : w.heap[a]? = some (.cells #[.int .i64 i] 3 (0, 0))
  t : w.heap[b]? = some (.cells #[.string s] 9 (0, 0))
theorem Wr.c1 {a b i : Nat} {s : ByteArray} {w : World} (h : Wr a b s i w) : w.cell? ⟨a, 0, none⟩ = some (.int .i64 i) := by rw [Lib.cell_of_heap h.p]; rfl
theorem Wr.c0 {a b i : Nat} {s : ByteArray} {w : World} (h : Wr a b s i w) : w.cell? ⟨b, 0, none⟩ = some (.string s) := by rw [Lib.cell_of_heap h.t]; rfl
theorem Wr.f1 {a b i : Nat} {s : ByteArray} {w : World} (h : Wr a b s i w) : w.frozen? ⟨a, 0, none⟩ = false := Lib.frozen_of_heap h.p 0
theorem Wr.ne {a b i : Nat} {s : ByteArray} {w : World} (h : Wr a b s i w) : b ≠ a := by
  rintro rfl
  have h1 := h.p
  rw [h.t] at h1
  simp at h1
theorem Wr.set {a b i : Nat} {s : ByteArray} {w : World} (h : Wr a b s i w) (j : Nat) : Wr a b s j (w.setCell ⟨a, 0, none⟩ (.int .i64 j)) := by
  refine ⟨?_, (Below.heap_setCell _ _ _ _ h.ne).trans h.t⟩
  have := h.p
  simp [World.setCell, Array.getElem?_modify, this]
def WRet (a b : Nat) (s : ByteArray) (v : Value) (j : Nat) (w : World) (e : Ending) (w' : World) : Prop := e = .returned v ∧ Hid (Wr a b s j w') ∧ Hid (w.grownBy w' (some a))

set_option maxHeartbeats 400000 in
theorem w3_any (c : Int) (w : World) (h0 : 0 ≤ c) (h1 : c ≤ 255) : Calls Tryd.prog 73 #[.int .u8 c] w fun e w' => e = .returned (.bool (isDig c)) ∧ w = w' := by
  by_cases h48 : 48 ≤ c
  · have e1 : decide (48 ≤ c) = true := by simpa using h48
    by_cases h57 : c ≤ 57
    · have e2 : decide (c ≤ 57) = true := by simpa using h57
      have HA : Hid (isDig c = true) := by show _ = _; simp [isDig, h48, h57]
      go_enter Tryd.func73, Tryd.ntmps73
      go_wp2
      go_ret
      exact ⟨by rw [HA.out]; rfl, rfl⟩
    · have e2 : decide (c ≤ 57) = false := by simpa using h57
      have HA : Hid (isDig c = false) := by show _ = _; simp [isDig, h57]
      go_enter Tryd.func73, Tryd.ntmps73
      go_wp2
      go_ret
      exact ⟨by rw [HA.out]; rfl, rfl⟩
  · have e1 : decide (48 ≤ c) = false := by simpa using h48
    have HA : Hid (isDig c = false) := by show _ = _; simp [isDig, h48]
    go_enter Tryd.func73, Tryd.ntmps73
    go_wp2
    go_ret
    exact ⟨by rw [HA.out]; rfl, rfl⟩

set_option maxHeartbeats 1000000 in
theorem w2_yes (a b : Nat) (s : ByteArray) (i : Nat) (t : ByteArray) (w : World) (hl : s.size ≤ 1000000) (hr : Wr a b s i w) (h : anyAt s i (ints t) = true) :
    Calls Tryd.prog 71 #[.string t, .pointer (some ⟨a, 0, none⟩), .pointer (some ⟨b, 0, none⟩)] w (WRet a b s (.bool true) (i + 1) w) := by
  obtain ⟨hi, hm⟩ : i < s.size ∧ bt s i ∈ ints t := by simpa [anyAt] using h
  have HR := Lib.hid hr
  have d0 := hr.c0
  have d1 := hr.c1
  have f1 := hr.f1
  have hbt := get_bt s
  clear hr
  have hlt : decide (i < s.size) = true := by simpa using hi
  obtain ⟨v, hv, hvm⟩ := index_in t (bt s i) (bt_nonneg _ _) (bt_le _ _)
  have HV := Lib.hid hv
  have hv0 : decide (0 ≤ v) = true := by simpa using hvm.2 hm
  clear hv hvm hm h
  go_enter Tryd.func71, Tryd.ntmps71
  go_wp2_with (first | (go_at_call 72; refine (HV.out _).mono ?_; rintro e w' ⟨rfl, rfl⟩))
  go_ret
  have := HR.out.set (i + 1)
  push_cast at this
  exact ⟨rfl, this, grown_cell (World.grownBy.refl _ _) _ _⟩
set_option maxHeartbeats 1000000 in
theorem w2_no (a b : Nat) (s : ByteArray) (i : Nat) (t : ByteArray) (w : World) (hl : s.size ≤ 1000000) (hr : Wr a b s i w) (h : anyAt s i (ints t) = false) :
    Calls Tryd.prog 71 #[.string t, .pointer (some ⟨a, 0, none⟩), .pointer (some ⟨b, 0, none⟩)] w (WRet a b s (.bool false) i w) := by
  have HR := Lib.hid hr
  have d0 := hr.c0
  have d1 := hr.c1
  have f1 := hr.f1
  have hbt := get_bt s
  clear hr
  by_cases hi : i < s.size
  · have hlt : decide (i < s.size) = true := by simpa using hi
    have hm : ¬ bt s i ∈ ints t := by simpa [anyAt, hi] using h
    obtain ⟨v, hv, hvm⟩ := index_in t (bt s i) (bt_nonneg _ _) (bt_le _ _)
    have HV := Lib.hid hv
    have hv0 : decide (0 ≤ v) = false := by simp; have := mt hvm.1 hm; omega
    clear hv hvm hm h
    go_enter Tryd.func71, Tryd.ntmps71
    go_wp2_with (first | (go_at_call 72; refine (HV.out _).mono ?_; rintro e w' ⟨rfl, rfl⟩))
    go_ret
    exact ⟨rfl, HR.out, World.grownBy.refl _ _⟩
  · have hlt : decide (i < s.size) = false := by simpa using hi
    clear h
    go_enter Tryd.func71, Tryd.ntmps71
    go_wp2_with fail
    go_ret
    exact ⟨rfl, HR.out, World.grownBy.refl _ _⟩

set_option maxHeartbeats 2000000 in
set_option maxRecDepth 100000 in
theorem w1_any (a b : Nat) (s : ByteArray) (i : Nat) (w : World) (hl : s.size ≤ 1000000) (hi : i ≤ s.size) (hr : Wr a b s i w) :
    Calls Tryd.prog 70 #[.func (.func 73) #[] #[], .pointer (some ⟨a, 0, none⟩), .pointer (some ⟨b, 0, none⟩)] w (WRet a b s (.int .i64 ((dgs s i : Int) - i)) (dgs s i) w) := by
  have HR := Lib.hid hr
  have d1 := hr.c1
  clear hr
  go_enter Tryd.func70, Tryd.ntmps70
  go_wp2_with fail
  go_loopg [] (s.size - i) (fun k w' => ∃ j : Nat, Hid (s.size - j = k) ∧ i ≤ j ∧ j ≤ s.size ∧ Hid (dgs s j = dgs s i) ∧ Hid (Wr a b s j w') ∧ Hid (w.grownBy w' (some a)))
  case atStart => exact ⟨i, rfl, Nat.le_refl _, hi, rfl, HR.out, World.grownBy.refl _ _⟩
  case round =>
    obtain ⟨j, HI, hij, hj, HD, HRj, HG⟩ := hrel
    clear HR d1
    have d0 := HRj.out.c0
    have d1 := HRj.out.c1
    have f1 := HRj.out.f1
    have hbt := get_bt s
    cases hdj : digAt s j with
    | true =>
      have hjl := digAt_lt hdj
      have hlt : decide (j < s.size) = true := by simpa using hjl
      have HM := Lib.hid (wdgs_more s j hdj)
      have hdg : isDig (bt s j) = true := by simpa [digAt, hjl] using hdj
      have HC := Lib.hid (fun (W : World) => w3_any (bt s j) W (bt_nonneg _ _) (bt_le _ _))
      rw [hdg] at HC
      obtain ⟨k1, rfl⟩ : ∃ k1, gk = k1 + 1 := ⟨gk - 1, by have := HI.out; omega⟩
      clear hdj hdg
      go_wp2_with (first | (go_at_call 73; refine (HC.out _).mono ?_; rintro e w' ⟨rfl, rfl⟩))
      go_roundg k1
      case measure => omega
      case rel =>
        have := HRj.out.set (j + 1)
        push_cast at this
        exact ⟨j + 1, by have := HI.out; show _ = _; omega, by omega, by omega, HM.out.trans HD.out, this, grown_cell HG.out _ _⟩
    | false =>
      have HM := Lib.hid (wdgs_stop s j hdj)
      have HE : Hid (dgs s i = j) := by show _ = _; rw [← HD.out, HM.out]
      by_cases hjl : j < s.size
      · have hlt : decide (j < s.size) = true := by simpa using hjl
        have hdg : isDig (bt s j) = false := by simpa [digAt, hjl] using hdj
        have HC := Lib.hid (fun (W : World) => w3_any (bt s j) W (bt_nonneg _ _) (bt_le _ _))
        rw [hdg] at HC
        clear hdj hdg HD HM
        go_wp2_with (first | (go_at_call 73; refine (HC.out _).mono ?_; rintro e w' ⟨rfl, rfl⟩))
        go_ret
        rw [HE.out]
        exact ⟨rfl, HRj.out, HG.out⟩
      · have hlt : decide (j < s.size) = false := by simpa using hjl
        clear hdj HD HM
        go_wp2_with fail
        go_ret
        rw [HE.out]
        exact ⟨rfl, HRj.out, HG.out⟩
end

section
open Go.RowKit Go.PlainAid

theorem w2_is (a b : Nat) (s : ByteArray) (i : Nat) (t : ByteArray) (w : World) (z : Bool) (j : Nat) (hl : s.size ≤ 1000000) (hr : Wr a b s i w) (h : anyAt s i (ints t) = z) (hj : (if z = true then i + 1 else i) = j) :
    Calls Tryd.prog 71 #[.string t, .pointer (some ⟨a, 0, none⟩), .pointer (some ⟨b, 0, none⟩)] w (WRet a b s (.bool z) j w) := by
  cases z with
  | true => rw [if_pos rfl] at hj; subst hj; exact w2_yes a b s i t w hl hr h
  | false => rw [if_neg (by simp)] at hj; subst hj; exact w2_no a b s i t w hl hr h
theorem w1_is (a b : Nat) (s : ByteArray) (i : Nat) (w : World) (n : Int) (j : Nat) (hl : s.size ≤ 1000000) (hi : i ≤ s.size) (hr : Wr a b s i w) (hj : dgs s i = j) (hn : (j : Int) - i = n) :
    Calls Tryd.prog 70 #[.func (.func 73) #[] #[], .pointer (some ⟨a, 0, none⟩), .pointer (some ⟨b, 0, none⟩)] w (WRet a b s (.int .i64 n) j w) := by
  subst hj hn
  exact w1_any a b s i w hl hi hr
theorem below_grown' {w W w' : World} {a : Nat} (h : Below w.heap.size w W) (hg : W.grownBy w' (some a)) (ha : w.heap.size ≤ a) : Below w.heap.size w w' :=
  ⟨hg.os.trans h.os, hg.tape.trans h.tape, hg.output.trans h.output, Nat.le_trans h.size hg.size, fun k hk => (hg.block k (Nat.lt_of_lt_of_le hk h.size) (by simp; omega)).trans (h.block k hk)⟩
theorem wdgs_lt (s : ByteArray) (i : Nat) (h : digAt s i = true) : i < dgs s i ∧ dgs s i ≤ s.size := by
  have := wdgs_more s i h
  have hl := digAt_lt h
  have := dgs_le s (i + 1) (by omega)
  omega
def wrt3 (s : ByteArray) (i2 : Nat) : Bool :=
  if isAt s i2 101 = true ∨ isAt s i2 69 = true then
    if digAt s (if isAt s (i2 + 1) 43 = true ∨ isAt s (i2 + 1) 45 = true then i2 + 2 else i2 + 1) = false then false
    else decide (dgs s (if isAt s (i2 + 1) 43 = true ∨ isAt s (i2 + 1) 45 = true then i2 + 2 else i2 + 1) = s.size)
  else decide (i2 = s.size)
def wrt2 (s : ByteArray) (i1 : Nat) : Bool := if isAt s i1 46 = true ∧ digAt s (i1 + 1) = false then false else wrt3 s (if isAt s i1 46 = true then dgs s (i1 + 1) else i1)
def wrt1 (s : ByteArray) (i0 : Nat) : Bool := if digAt s i0 = false then false else wrt2 s (if isAt s i0 48 = true then i0 + 1 else dgs s i0)
theorem wrt_eq (s : ByteArray) : wrt s = wrt1 s (if isAt s 0 45 = true then 1 else 0) := rfl

set_option maxHeartbeats 4000000 in
set_option maxRecDepth 100000 in
theorem Written_any (s : ByteArray) (w : World) (hl : s.size ≤ 1000000) :
    Calls Tryd.prog 37 #[.string s] w fun e w' => e = .returned (.bool (wrt s)) ∧ Hid (Below w.heap.size w w') := by
  have hmf : ∀ (fn : Fn) (first cap : Array Value) (w : World), (Instr.makeFunc fn first cap).run Tryd.prog w = .ok (.func fn first cap) w := fun _ _ _ _ => rfl
  have HR0 : Hid (Wr (w.heap.size + 1) w.heap.size s 0 ((w.alloc (.cells #[.string s] 9)).alloc (.cells #[.int .i64 0] 3))) := ⟨by have := Go.heap_alloc_new (w.alloc (.cells #[.string s] 9)) (.cells #[.int .i64 0] 3); simpa using this, (Go.heap_alloc_old _ _ (by simp)).trans (Go.heap_alloc_new w _)⟩
  have HB0 : Hid (Below w.heap.size w ((w.alloc (.cells #[.string s] 9)).alloc (.cells #[.int .i64 0] 3))) := by show Below _ _ _; go_grown
  obtain ⟨z0, Hz0⟩ : ∃ z, Hid (isAt s 0 45 = z) := ⟨_, rfl⟩
  obtain ⟨i0, Hi0⟩ : ∃ i : Nat, Hid ((if z0 = true then 0 + 1 else 0) = i) := ⟨if z0 = true then 0 + 1 else 0, rfl⟩
  have HW : Hid (wrt s = wrt1 s i0) := by show _ = _; rw [wrt_eq, Hz0.out]; exact congrArg _ Hi0.out
  have hi0 : i0 ≤ s.size := by
    rw [← Hi0.out]
    cases z0 with
    | true => have := (isAt_lt Hz0.out).1; simp; omega
    | false => simp
  go_enter Tryd.func37, Tryd.ntmps37
  go_wp2_with fail
  refine (w2_is (w.heap.size + 1) w.heap.size s 0 ⟨#[45]⟩ _ z0 i0 hl HR0.out (by rw [show ints ⟨#[45]⟩ = [45] from rfl, anyAt_one]; exact Hz0.out) Hi0.out).mono ?_
  rintro e w1 ⟨rfl, HR1, HG1⟩
  have HB1 := Lib.hid (below_grown' HB0.out HG1.out (by omega))
  clear HR0 HB0 HG1
  obtain ⟨z1, Hz1⟩ : ∃ z, Hid (isAt s i0 48 = z) := ⟨_, rfl⟩
  obtain ⟨j1, Hj1⟩ : ∃ i : Nat, Hid ((if z1 = true then i0 + 1 else i0) = i) := ⟨_, rfl⟩
  obtain ⟨n1, Hn1⟩ : ∃ n, Hid (((dgs s i0 : Nat) : Int) - i0 = n) := ⟨_, rfl⟩
  by_cases hd0 : digAt s i0 = false
  · have HF : Hid (wrt s = false) := by show _ = _; rw [HW.out]; unfold wrt1; rw [if_pos hd0]
    have hz1 : z1 = false := by
      rw [← Hz1.out]
      cases h : isAt s i0 48 with
      | false => rfl
      | true =>
        obtain ⟨h1, h2⟩ : i0 < s.size ∧ bt s i0 = 48 := by simpa [isAt] using h
        simp [digAt, h1, h2, isDig] at hd0
    subst hz1
    obtain rfl : i0 = j1 := Hj1.out
    have hn0 : n1 = 0 := by rw [← Hn1.out, wdgs_stop s i0 hd0]; omega
    have en : (n1 == 0) = true := by simpa using hn0
    clear hd0 hn0 HW
    go_wp2_with fail
    refine (w2_is (w.heap.size + 1) w.heap.size s i0 ⟨#[48]⟩ _ false i0 hl HR1.out (by rw [show ints ⟨#[48]⟩ = [48] from rfl, anyAt_one]; exact Hz1.out) rfl).mono ?_
    rintro e w2 ⟨rfl, HR2, HG2⟩
    have HB2 := Lib.hid (below_grown' HB1.out HG2.out (by omega))
    clear HG2
    go_wp2_with fail
    refine (w1_is (w.heap.size + 1) w.heap.size s i0 _ n1 _ hl hi0 HR2.out rfl Hn1.out).mono ?_
    rintro e w3 ⟨rfl, HR3, HG3⟩
    have HB3 := Lib.hid (below_grown' HB2.out HG3.out (by omega))
    clear HG3
    go_wp2_with fail
    go_ret
    exact ⟨by rw [HF.out]; rfl, HB3.out⟩
  · have hd1 : digAt s i0 = true := by simpa using hd0
    obtain ⟨i1, Hi1⟩ : ∃ i, Hid ((if z1 = true then i0 + 1 else dgs s i0) = i) := ⟨_, rfl⟩
    have HW1 : Hid (wrt s = wrt2 s i1) := by show _ = _; rw [HW.out]; unfold wrt1; rw [if_neg hd0, Hz1.out]; exact congrArg _ Hi1.out
    have hdl := wdgs_lt s i0 hd1
    have hi0l := digAt_lt hd1
    have hi1 : i1 ≤ s.size := by
      rw [← Hi1.out]
      cases z1 with
      | true => simp; omega
      | false => simp; omega
    have en : (n1 == 0) = false := by rw [beq_eq_false_iff_ne, ← Hn1.out]; omega
    clear hd0 hd1 HW
    go_upto_region 6 with (fail)
    go_cut [19] (fun v wc => v = .bool false ∧ Hid (Wr (w.heap.size + 1) w.heap.size s i1 wc) ∧ Hid (Below w.heap.size w wc))
    case first =>
      cases z1 with
      | true =>
        obtain rfl : i0 + 1 = j1 := Hj1.out
        obtain rfl : i0 + 1 = i1 := Hi1.out
        go_wp2_with fail
        refine (w2_is (w.heap.size + 1) w.heap.size s i0 ⟨#[48]⟩ _ true (i0 + 1) hl HR1.out (by rw [show ints ⟨#[48]⟩ = [48] from rfl, anyAt_one]; exact Hz1.out) rfl).mono ?_
        rintro e w2 ⟨rfl, HR2, HG2⟩
        have HB2 := Lib.hid (below_grown' HB1.out HG2.out (by omega))
        go_wp2_with fail
        go_meet
        case rel => exact ⟨rfl, HR2.out, HB2.out⟩
      | false =>
        obtain rfl : i0 = j1 := Hj1.out
        go_wp2_with fail
        refine (w2_is (w.heap.size + 1) w.heap.size s i0 ⟨#[48]⟩ _ false i0 hl HR1.out (by rw [show ints ⟨#[48]⟩ = [48] from rfl, anyAt_one]; exact Hz1.out) rfl).mono ?_
        rintro e w2 ⟨rfl, HR2, HG2⟩
        have HB2 := Lib.hid (below_grown' HB1.out HG2.out (by omega))
        clear HG2
        go_wp2_with fail
        refine (w1_is (w.heap.size + 1) w.heap.size s i0 _ n1 i1 hl hi0 HR2.out Hi1.out (by rw [← Hn1.out]; have := Hi1.out; simp at this; rw [this])).mono ?_
        rintro e w3 ⟨rfl, HR3, HG3⟩
        have HB3 := Lib.hid (below_grown' HB2.out HG3.out (by omega))
        go_wp2_with fail
        go_meet
        case rel => exact ⟨rfl, HR3.out, HB3.out⟩
    case rest =>
      obtain ⟨rfl, HR2, HB2⟩ := hcut
      clear HR1 HB1 Hz1 Hj1 Hn1 Hi1 Hz0 Hi0 en
      obtain ⟨z2, Hz2⟩ : ∃ z, Hid (isAt s i1 46 = z) := ⟨_, rfl⟩
      obtain ⟨n2, Hn2⟩ : ∃ n, Hid (((dgs s (i1 + 1) : Nat) : Int) - ((i1 + 1 : Nat) : Int) = n) := ⟨_, rfl⟩
      by_cases hbad : isAt s i1 46 = true ∧ digAt s (i1 + 1) = false
      · have HF : Hid (wrt s = false) := by show _ = _; rw [HW1.out]; unfold wrt2; rw [if_pos hbad]
        obtain rfl : true = z2 := by rw [← Hz2.out]; exact hbad.1.symm
        have hil := (isAt_lt hbad.1).1
        have hn0 : n2 = 0 := by rw [← Hn2.out, wdgs_stop s (i1 + 1) hbad.2]; omega
        have en : (n2 == 0) = true := by simpa using hn0
        clear hbad hn0 HW1
        go_wp2_with fail
        refine (w2_is (w.heap.size + 1) w.heap.size s i1 ⟨#[46]⟩ _ true (i1 + 1) hl HR2.out (by rw [show ints ⟨#[46]⟩ = [46] from rfl, anyAt_one]; exact Hz2.out) rfl).mono ?_
        rintro e w3 ⟨rfl, HR3, HG3⟩
        have HB3 := Lib.hid (below_grown' HB2.out HG3.out (by omega))
        clear HG3
        go_wp2_with fail
        refine (w1_is (w.heap.size + 1) w.heap.size s (i1 + 1) _ n2 _ hl (by omega) HR3.out rfl Hn2.out).mono ?_
        rintro e w4 ⟨rfl, HR4, HG4⟩
        have HB4 := Lib.hid (below_grown' HB3.out HG4.out (by omega))
        clear HG4
        go_wp2_with fail
        go_ret
        exact ⟨by rw [HF.out]; rfl, HB4.out⟩
      · obtain ⟨i2, Hi2⟩ : ∃ i : Nat, Hid ((if z2 = true then dgs s (i1 + 1) else i1) = i) := ⟨_, rfl⟩
        have HW2 : Hid (wrt s = wrt3 s i2) := by show _ = _; rw [HW1.out]; unfold wrt2; rw [if_neg hbad, Hz2.out]; exact congrArg _ Hi2.out
        have HNB := Lib.hid hbad
        have hi2 : i2 ≤ s.size := by
          rw [← Hi2.out]
          cases z2 with
          | true =>
            have := (isAt_lt Hz2.out).1
            have := dgs_le s (i1 + 1) (by omega)
            simp; omega
          | false => simpa using hi1
        clear hbad HW1
        go_upto_region 8 with (fail)
        go_cut [27] (fun v wc => v = .bool false ∧ Hid (Wr (w.heap.size + 1) w.heap.size s i2 wc) ∧ Hid (Below w.heap.size w wc))
        case first =>
          cases z2 with
          | false =>
            obtain rfl : i1 = i2 := Hi2.out
            go_wp2_with fail
            refine (w2_is (w.heap.size + 1) w.heap.size s i1 ⟨#[46]⟩ _ false i1 hl HR2.out (by rw [show ints ⟨#[46]⟩ = [46] from rfl, anyAt_one]; exact Hz2.out) rfl).mono ?_
            rintro e w3 ⟨rfl, HR3, HG3⟩
            have HB3 := Lib.hid (below_grown' HB2.out HG3.out (by omega))
            go_wp2_with fail
            go_meet
            case rel => exact ⟨rfl, HR3.out, HB3.out⟩
          | true =>
            have hil := (isAt_lt Hz2.out).1
            have hd2 : digAt s (i1 + 1) = true := by
              cases h : digAt s (i1 + 1) with
              | true => rfl
              | false => exact absurd ⟨Hz2.out, h⟩ HNB.out
            have hdl2 := wdgs_lt s (i1 + 1) hd2
            have en : (n2 == 0) = false := by rw [beq_eq_false_iff_ne, ← Hn2.out]; omega
            clear hd2
            go_wp2_with fail
            refine (w2_is (w.heap.size + 1) w.heap.size s i1 ⟨#[46]⟩ _ true (i1 + 1) hl HR2.out (by rw [show ints ⟨#[46]⟩ = [46] from rfl, anyAt_one]; exact Hz2.out) rfl).mono ?_
            rintro e w3 ⟨rfl, HR3, HG3⟩
            have HB3 := Lib.hid (below_grown' HB2.out HG3.out (by omega))
            clear HG3
            go_wp2_with fail
            refine (w1_is (w.heap.size + 1) w.heap.size s (i1 + 1) _ n2 i2 hl (by omega) HR3.out Hi2.out (by rw [← Hn2.out]; have := Hi2.out; simp at this; rw [this])).mono ?_
            rintro e w4 ⟨rfl, HR4, HG4⟩
            have HB4 := Lib.hid (below_grown' HB3.out HG4.out (by omega))
            go_wp2_with fail
            go_meet
            case rel => exact ⟨rfl, HR4.out, HB4.out⟩
        case rest =>
          obtain ⟨rfl, HR3, HB3⟩ := hcut
          clear HR2 HB2 Hz2 Hn2 Hi2 HNB
          obtain ⟨z3, Hz3⟩ : ∃ z, Hid ((isAt s i2 101 || isAt s i2 69) = z) := ⟨_, rfl⟩
          cases z3 with
          | false =>
            have hne : ¬ (isAt s i2 101 = true ∨ isAt s i2 69 = true) := by have := Hz3.out; simpa using this
            obtain ⟨z5, Hz5⟩ : ∃ z, Hid (decide (i2 = s.size) = z) := ⟨_, rfl⟩
            have HF : Hid (wrt s = z5) := by show _ = _; rw [HW2.out]; unfold wrt3; rw [if_neg hne, Hz5.out]
            have e5 : ((i2 : Int) == (s.size : Int)) = z5 := by rw [← Hz5.out]; by_cases h : i2 = s.size <;> simp [h]; omega
            have e6 : (i2 == s.size) = z5 := by rw [← Hz5.out]; by_cases h : i2 = s.size <;> simp [h]
            clear hne HW2
            go_wp2_with fail
            refine (w2_is (w.heap.size + 1) w.heap.size s i2 ⟨#[101, 69]⟩ _ false i2 hl HR3.out (by rw [show ints ⟨#[101, 69]⟩ = [101, 69] from rfl, anyAt_two]; exact Hz3.out) rfl).mono ?_
            rintro e w4 ⟨rfl, HR4, HG4⟩
            have HB4 := Lib.hid (below_grown' HB3.out HG4.out (by omega))
            clear HG4
            have q1 := HR4.out.c1
            have q0 := HR4.out.c0
            go_wp2_with fail
            go_ret
            exact ⟨by rw [HF.out]; rfl, HB4.out⟩
          | true =>
            have hex : isAt s i2 101 = true ∨ isAt s i2 69 = true := by have := Hz3.out; simpa using this
            have hi2l : i2 < s.size := by
              rcases hex with h | h
              · exact (isAt_lt h).1
              · exact (isAt_lt h).1
            obtain ⟨z4, Hz4⟩ : ∃ z, Hid ((isAt s (i2 + 1) 43 || isAt s (i2 + 1) 45) = z) := ⟨_, rfl⟩
            obtain ⟨i3, Hi3⟩ : ∃ i : Nat, Hid ((if z4 = true then i2 + 1 + 1 else i2 + 1) = i) := ⟨_, rfl⟩
            have hsg : (if isAt s (i2 + 1) 43 = true ∨ isAt s (i2 + 1) 45 = true then i2 + 2 else i2 + 1) = i3 := by
              rw [← Hi3.out, ← Hz4.out]
              by_cases h : isAt s (i2 + 1) 43 = true ∨ isAt s (i2 + 1) 45 = true
              · rw [if_pos h, if_pos (by simpa using h)]
              · rw [if_neg h, if_neg (by simpa using h)]
            have hi3 : i3 ≤ s.size := by
              rw [← Hi3.out]
              cases z4 with
              | true =>
                have h4 := Hz4.out
                have : i2 + 1 < s.size := by
                  simp at h4
                  rcases h4 with h | h
                  · exact (isAt_lt h).1
                  · exact (isAt_lt h).1
                simp; omega
              | false => simp; omega
            have HW3 : Hid (wrt s = if digAt s i3 = false then false else decide (dgs s i3 = s.size)) := by show _ = _; rw [HW2.out]; unfold wrt3; rw [if_pos hex, hsg]
            obtain ⟨n3, Hn3⟩ : ∃ n, Hid (((dgs s i3 : Nat) : Int) - (i3 : Int) = n) := ⟨_, rfl⟩
            clear hex hsg HW2
            have key : ∀ zz : Bool, (n3 == 0) = zz → Hid (wrt s = if zz = true then false else decide (dgs s i3 = s.size)) → Hid (digAt s i3 = !zz) := by
              intro zz h1 h2
              show _ = _
              cases hd : digAt s i3 with
              | false =>
                rw [← Hn3.out, wdgs_stop s i3 hd] at h1
                rw [← h1]; simp
              | true =>
                have := wdgs_lt s i3 hd
                have : (n3 == 0) = false := by rw [beq_eq_false_iff_ne, ← Hn3.out]; omega
                rw [← h1, this]; rfl
            cases hd3 : digAt s i3 with
            | false =>
              have HF : Hid (wrt s = false) := by show _ = _; rw [HW3.out, if_pos hd3]
              have hn0 : n3 = 0 := by rw [← Hn3.out, wdgs_stop s i3 hd3]; omega
              have en : (n3 == 0) = true := by simpa using hn0
              clear key HW3 hd3 hn0
              go_wp2_with fail
              refine (w2_is (w.heap.size + 1) w.heap.size s i2 ⟨#[101, 69]⟩ _ true (i2 + 1) hl HR3.out (by rw [show ints ⟨#[101, 69]⟩ = [101, 69] from rfl, anyAt_two]; exact Hz3.out) rfl).mono ?_
              rintro e w4 ⟨rfl, HR4, HG4⟩
              have HB4 := Lib.hid (below_grown' HB3.out HG4.out (by omega))
              clear HG4
              go_wp2_with fail
              refine (w2_is (w.heap.size + 1) w.heap.size s (i2 + 1) ⟨#[43, 45]⟩ _ z4 i3 hl HR4.out (by rw [show ints ⟨#[43, 45]⟩ = [43, 45] from rfl, anyAt_two]; exact Hz4.out) Hi3.out).mono ?_
              rintro e w5 ⟨rfl, HR5, HG5⟩
              have HB5 := Lib.hid (below_grown' HB4.out HG5.out (by omega))
              clear HG5
              go_wp2_with fail
              refine (w1_is (w.heap.size + 1) w.heap.size s i3 _ n3 _ hl hi3 HR5.out rfl Hn3.out).mono ?_
              rintro e w6 ⟨rfl, HR6, HG6⟩
              have HB6 := Lib.hid (below_grown' HB5.out HG6.out (by omega))
              clear HG6
              go_wp2_with fail
              go_ret
              exact ⟨by rw [HF.out]; rfl, HB6.out⟩
            | true =>
              obtain ⟨z5, Hz5⟩ : ∃ z, Hid (decide (dgs s i3 = s.size) = z) := ⟨_, rfl⟩
              have HF : Hid (wrt s = z5) := by show _ = _; rw [HW3.out, if_neg (by rw [hd3]; simp), Hz5.out]
              have hdl3 := wdgs_lt s i3 hd3
              have en : (n3 == 0) = false := by rw [beq_eq_false_iff_ne, ← Hn3.out]; omega
              have e5 : (((dgs s i3 : Nat) : Int) == (s.size : Int)) = z5 := by rw [← Hz5.out]; by_cases h : dgs s i3 = s.size <;> simp [h]; omega
              have e6 : (dgs s i3 == s.size) = z5 := by rw [← Hz5.out]; by_cases h : dgs s i3 = s.size <;> simp [h]
              clear key HW3 hd3
              go_wp2_with fail
              refine (w2_is (w.heap.size + 1) w.heap.size s i2 ⟨#[101, 69]⟩ _ true (i2 + 1) hl HR3.out (by rw [show ints ⟨#[101, 69]⟩ = [101, 69] from rfl, anyAt_two]; exact Hz3.out) rfl).mono ?_
              rintro e w4 ⟨rfl, HR4, HG4⟩
              have HB4 := Lib.hid (below_grown' HB3.out HG4.out (by omega))
              clear HG4
              go_wp2_with fail
              refine (w2_is (w.heap.size + 1) w.heap.size s (i2 + 1) ⟨#[43, 45]⟩ _ z4 i3 hl HR4.out (by rw [show ints ⟨#[43, 45]⟩ = [43, 45] from rfl, anyAt_two]; exact Hz4.out) Hi3.out).mono ?_
              rintro e w5 ⟨rfl, HR5, HG5⟩
              have HB5 := Lib.hid (below_grown' HB4.out HG5.out (by omega))
              clear HG5
              go_wp2_with fail
              refine (w1_is (w.heap.size + 1) w.heap.size s i3 _ n3 _ hl hi3 HR5.out rfl Hn3.out).mono ?_
              rintro e w6 ⟨rfl, HR6, HG6⟩
              have HB6 := Lib.hid (below_grown' HB5.out HG6.out (by omega))
              clear HG6
              have q1 := HR6.out.c1
              have q0 := HR6.out.c0
              go_wp2_with fail
              go_ret
              exact ⟨by rw [HF.out]; rfl, HB6.out⟩
end

section
open Go.RowKit Go.PlainAid
open Go.Proofs.YtpdpgppaoipnlaaDoorW.PrintWords hiding bt
open Go.Proofs.YtpdpgppaoipnlaaDoorW.PrintMore

def alB (k : Int) (tb lb mb wr : Bool) : Bool := if k = 3 then (!wr || (lb || mb)) else if k = 4 then (lb || mb) else if k = 5 then (tb || mb) else if k = 6 then (tb || lb) else (tb || (lb || mb))
theorem alien_eq (k : Int) (t : ByteArray) (l : List JV) (m : List (ByteArray × JV)) : alienV ⟨k, t, l, m⟩ = alB k (decide (t.size ≠ 0)) (decide (0 < l.length)) (decide (0 < m.length)) (wrt t) := by
  unfold alienV alB
  dsimp only
  by_cases hl : l.length = 0 <;> by_cases hm : m.length = 0 <;> by_cases ht : t.size = 0 <;> by_cases k3 : k = 3 <;> by_cases k4 : k = 4 <;> by_cases k5 : k = 5 <;> by_cases k6 : k = 6 <;> cases hw : wrt t <;> simp_all [Nat.pos_iff_ne_zero]

theorem empty_size (t : ByteArray) : t.size = 0 ↔ t = ⟨#[]⟩ := by
  constructor
  · intro h
    cases t with
    | mk d =>
      congr
      exact Array.eq_empty_of_size_eq_zero h
  · rintro rfl; rfl
theorem toList_nil (t : ByteArray) : t.toList = [] ↔ t = ⟨#[]⟩ := by
  rw [ByteArray.toList_eq]
  constructor
  · intro h
    cases t with
    | mk d => congr; simpa using h
  · rintro rfl; rfl

set_option maxHeartbeats 4000000 in
set_option maxRecDepth 100000 in
theorem alien_any (n : Nat) (x : JV) (cs : List Value) (w : World) (hk : (jd n).K w x cs) (hl : x.text.size ≤ 1000000) :
    Calls Tryd.prog 97 #[.agg cs.toArray] w fun e w' => e = .returned (.bool (alienV x)) ∧ Hid (Below w.heap.size w w') := by
  obtain ⟨n, rfl⟩ := jd_cells hk
  obtain ⟨A2, c2, A3, c3, rfl, l2, g2, l3, g3⟩ := jd_open hk
  obtain ⟨k, t, l, m⟩ := x
  have s2 : l.length ≤ 9223372036854775807 := g2.2.1
  have s3 : m.length ≤ 9223372036854775807 := g3.2.1
  clear hk g2 g3
  change Calls _ _ #[.agg #[.int .i64 k, .string t, .slice A2 l.length c2, .slice A3 m.length c3]] _ _
  have hB0 : Hid (Below w.heap.size w (w.alloc (.cells #[.int .i64 k, .string t, .slice A2 l.length c2, .slice A3 m.length c3] 26))) := (Below.refl _ _).alloc (Nat.le_refl _) _
  have HA := Lib.hid (alien_eq k t l m)
  obtain ⟨lb, hlb⟩ : ∃ b, decide (0 < l.length) = b := ⟨_, rfl⟩
  obtain ⟨mb, hmb⟩ : ∃ b, decide (0 < m.length) = b := ⟨_, rfl⟩
  rw [hlb, hmb] at HA
  have hlb' : decide ((0 : Int) < (l.length : Int)) = lb := by rw [← hlb]; simp
  have hmb' : decide ((0 : Int) < (m.length : Int)) = mb := by rw [← hmb]; simp
  obtain ⟨nb, hnb⟩ : ∃ b, t.toList.isEmpty = b := ⟨_, rfl⟩
  have hnb2 : (t.toList == []) = nb := by rw [← hnb]; cases t.toList <;> rfl
  have htb : decide (t.size ≠ 0) = !nb := by
    rw [← hnb]
    by_cases h : t.size = 0
    · rw [(empty_size t).1 h]; have : (⟨#[]⟩ : ByteArray).toList = [] := (toList_nil _).2 rfl; simp [this]; rfl
    · have : t.toList ≠ [] := fun e => h ((empty_size t).2 ((toList_nil t).1 e))
      simp [h, this]
  rw [htb] at HA
  clear htb
  have HW := Lib.hid (fun (W : World) => Written_any t W hl)
  obtain ⟨wb, hwb⟩ : ∃ b, wrt t = b := ⟨_, rfl⟩
  rw [hwb] at HA HW
  clear hwb
  by_cases k3 : k = 3
  · subst k3
    cases wb <;> cases lb <;> cases mb
    all_goals
      go_enter Tryd.func97, Tryd.ntmps97
      go_wp2_with fail
      go_quiet (fail)
      go_wp2_with (first | (go_at_call 37; refine (HW.out _).mono ?_; rintro e w4 ⟨rfl, hb4⟩; have HBw := Lib.hid (below_then hB0.out hB0.out.size (below_then (pw_below_drewN (Below.refl _ _) _) (Nat.le_refl _) hb4.out)); clear hb4))
      go_ret
      exact ⟨by rw [HA.out]; cases nb <;> rfl, HBw.out⟩
  · by_cases k4 : k = 4
    · subst k4
      cases lb <;> cases mb
      all_goals
        go_enter Tryd.func97, Tryd.ntmps97
        go_wp2_with fail
        go_quiet (fail)
        go_wp2_with fail
        all_goals (go_ret; exact ⟨by rw [HA.out]; first | rfl | (cases nb <;> rfl) | (cases lb <;> rfl) | (cases mb <;> rfl), pw_below_drewN hB0.out _⟩)
    · by_cases k5 : k = 5
      · subst k5
        cases nb <;> cases mb
        all_goals
          go_enter Tryd.func97, Tryd.ntmps97
          go_wp2_with fail
          go_quiet (fail)
          go_wp2_with fail
          all_goals (go_ret; exact ⟨by rw [HA.out]; first | rfl | (cases nb <;> rfl) | (cases lb <;> rfl) | (cases mb <;> rfl), pw_below_drewN hB0.out _⟩)
      · by_cases k6 : k = 6
        · subst k6
          cases nb <;> cases lb
          all_goals
            go_enter Tryd.func97, Tryd.ntmps97
            go_wp2_with fail
            go_quiet (fail)
            go_wp2_with fail
            all_goals (go_ret; exact ⟨by rw [HA.out]; first | rfl | (cases nb <;> rfl) | (cases lb <;> rfl) | (cases mb <;> rfl), pw_below_drewN hB0.out _⟩)
        · have e3 : (k == 3) = false := by rw [beq_eq_false_iff_ne]; exact k3
          have e4 : (k == 4) = false := by rw [beq_eq_false_iff_ne]; exact k4
          have e5 : (k == 5) = false := by rw [beq_eq_false_iff_ne]; exact k5
          have e6 : (k == 6) = false := by rw [beq_eq_false_iff_ne]; exact k6
          have HA2 : Hid (alienV ⟨k, t, l, m⟩ = (!nb || (lb || mb))) := by show _ = _; rw [HA.out]; unfold alB; rw [if_neg k3, if_neg k4, if_neg k5, if_neg k6]
          clear HA k3 k4 k5 k6
          cases nb <;> cases lb <;> cases mb
          all_goals
            go_enter Tryd.func97, Tryd.ntmps97
            go_wp2_with fail
            go_quiet (fail)
            go_wp2_with fail
            all_goals (go_ret; exact ⟨by rw [HA2.out]; first | rfl | (cases nb <;> rfl) | (cases lb <;> rfl) | (cases mb <;> rfl), pw_below_drewN hB0.out _⟩)
end

section
open Go.RowKit Go.PlainAid
open Go.Proofs.YtpdpgppaoipnlaaDoorW.PrintWords hiding bt
open Go.Proofs.YtpdpgppaoipnlaaDoorW.PrintMore

theorem dupN_snoc : ∀ (s l : List (List Int)) (n : List Int), dupN s (l ++ [n]) = (dupN s l || decide (n ∈ s ++ l))
  | s, [], n => by simp [dupN]
  | s, x :: l, n => by
    have := dupN_snoc (s ++ [x]) l n
    simp only [List.cons_append, dupN, this]
    rw [Bool.or_assoc]
    congr 2
    simp
theorem wpl_seen_put2 {ops : Array Oper} {rest : List Oper} {a : Act} {w : World} {Q : Exit → Act → World → Prop} {dst : Option Tmp} {m x v : Operand} {ty : TypeId} {pos : String} {after : Array Edge} {mb N : Nat} {f : ByteArray → Int} {t : ByteArray} {c : Int}
    (H : SeenF mb N f w) (ht : t.size ≤ 1000000) (hN : N ≤ 1000000) (hc : 0 ≤ c ∧ c ≤ 1000001) (hx : a.eval m = .map (some mb)) (hy : a.eval x = .string t) (hv : a.eval v = .int .i64 c)
    (h : ∀ w', SeenF mb (N + 1) (fun u => if u = t then c else f u) w' → w.grownBy w' (some mb) → wpList Tryd.prog ops Q rest (a.put dst undef) w') :
    wpList Tryd.prog ops Q ({ dst := dst, op := .mapUpdate 130 m x v, type := ty, pos := pos, after := after, guard := none } :: rest) a w := by
  obtain ⟨D, n, h1, h2, h3, h4⟩ := H
  have hM : (1000001 : Nat) ≤ maxLen := by decide
  refine wpList_mapUpdate_own w rfl m x v 130 rfl 9 3 strKeyed Tryd.underlying130 (plainElem Tryd.prog 3) mb n D hx h1 (by omega) (.string t) (.int .i64 c) (keyLit t) hy hv (key_lit t ht) (.lit (.int .i64 c)) [] ?_ ?_
  · have hw : (Lit.int .i64 c).wf = true := by simp [Lit.wf, IntKind.min, IntKind.max, IntKind.bits, IntKind.signed]; omega
    simp [plainElem, Tryd.underlying3, hw]
  · intro w' g1 g2
    refine h w' ⟨_, n + 1, g1, h2.put _ _, by omega, fun u => ?_⟩ g2
    by_cases e : u = t
    · subst e
      rw [Maps.atKey_put_same h2 (strKeyed.key (key_lit u ht))]; simp
    · rw [Maps.atKey_put_other (fun h => e (keyLit_inj h)), h4 u]; simp [e]
/-- A lookup that is guarded, and wanted. -/
theorem wpl_seen_lookG {ops : Array Oper} {rest : List Oper} {a : Act} {w : World} {Q : Exit → Act → World → Prop} {o : Oper} {m x : Operand} {mb N : Nat} {f : ByteArray → Int} {t : ByteArray}
    (H : SeenF mb N f w) (ht : t.size ≤ 1000000) (hw : Region.wanted o (yielded ops a.tmps) = true) (ho : o.op = .lookup 130 m x false) (hx : a.eval m = .map (some mb)) (hy : a.eval x = .string t) (h : wpList Tryd.prog ops Q rest (a.put o.dst (.int .i64 (f t))) w) :
    wpList Tryd.prog ops Q (o :: rest) a w := by
  obtain ⟨D, n, h1, h2, h3, h4⟩ := H
  refine wpList_step fun K' hK' => ?_
  rw [if_pos hw]
  obtain ⟨c, hrun, hat, hwc⟩ := h1.lookup_int strKeyed Tryd.underlying130 Tryd.underlying3 (zero_int w) (key_lit t ht)
  unfold Oper.wp
  simp [execOp, ho, hx, hy, hrun, Result.andThen]
  rw [h4 t] at hat
  injection hat with hat
  injection hat with _ hat
  rw [← hat]
  exact hK' _ _ h
/-- A named error, by its number. -/
def named (E : Nat → Addr) (c : Int) : Value := if c = 0 then .nilIface else .iface 180 (.pointer (some (E c.toNat)))
theorem named_0 (E : Nat → Addr) : named E 0 = .nilIface := rfl
theorem named_k (E : Nat → Addr) (k : Nat) (h : k ≠ 0) : named E k = .iface 180 (.pointer (some (E k))) := by unfold named; rw [if_neg (by omega)]; simp
def WrongIs (E : Nat → Addr) (c : Int) (w : World) (e : Ending) (w' : World) : Prop := e = .returned (named E c) ∧ Hid (Below w.heap.size w w')
theorem WrongIs.mk {E : Nat → Addr} {c : Int} {k : Nat} {w w' : World} (h : c = k) (hk : k ≠ 0) (hb : Below w.heap.size w w') : WrongIs E c w (.returned (.iface 180 (.pointer (some (E k))))) w' := by
  subst h
  exact ⟨by rw [named_k E k hk], hb⟩

theorem nms_take (m : List (ByteArray × JV)) (k : Nat) (h : k < m.length) : nms (m.take (k + 1)) = nms (m.take k) ++ [ints (m.getD k (⟨#[]⟩, jz)).1] := by
  unfold nms
  rw [List.take_succ_eq_append_getElem h, List.map_append, List.getD_eq_getElem?_getD, List.getElem?_eq_getElem h]
  rfl
theorem SeenF.block {mb N : Nat} {f : ByteArray → Int} {w w' : World} (h : SeenF mb N f w) (hh : w'.heap[mb]? = w.heap[mb]?) : SeenF mb N f w' := by
  obtain ⟨D, n, ⟨es, clock, hb, r⟩, h2⟩ := h
  exact ⟨D, n, ⟨es, clock, hh.trans hb, r⟩, h2⟩
theorem all_good (m : List (ByteArray × JV)) : (m.map Prod.fst).all goodT = true ↔ ∀ j, j < m.length → goodT (m.getD j (⟨#[]⟩, jz)).1 = true := by
  rw [List.all_eq_true]
  constructor
  · intro h j hj
    rw [List.getD_eq_getElem?_getD, List.getElem?_eq_getElem hj]
    exact h _ (List.mem_map.2 ⟨_, List.getElem_mem hj, rfl⟩)
  · intro h t ht
    obtain ⟨p, hp, rfl⟩ := List.mem_map.1 ht
    obtain ⟨j, hj, rfl⟩ := List.getElem_of_mem hp
    have := h j hj
    rwa [List.getD_eq_getElem?_getD, List.getElem?_eq_getElem hj] at this

set_option maxHeartbeats 4000000 in
set_option maxRecDepth 100000 in
theorem wrong_any {E : Nat → Addr} (n : Nat) (x : JV) (cs : List Value) (lev : Int) (w : World) (hs : Sents E w) (hk : (jd n).K w x cs) (hl : x.text.size ≤ 1000000) (hm : x.mem.length ≤ 100000) (hn : ∀ p ∈ x.mem, p.1.size ≤ 1000000) :
    Calls Tryd.prog 64 #[.agg cs.toArray, .int .i64 lev] w (WrongIs E (oneN x lev) w) := by
  have hK := hk
  obtain ⟨n, rfl⟩ := jd_cells hk
  obtain ⟨A2, c2, A3, c3, rfl, l2, g2, l3, g3⟩ := jd_open hk
  change Calls _ _ #[.agg #[.int .i64 x.kind, .string x.text, .slice A2 x.list.length c2, .slice A3 x.mem.length c3], _] _ _
  have HB0 : Hid (Below w.heap.size w (w.alloc (.cells #[.int .i64 x.kind, .string x.text, .slice A2 x.list.length c2, .slice A3 x.mem.length c3] 26))) := (Below.refl _ _).alloc (Nat.le_refl _) _
  have HS0 := Lib.hid (hs.below HB0.out)
  have hmk : ∀ w, (Instr.makeMap 130 none).run Tryd.prog w = .ok (.map (some w.heap.size)) (w.alloc (.map #[] 0)) := fun _ => rfl
  have HK0 := Lib.hid ((jd (n + 1)).K_below HB0.out hK)
  have HG3 := Lib.hid (Kd.C_below g3 HB0.out)
  have HR0 : Hid (Row 26 w.heap.size #[.int .i64 x.kind, .string x.text, .slice A2 x.list.length c2, .slice A3 x.mem.length c3] (w.alloc (.cells #[.int .i64 x.kind, .string x.text, .slice A2 x.list.length c2, .slice A3 x.mem.length c3] 26))) := Row.new w _ _ rfl
  have HN := Lib.hid hn
  clear hk hK g2 g3 hs hn
  by_cases h1 : 32 < lev
  · have HF : Hid (oneN x lev = ((9 : Nat) : Int)) := by show _ = _; unfold oneN; rw [if_pos h1]; rfl
    have e1 : decide (32 < lev) = true := by simpa using h1
    have s9 := HS0.out.c9
    go_enter Tryd.func64, Tryd.ntmps64
    go_wp2_with fail
    go_ret
    exact WrongIs.mk HF.out (by omega) HB0.out
  · have e1 : decide (32 < lev) = false := by simpa using h1
    by_cases h2 : x.kind < 0 ∨ 6 < x.kind
    · have HF : Hid (oneN x lev = ((17 : Nat) : Int)) := by show _ = _; unfold oneN; rw [if_neg h1, if_pos h2]; rfl
      have s17 := HS0.out.c17
      by_cases h3 : x.kind < 0
      · have e2 : decide (x.kind < 0) = true := by simpa using h3
        clear h2
        go_enter Tryd.func64, Tryd.ntmps64
        go_wp2_with fail
        go_ret
        exact WrongIs.mk HF.out (by omega) HB0.out
      · have e2 : decide (x.kind < 0) = false := by simpa using h3
        have e3 : decide (6 < x.kind) = true := by simp; omega
        clear h2
        go_enter Tryd.func64, Tryd.ntmps64
        go_wp2_with fail
        go_ret
        exact WrongIs.mk HF.out (by omega) HB0.out
    · have e2 : decide (x.kind < 0) = false := by simp; omega
      have e3 : decide (6 < x.kind) = false := by simp; omega
      have HAL : Hid (∀ W, Below (w.alloc (.cells #[.int .i64 x.kind, .string x.text, .slice A2 x.list.length c2, .slice A3 x.mem.length c3] 26)).heap.size (w.alloc (.cells #[.int .i64 x.kind, .string x.text, .slice A2 x.list.length c2, .slice A3 x.mem.length c3] 26)) W → Calls Tryd.prog 97 #[.agg #[.int .i64 x.kind, .string x.text, .slice A2 x.list.length c2, .slice A3 x.mem.length c3]] W fun e w' => e = .returned (.bool (alienV x)) ∧ Hid (Below W.heap.size W w')) := fun W hW => alien_any _ x _ W ((jd (n + 1)).K_below hW HK0.out) hl
      obtain ⟨za, Hza⟩ : ∃ z, Hid (alienV x = z) := ⟨_, rfl⟩
      rw [Hza.out] at HAL
      cases za with
      | true =>
        have HF : Hid (oneN x lev = ((5 : Nat) : Int)) := by show _ = _; unfold oneN; rw [if_neg h1, if_neg h2, if_pos Hza.out]; rfl
        clear h2
        go_enter Tryd.func64, Tryd.ntmps64
        go_wp2_with (first | (go_at_call 97; refine (HAL.out _ (Below.refl _ _)).mono ?_; rintro e w1 ⟨rfl, hb1⟩; have HB1 := Lib.hid (below_then HB0.out HB0.out.size hb1.out); have s5 := (HS0.out.below hb1.out).c5; clear hb1))
        go_ret
        exact WrongIs.mk HF.out (by omega) HB1.out
      | false =>
        have HAW : Hid (∀ W, Sents E W → ∀ t : ByteArray, t.size ≤ 1000000 → Calls Tryd.prog 98 #[.string t] W fun e w' => e = .returned (.bool (goodT t)) ∧ Below W.heap.size W w') := fun W hW t ht => utf_Valid_any t W ht hW _ rfl
        by_cases h4 : x.kind = 4 ∧ goodT x.text = false
        · have HF : Hid (oneN x lev = ((1 : Nat) : Int)) := by show _ = _; unfold oneN; rw [if_neg h1, if_neg h2, if_neg (by rw [Hza.out]; simp), if_pos h4]; rfl
          have e4 : (x.kind == 4) = true := by simpa using h4.1
          have HGT := Lib.hid h4.2
          clear h2 h4
          go_enter Tryd.func64, Tryd.ntmps64
          go_wp2_with (first | (go_at_call 97; refine (HAL.out _ (Below.refl _ _)).mono ?_; rintro e w1 ⟨rfl, hb1⟩; have HB1 := Lib.hid (below_then HB0.out HB0.out.size hb1.out); have HS1 := Lib.hid (HS0.out.below hb1.out); have HR1 := Lib.hid (HR0.out.below hb1.out); have d0 := HR1.out.cell 0 _ rfl; have d1 := HR1.out.cell 1 _ rfl; clear hb1))
          refine (HAW.out _ HS1.out x.text hl).mono ?_
          rintro e w2 ⟨rfl, hb2⟩
          rw [HGT.out]
          have HB2 := Lib.hid (below_then HB1.out HB1.out.size hb2)
          have s1 := (HS1.out.below hb2).c1
          clear hb2
          go_wp2_with fail
          go_ret
          exact WrongIs.mk HF.out (by omega) HB2.out
        · have HO : Hid (oneN x lev = if (x.mem.map Prod.fst).all goodT = false then 1 else if dupN [] (nms x.mem) = true then 7 else 0) := by
            show _ = _; unfold oneN; rw [if_neg h1, if_neg h2, if_neg (by rw [Hza.out]; simp), if_neg h4]
          have H4 := Lib.hid h4
          clear h2 h4
          go_enter Tryd.func64, Tryd.ntmps64
          go_upto_region 7 with (first | (go_at_call 97; refine (HAL.out _ (Below.refl _ _)).mono ?_; rintro e w1 ⟨rfl, hb1⟩; have HB1 := Lib.hid (below_then HB0.out HB0.out.size hb1.out); have HS1 := Lib.hid (HS0.out.below hb1.out); have HR1 := Lib.hid (HR0.out.below hb1.out); have HG1 := Lib.hid (Kd.C_below HG3.out hb1.out); have d0 := HR1.out.cell 0 _ rfl; have d1 := HR1.out.cell 1 _ rfl; clear hb1))
          go_cut [27] (fun v wc => v = .bool false ∧ Hid (Below w1.heap.size w1 wc))
          case first =>
            by_cases hk4 : x.kind = 4
            · have e4 : (x.kind == 4) = true := by simpa using hk4
              have hgt : goodT x.text = true := by
                cases h : goodT x.text with
                | true => rfl
                | false => exact absurd ⟨hk4, h⟩ H4.out
              have HGT := Lib.hid hgt
              clear hk4 hgt
              go_wp2_with fail
              refine (HAW.out _ HS1.out x.text hl).mono ?_
              rintro e w2 ⟨rfl, hb2⟩
              rw [HGT.out]
              go_wp2_with fail
              go_meet
              case rel => exact ⟨rfl, hb2⟩
            · have e4 : (x.kind == 4) = false := by rw [beq_eq_false_iff_ne]; exact hk4
              clear hk4
              go_wp2_with fail
              go_meet
              case rel => exact ⟨rfl, Below.refl _ _⟩
          case rest =>
            obtain ⟨rfl, HBc⟩ := hcut
            have HB2 := Lib.hid (below_then HB1.out HB1.out.size HBc.out)
            have HS2 := Lib.hid (HS1.out.below HBc.out)
            have HR2 := Lib.hid (HR1.out.below HBc.out)
            have HG2 := Lib.hid (Kd.C_below HG1.out HBc.out)
            have HM0 := Lib.hid (Seen.made wc).open
            have c3' := HR2.out.cell 3 _ rfl
            have hsz : w.heap.size < wc.heap.size := HR2.out.lt
            clear HB1 HS1 HR1 HG1 HBc d0 d1 HR0 HG3 HK0 HAL HB0 HS0 H4 Hza
            go_wp2_with fail
            have hfm : SeenF wc.heap.size 0 (fun _ => 0) (wc.alloc (.map #[] 0)) := HM0.out
            go_loopg [6, 42] x.mem.length (fun g v6 v42 wi => ∃ (k : Nat) (f : ByteArray → Int), v6 = .bool (dupN [] (nms (x.mem.take k))) ∧ v42 = .int .i64 k ∧ Hid (k + g = x.mem.length) ∧ Hid (∀ t, f t = ((nms (x.mem.take k)).count (ints t) : Int)) ∧ Hid (SeenF wc.heap.size k f wi) ∧ Hid (∀ j, j < k → goodT (x.mem.getD j (⟨#[]⟩, jz)).1 = true) ∧ Hid (Below wc.heap.size wc wi))
            case atStart => exact ⟨0, _, rfl, rfl, by show _ = _; omega, fun t => rfl, hfm, fun j hj => absurd hj (by omega), (Below.refl _ _).alloc (Nat.le_refl _) _⟩
            case round =>
              obtain ⟨k, f, rfl, rfl, HK, HF, HM, HGd, HB⟩ := hrel
              by_cases hlt : k < x.mem.length
              · obtain ⟨ad, X2, x2, X3, x3, rfl, hKa, qn, q0, q1, q2, q3⟩ := jm_at (Kd.C_below HG2.out HB.out) k hlt
                have k0 : (0 : Int) ≤ (k : Int) := by omega
                have k1 : (k : Int) < (x.mem.length : Int) := by omega
                have k3 : decide (k < x.mem.length) = true := by simpa using hlt
                obtain ⟨g1, rfl⟩ : ∃ g1, gk = g1 + 1 := ⟨gk - 1, by have := HK.out; omega⟩
                have HSr := Lib.hid (HS2.out.below (Below.mono HB.out (Nat.le_refl _)))
                have hnm : (x.mem.getD k (⟨#[]⟩, jz)).1.size ≤ 1000000 := HN.out _ (by rw [List.getD_eq_getElem?_getD, List.getElem?_eq_getElem hlt]; exact List.getElem_mem hlt)
                have htk := nms_take x.mem k hlt
                have HBad : Hid (goodT (x.mem.getD k (⟨#[]⟩, jz)).1 = false → oneN x lev = 1) := fun h => by
                  rw [HO.out, if_pos]
                  cases ha : (x.mem.map Prod.fst).all goodT with
                  | false => rfl
                  | true => have := (all_good x.mem).1 ha k hlt; rw [h] at this; cases this
                have HGk : Hid (goodT (x.mem.getD k (⟨#[]⟩, jz)).1 = true → ∀ j, j < k + 1 → goodT (x.mem.getD j (⟨#[]⟩, jz)).1 = true) := fun h j hj => by
                  by_cases e : j = k
                  · rw [e]; exact h
                  · exact HGd.out j (by omega)
                have hlen : (nms (x.mem.take k)).length = k := by unfold nms; rw [List.length_map, List.length_take]; omega
                have HLen := Lib.hid hlen
                clear hKa hlen
                generalize x.mem.getD k (⟨#[]⟩, jz) = ea at *
                obtain ⟨nm, xa⟩ := ea
                dsimp only at qn q0 q1 q2 q3 hnm htk HBad HGk
                generalize hks : nms (x.mem.take k) = ks at *
                generalize hks1 : nms (x.mem.take (k + 1)) = ks1 at *
                have HTK := Lib.hid htk
                clear htk
                have HMk : Hid (k ≤ 100000) := by show _ ≤ _; omega
                have HR : Hid (Row 50 wr.heap.size #[.string nm, .int .i64 xa.kind, .string xa.text, .slice X2 xa.list.length x2, .slice X3 xa.mem.length x3] (wr.alloc (.cells #[.string nm, .int .i64 xa.kind, .string xa.text, .slice X2 xa.list.length x2, .slice X3 xa.mem.length x3] 50))) := Row.new wr _ _ rfl
                have HBa : Hid (Below wc.heap.size wc (wr.alloc (.cells #[.string nm, .int .i64 xa.kind, .string xa.text, .slice X2 xa.list.length x2, .slice X3 xa.mem.length x3] 50))) := HB.out.alloc HB.out.size _
                have HMlt : Hid (wc.heap.size < wr.heap.size) := by
                  obtain ⟨D, n9, ⟨es, clock, hb9, r9⟩, h9⟩ := HM.out
                  exact (Array.getElem?_eq_some_iff.1 hb9).1
                have HMa : Hid (SeenF wc.heap.size k f (wr.alloc (.cells #[.string nm, .int .i64 xa.kind, .string xa.text, .slice X2 xa.list.length x2, .slice X3 xa.mem.length x3] 50))) := HM.out.block (Go.heap_alloc_old _ _ HMlt.out)
                obtain ⟨z, Hz⟩ : ∃ z, Hid (goodT nm = z) := ⟨_, rfl⟩
                cases z with
                | false =>
                  have HE := Lib.hid (HBad.out Hz.out)
                  have HSa := Lib.hid (HS2.out.below HBa.out)
                  clear HBad HGk HO
                  go_wp2_with fail
                  refine (HAW.out _ HSa.out nm hnm).mono ?_
                  rintro e w4 ⟨rfl, hb4⟩
                  rw [Hz.out]
                  have s1 := (HSa.out.below hb4).c1
                  have HB4 := Lib.hid (below_then HBa.out HBa.out.size hb4)
                  clear hb4
                  go_wp2_with fail
                  go_ret
                  exact WrongIs.mk HE.out (by omega) (below_then HB2.out HB2.out.size HB4.out)
                | true =>
                  have HSa := Lib.hid (HS2.out.below HBa.out)
                  clear HBad
                  go_wp2_with fail
                  refine (HAW.out _ HSa.out nm hnm).mono ?_
                  rintro e w4 ⟨rfl, hb4⟩
                  rw [Hz.out]
                  have HB4 := Lib.hid (below_then HBa.out HBa.out.size hb4)
                  have HM4 : Hid (SeenF wc.heap.size k f w4) := HMa.out.block (hb4.block _ (Nat.lt_of_lt_of_le HMlt.out (Nat.le_of_lt (by show _ < (wr.heap.push _).size; rw [Array.size_push]; omega))))
                  have HR4 := Lib.hid (HR.out.below hb4)
                  have d0 := HR4.out.cell 0 _ rfl
                  clear hb4 HMa HR
                  obtain ⟨q, hq⟩ : ∃ q : Int, f nm = q := ⟨_, rfl⟩
                  have hqc : q = (ks.count (ints nm) : Int) := by rw [← hq]; exact HF.out nm
                  have hqk : ks.count (ints nm) ≤ k := by rw [← HLen.out]; exact List.count_le_length
                  have hk9 := HMk.out
                  have q0' : 0 ≤ q := by omega
                  have q1' : q ≤ 1000000 := by omega
                  have hk8 : k ≤ 1000000 := by omega
                  have HC6 : Hid (∀ u, (if u = nm then q + 1 else f u) = (ks1.count (ints u) : Int)) := fun u => by
                    rw [HTK.out, List.count_append, List.count_singleton]
                    by_cases e : u = nm
                    · rw [if_pos e, e, hqc]; simp
                    · rw [if_neg e, HF.out u]
                      have : ¬ ints nm = ints u := fun h => e (ints_inj h).symm
                      simp [this]
                  have HD6 : Hid (dupN [] ks1 = (dupN [] ks || decide (1 < q + 1))) := by
                    show _ = _
                    rw [HTK.out, dupN_snoc, List.nil_append]
                    congr 1
                    by_cases hi : ints nm ∈ ks
                    · have := List.count_pos_iff.2 hi
                      rw [decide_eq_true hi, decide_eq_true (by omega)]
                    · have := List.count_eq_zero.2 hi
                      rw [decide_eq_false hi, decide_eq_false (by omega)]
                  clear hqc hqk hk9
                  obtain ⟨tw, htw⟩ : ∃ tw, dupN [] ks = tw := ⟨_, rfl⟩
                  rw [htw] at HD6 ⊢
                  obtain ⟨g, hg, HGG⟩ : ∃ g : ByteArray → Int, g nm = q + 1 ∧ Hid (g = fun u => if u = nm then q + 1 else f u) := ⟨_, if_pos rfl, rfl⟩
                  cases tw with
                  | true =>
                    have HD7 : Hid (dupN [] ks1 = true) := by show _ = _; rw [HD6.out]; rfl
                    go_wp2_with (first | ((with_reducible refine wpl_seen_look HM4.out hnm ?hx ?hy ?_); (case hx => rfl); (case hy => rfl); rw [hq]) | ((with_reducible refine wpl_seen_put2 (c := q + 1) HM4.out hnm hk8 ⟨by omega, by omega⟩ ?hx ?hy ?hv ?_); (case hx => rfl); (case hy => rfl); (case hv => rfl); intro w6 hF6 hg6; have HM6 : Hid (SeenF wc.heap.size (k + 1) g w6) := (by rw [HGG.out]; exact hF6); have HB6 : Hid (Below wc.heap.size wc w6) := HB4.out.grown hg6 HB4.out.size (fun j hj => by injection hj with hj; omega); clear hF6 hg6 HM4))
                    go_roundg g1
                    case measure => omega
                    case rel => exact ⟨k + 1, g, by rw [hks1, HD7.out], by go_num, by have := HK.out; show _ = _; omega, fun t => by rw [hks1, HGG.out]; exact HC6.out t, HM6.out, HGk.out Hz.out, HB6.out⟩
                  | false =>
                    obtain ⟨z1, hz1⟩ : ∃ z1, decide (1 < q + 1) = z1 := ⟨_, rfl⟩
                    have HD7 : Hid (dupN [] ks1 = z1) := by show _ = _; rw [HD6.out, hz1]; rfl
                    go_wp2_with (first | ((with_reducible refine wpl_seen_look HM4.out hnm ?hx ?hy ?_); (case hx => rfl); (case hy => rfl); rw [hq]) | ((with_reducible refine wpl_seen_put2 (c := q + 1) HM4.out hnm hk8 ⟨by omega, by omega⟩ ?hx ?hy ?hv ?_); (case hx => rfl); (case hy => rfl); (case hv => rfl); intro w6 hF6 hg6; have HM6 : Hid (SeenF wc.heap.size (k + 1) g w6) := (by rw [HGG.out]; exact hF6); have HB6 : Hid (Below wc.heap.size wc w6) := HB4.out.grown hg6 HB4.out.size (fun j hj => by injection hj with hj; omega); have d6 : w6.cell? ⟨wr.heap.size, 0, none⟩ = some (.string nm) := (HR4.out.kept hg6 (by have := HMlt.out; simp; omega)).cell 0 _ rfl; clear hF6 hg6 HM4) | ((with_reducible refine wpl_seen_lookG HM6.out hnm rfl rfl ?hx ?hy ?_); (case hx => rfl); (case hy => rfl); rw [hg]))
                    go_roundg g1
                    case measure => omega
                    case rel => exact ⟨k + 1, g, by rw [hks1, HD7.out], by go_num, by have := HK.out; show _ = _; omega, fun t => by rw [hks1, HGG.out]; exact HC6.out t, HM6.out, HGk.out Hz.out, HB6.out⟩
              · obtain rfl : k = x.mem.length := by have := HK.out; omega
                have k3 : decide (x.mem.length < x.mem.length) = false := by simp
                have hall : (x.mem.map Prod.fst).all goodT = true := (all_good x.mem).2 HGd.out
                have ho := HO.out
                rw [if_neg (by rw [hall]; simp)] at ho
                rw [List.take_length]
                obtain ⟨z, Hz⟩ : ∃ z, Hid (dupN [] (nms x.mem) = z) := ⟨_, rfl⟩
                rw [Hz.out] at ho ⊢
                have HE := Lib.hid ho
                have s7 := (HS2.out.below HB.out).c7
                clear ho hall HO HK
                cases z with
                | true =>
                  go_wp2_with fail
                  go_ret
                  exact WrongIs.mk HE.out (by omega) (below_then HB2.out HB2.out.size HB.out)
                | false =>
                  go_wp2_with fail
                  go_ret
                  exact ⟨by rw [HE.out]; rfl, below_then HB2.out HB2.out.size HB.out⟩
end
end Go.Proofs.YtpdpgppaoipnlaaDoor

