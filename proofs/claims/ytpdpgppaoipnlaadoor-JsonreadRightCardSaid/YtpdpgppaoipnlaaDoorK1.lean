/- Rows of any type; the document's answer of chapter 13: its small functions by their contracts. The document's answer of chapter 13: space, four digits, words, numbers. A map from bytes to numbers that a call makes: written and looked up in a walk. The document's answer of chapter 13: numbers. -/
import Derived.Test.YtpdpgppaoipnlaaDoorJ4
import Derived.Test.YtpdpgppaoipnlaaDoorRef
import Derived.Deep.MidRow
import Derived.Test.YtpdpgppaoipnlaaDoorJ3
import Derived.Deep.DeepCutAuto
import Derived.Deep.CutBlock
set_option linter.unusedVariables false
set_option linter.unusedSimpArgs false
namespace Go.Proofs.YtpdpgppaoipnlaaDoor
section
open Go.RowKit Go.PlainAid
open Go.Proofs.YtpdpgppaoipnlaaDoorW.PrintWords hiding bt
open Go.Proofs.YtpdpgppaoipnlaaDoorW.PrintMore

/-- A block of cells. -/
def Row (t : TypeId) (b : Nat) (cs : Array Value) (w : World) : Prop := w.heap[b]? = some (.cells cs t (0, 0))
section
variable {t : TypeId} {b : Nat} {cs : Array Value} {w w' : World}
theorem Row.lt (h : Row t b cs w) : b < w.heap.size := (Array.getElem?_eq_some_iff.1 h).1
theorem Row.new (w : World) (t : TypeId) (cs : Array Value) {n : Nat} (h : n = w.heap.size) : Row t n cs (w.alloc (.cells cs t)) := by subst h; exact Go.heap_alloc_new w _
theorem Row.old (h : Row t b cs w) (o : Obj) : Row t b cs (w.alloc o) := (Go.heap_alloc_old _ _ h.lt).trans h
theorem Row.kept {row : Option Nat} (h : Row t b cs w) (hg : w.grownBy w' row) (hr : some b ≠ row) : Row t b cs w' := (hg.block b h.lt hr).trans h
theorem Row.below (h : Row t b cs w) (hb : Below w.heap.size w w') : Row t b cs w' := (hb.block b h.lt).trans h
theorem Row.set (h : Row t b cs w) {ds : Array Value} : Row t b ds (w.setRow b ds) := by
  unfold Row at *
  simp [World.setRow, Array.getElem?_modify, h]
theorem Row.other (h : Row t b cs w) {g : Nat} (hg : b ≠ g) (ds : Array Value) : Row t b cs (w.setRow g ds) := (setRow_other _ _ _ _ hg).trans h
theorem Row.far (h : Row t b cs w) {c o : Nat} (hc : b ≠ c) (v : Value) : Row t b cs (w.setCell ⟨c, o, none⟩ v) := (Below.heap_setCell _ _ _ _ hc).trans h
theorem Row.cell (h : Row t b cs w) (o : Nat) (v : Value) (hv : cs[o]? = some v) : w.cell? ⟨b, o, none⟩ = some v := by rw [Lib.cell_of_heap h]; exact hv
theorem Row.frozen (h : Row t b cs w) (o : Nat) : w.frozen? ⟨b, o, none⟩ = false := Lib.frozen_of_heap h o
theorem Row.setCell (h : Row t b cs w) (o : Nat) (v : Value) : Row t b (cs.setIfInBounds o v) (w.setCell ⟨b, o, none⟩ v) := by
  unfold Row at *
  simp [World.setCell, Array.getElem?_modify, h]
end
section
variable {ops : Array Oper} {rest : List Oper} {a : Act} {w : World} {Q : Exit → Act → World → Prop} {dst : Option Tmp} {x y : Operand} {ty : TypeId} {pos : String} {after : Array Edge} {b : Nat}
theorem info_got : (Tryd.prog.info? 32).map (·.size) = some 7 := by kernel_rfl
theorem wpl_load_got {a0 a1 a2 a3 a4 a5 a6 : Value} (H : Row 32 b #[a0, a1, a2, a3, a4, a5, a6] w) (hx : a.eval x = .pointer (some ⟨b, 0, none⟩)) (h : wpList Tryd.prog ops Q rest (a.put dst (.agg #[a0, a1, a2, a3, a4, a5, a6])) w) :
    wpList Tryd.prog ops Q ({ dst := dst, op := .load 32 x, type := ty, pos := pos, after := after, guard := none } :: rest) a w :=
  wpList_load_row rfl 32 x rfl b hx 32 _ (0, 0) _ H Tryd.underlying32 rfl info_got h
theorem wpl_store_got {old cs : Array Value} (H : Row 32 b old w) (ho : old.size = 7) (hx : a.eval x = .pointer (some ⟨b, 0, none⟩)) (hy : a.eval y = .agg cs) (hs : cs.size = 7) (h1 : cs.all (·.oneCell') = true) (h : wpList Tryd.prog ops Q rest (a.put dst undef) (w.setRow b cs)) :
    wpList Tryd.prog ops Q ({ dst := dst, op := .store 32 x y, type := ty, pos := pos, after := after, guard := none } :: rest) a w :=
  wpList_store_row rfl 32 x y rfl b _ hx hy 32 _ H (by rw [hs]; exact info_got) (by rw [ho, hs]) h1 h
theorem wpl_load_gotV {a0 a1 a2 a3 a4 a5 a6 : Value} (H : Row 32 b #[a0, a1, a2, a3, a4, a5, a6] w) (hx : a.eval x = .pointer (some ⟨b, 0, none⟩)) (h : wpList Tryd.prog ops Q rest (a.put dst (.agg #[a0, a1, a2, a3])) w) :
    wpList Tryd.prog ops Q ({ dst := dst, op := .load 26 x, type := ty, pos := pos, after := after, guard := none } :: rest) a w :=
  wpList_load_mid rfl 26 x rfl b 0 hx [a0, a1, a2, a3] _ (by
    have := World.rangeAt_of_block H 0 4
    exact this) Tryd.underlying26 rfl info_val h
end
theorem results_got {fn : Func} {p : Tmp} (h : fn.results = #[.cell p 32]) (tmps : Array Value) (w : World) (g : Nat) (cs : Array Value) (hp : tmps.getD p undef = .pointer (some ⟨g, 0, none⟩)) (hg : Row 32 g cs w) (hs : cs.size = 7) :
    (results fn tmps).run Tryd.prog w = .ok (.agg cs) w :=
  results_cell_row h tmps w g 32 cs (0, 0) _ hp hg Tryd.underlying32 rfl (by rw [hs]; exact info_got)

def gotZ (e c : Int) : Array Value := #[.int .i64 0, .string ⟨#[]⟩, .slice none 0 0, .slice none 0 0, .string ⟨#[]⟩, .int .i64 e, .int .i64 c]

set_option maxHeartbeats 1000000 in
theorem r13_is (s : ByteArray) (i : Nat) (I c : Int) (w : World) (hI : I = i) (hl : s.size ≤ 1000000) (hi : i ≤ 10000000) (h0 : 0 ≤ c) (h1 : c ≤ 255) :
    Calls Tryd.prog 60 #[.string s, .int .i64 I, .int .u8 c] w fun e w' => e = .returned (.bool (isAt s i c)) ∧ w = w' := by
  subst hI
  have hbt := get_bt s
  by_cases hlt : i < s.size
  · have h1 : decide (i < s.size) = true := by simpa using hlt
    cases hc : (bt s i == c) with
    | true =>
      have HA : Hid (isAt s i c = true) := by show _ = _; simp [isAt, hlt]; simpa using hc
      go_enter Tryd.func60, Tryd.ntmps60
      go_wp2
      go_ret
      exact ⟨by rw [HA.out]; rfl, rfl⟩
    | false =>
      have HA : Hid (isAt s i c = false) := by show _ = _; simp [isAt]; intro _; simpa using hc
      go_enter Tryd.func60, Tryd.ntmps60
      go_wp2
      go_ret
      exact ⟨by rw [HA.out]; rfl, rfl⟩
  · have h1 : decide (i < s.size) = false := by simpa using hlt
    have HA : Hid (isAt s i c = false) := by show _ = _; simp [isAt, hlt]
    go_enter Tryd.func60, Tryd.ntmps60
    go_wp2
    go_ret
    exact ⟨by rw [HA.out]; rfl, rfl⟩

set_option maxHeartbeats 1000000 in
theorem r13_digit (s : ByteArray) (i : Nat) (I : Int) (w : World) (hI : I = i) (hl : s.size ≤ 1000000) (hi : i ≤ 10000000) :
    Calls Tryd.prog 57 #[.string s, .int .i64 I] w fun e w' => e = .returned (.bool (digAt s i)) ∧ w = w' := by
  subst hI
  have hbt := get_bt s
  by_cases hlt : i < s.size
  · have h1 : decide (i < s.size) = true := by simpa using hlt
    by_cases h48 : 48 ≤ bt s i
    · have h2 : decide (48 ≤ bt s i) = true := by simpa using h48
      by_cases h57 : bt s i ≤ 57
      · have h3 : decide (bt s i ≤ 57) = true := by simpa using h57
        have HA : Hid (digAt s i = true) := by show _ = _; simp [digAt, isDig, hlt, h48, h57]
        go_enter Tryd.func57, Tryd.ntmps57
        go_wp2
        go_ret
        exact ⟨by rw [HA.out]; rfl, rfl⟩
      · have h3 : decide (bt s i ≤ 57) = false := by simpa using h57
        have HA : Hid (digAt s i = false) := by show _ = _; simp [digAt, isDig, h57]
        go_enter Tryd.func57, Tryd.ntmps57
        go_wp2
        go_ret
        exact ⟨by rw [HA.out]; rfl, rfl⟩
    · have h2 : decide (48 ≤ bt s i) = false := by simpa using h48
      have HA : Hid (digAt s i = false) := by show _ = _; simp [digAt, isDig, h48]
      go_enter Tryd.func57, Tryd.ntmps57
      go_wp2
      go_ret
      exact ⟨by rw [HA.out]; rfl, rfl⟩
  · have h1 : decide (i < s.size) = false := by simpa using hlt
    have HA : Hid (digAt s i = false) := by show _ = _; simp [digAt, hlt]
    go_enter Tryd.func57, Tryd.ntmps57
    go_wp2
    go_ret
    exact ⟨by rw [HA.out]; rfl, rfl⟩

def GotBad (s : ByteArray) (i : Nat) (w : World) (e : Ending) (w' : World) : Prop := e = .returned (.agg #[.int .i64 0, .string ⟨#[]⟩, .slice none 0 0, .slice none 0 0, .string ⟨#[]⟩, .int .i64 (badAt s i).1, .int .i64 (badAt s i).2]) ∧ Hid (Below w.heap.size w w')
set_option maxHeartbeats 1000000 in
theorem r13_bad (s : ByteArray) (i : Nat) (I : Int) (w : World) (hI : I = i) (hl : s.size ≤ 1000000) (hi : i ≤ 10000000) :
    Calls Tryd.prog 56 #[.string s, .int .i64 I] w (GotBad s i w) := by
  subst hI
  have HV0 : Hid (Row 32 w.heap.size (gotZ 0 0) (w.alloc (.cells (gotZ 0 0) 32))) := Row.new w _ _ rfl
  by_cases hlt : s.size ≤ i
  · have h1 : decide (s.size ≤ i) = true := by simpa using hlt
    have HA : Hid (badAt s i = ((s.size : Int), 2)) := by show _ = _; unfold badAt; rw [if_pos hlt]
    go_enter Tryd.func56, Tryd.ntmps56
    go_wp2_with (first | ((with_reducible refine wpl_store_got (cs := ?_) HV0.out rfl ?hx ?hy ?hs ?hz ?_); (case hx => rfl); (case hy => rfl); (case hs => rfl); (case hz => (first | (simp [Value.oneCell']; done) | assumption))))
    (try simp only [Exit.inBlock, Exit.then])
    refine bodyPost_ret (v := .agg (gotZ (badAt s i).1 (badAt s i).2)) ?_ rfl ⟨rfl, below_setRow ((Below.refl _ _).alloc (Nat.le_refl _) _) (Nat.le_refl _) _⟩
    rw [HA.out]
    exact results_got rfl _ _ _ _ rfl HV0.out.set rfl
  · have h1 : decide (s.size ≤ i) = false := by simpa using hlt
    have HA : Hid (badAt s i = ((i : Int), 1)) := by show _ = _; unfold badAt; rw [if_neg hlt]
    go_enter Tryd.func56, Tryd.ntmps56
    go_wp2_with (first | ((with_reducible refine wpl_store_got (cs := ?_) HV0.out rfl ?hx ?hy ?hs ?hz ?_); (case hx => rfl); (case hy => rfl); (case hs => rfl); (case hz => (first | (simp [Value.oneCell']; done) | assumption))))
    (try simp only [Exit.inBlock, Exit.then])
    refine bodyPost_ret (v := .agg (gotZ (badAt s i).1 (badAt s i).2)) ?_ rfl ⟨rfl, below_setRow ((Below.refl _ _).alloc (Nat.le_refl _) _) (Nat.le_refl _) _⟩
    rw [HA.out]
    exact results_got rfl _ _ _ _ rfl HV0.out.set rfl
end

section
open Go.RowKit Go.PlainAid
open Go.Proofs.YtpdpgppaoipnlaaDoorW.PrintWords hiding bt
open Go.Proofs.YtpdpgppaoipnlaaDoorW.PrintMore

theorem spc_more (s : ByteArray) (j : Nat) (h : j < s.size) (hs : isSp (bt s j) = true) : spc s (j + 1) = spc s j := by
  unfold spc
  obtain ⟨k, hk⟩ : ∃ k, s.size - j = k + 1 := ⟨s.size - j - 1, by omega⟩
  rw [hk, show s.size - (j + 1) = k by omega]
  conv => rhs; unfold spcs
  rw [if_pos ⟨h, hs⟩]
theorem spc_stop (s : ByteArray) (j : Nat) (h : ¬ (j < s.size ∧ isSp (bt s j) = true)) : spc s j = j := by
  unfold spc
  cases hk : s.size - j with
  | zero => rfl
  | succ k => unfold spcs; rw [if_neg h]
theorem dgs_more (s : ByteArray) (j : Nat) (h : digAt s j = true) : dgs s (j + 1) = dgs s j := by
  unfold dgs
  have hj := digAt_lt h
  obtain ⟨k, hk⟩ : ∃ k, s.size - j = k + 1 := ⟨s.size - j - 1, by omega⟩
  rw [hk, show s.size - (j + 1) = k by omega]
  conv => rhs; unfold digs
  rw [if_pos h]
theorem dgs_stop (s : ByteArray) (j : Nat) (h : digAt s j = false) : dgs s j = j := by
  unfold dgs
  cases hk : s.size - j with
  | zero => rfl
  | succ k => unfold digs; rw [if_neg (by simp [h])]

set_option maxHeartbeats 1000000 in
theorem r13_Space (s : ByteArray) (i : Nat) (I : Int) (w : World) (hI : I = i) (hl : s.size ≤ 1000000) (hi : i ≤ s.size) :
    Calls Tryd.prog 22 #[.string s, .int .i64 I] w fun e w' => e = .returned (.int .i64 (spc s i)) ∧ w = w' := by
  subst hI
  have hbt := get_bt s
  go_enter Tryd.func22, Tryd.ntmps22
  go_wp2_with fail
  go_loop [1] (fun v => ∃ j : Nat, v = .int .i64 j ∧ j ≤ s.size ∧ Hid (spc s j = spc s i)) (fun v => s.size - (intOf v).toNat)
  case atStart => exact ⟨i, rfl, hi, rfl⟩
  case round =>
    obtain ⟨j, rfl, hj, HD⟩ := hrel
    by_cases hlt : j < s.size
    · have h1 : decide (j < s.size) = true := by simpa using hlt
      cases hsp : isSp (bt s j) with
      | true =>
        have HM := Lib.hid (spc_more s j hlt hsp)
        have hc : bt s j = 9 ∨ bt s j = 10 ∨ bt s j = 13 ∨ bt s j = 32 := by simpa [isSp] using hsp
        clear hsp
        cases e1 : (bt s j == 9) <;> cases e2 : (bt s j == 10) <;> cases e3 : (bt s j == 13) <;> cases e4 : (bt s j == 32)
        all_goals first
          | (exfalso; simp only [beq_iff_eq, beq_eq_false_iff_ne, ne_eq] at e1 e2 e3 e4; omega)
          | (clear hc
             go_wp2
             go_round
             case rel => exact ⟨j + 1, by go_num, by omega, HM.out.trans HD.out⟩
             case measure => simp [intOf]; omega)
      | false =>
        have HM := Lib.hid (spc_stop s j (by rw [hsp]; simp))
        have hc : ¬ (bt s j = 9 ∨ bt s j = 10 ∨ bt s j = 13 ∨ bt s j = 32) := by simpa [isSp] using hsp
        have e1 : (bt s j == 9) = false := by rw [beq_eq_false_iff_ne]; omega
        have e2 : (bt s j == 10) = false := by rw [beq_eq_false_iff_ne]; omega
        have e3 : (bt s j == 13) = false := by rw [beq_eq_false_iff_ne]; omega
        have e4 : (bt s j == 32) = false := by rw [beq_eq_false_iff_ne]; omega
        clear hsp hc
        go_wp2
        go_ret
        exact ⟨by rw [← HD.out, HM.out]; rfl, rfl⟩
    · have h1 : decide (j < s.size) = false := by simpa using hlt
      have HM := Lib.hid (spc_stop s j (by omega))
      go_wp2
      go_ret
      exact ⟨by rw [← HD.out, HM.out]; rfl, rfl⟩

/-- What 'unit' tells: the number; or -1 less the place where none stands. -/
def UnitR (s : ByteArray) (i : Nat) (w : World) (e : Ending) (w' : World) : Prop :=
  ∃ v, e = .returned (.int .i64 v) ∧ Hid (((unitAt s 4 i 0).2.2 = 0 ∧ v = (unitAt s 4 i 0).1) ∨ ((unitAt s 4 i 0).2.2 ≠ 0 ∧ ∃ k : Nat, i ≤ k ∧ k ≤ i + 3 ∧ v = -1 - k ∧ (unitAt s 4 i 0).2 = badAt s k)) ∧ Hid (Below w.heap.size w w')
theorem unitAt_step (s : ByteArray) (k j : Nat) (r : Int) : unitAt s (k + 1) j r = if j < s.size ∧ 0 ≤ hexd (bt s j) then unitAt s k (j + 1) (16 * r + hexd (bt s j)) else (0, badAt s j) := rfl
theorem drawn_below {w w' : World} (h : Drawn0 w w') : Below w.heap.size w w' := h.below
theorem digit_calls (c : Int) (h0 : 0 ≤ c) (h1 : c ≤ 255) (w : World) : Calls Tryd.prog 96 #[.int .u8 c] w fun e w' => e = .returned (.int .i64 (hexd c)) ∧ Drawn0 w w' := PAll.eponymref02_Digit.calls 5 c _ w (digit_f c h0 h1 0)

set_option maxHeartbeats 2000000 in
set_option maxRecDepth 100000 in
theorem r13_unit (s : ByteArray) (i : Nat) (I : Int) (w : World) (hI : I = i) (hl : s.size ≤ 1000000) (hi : i ≤ 1000100) :
    Calls Tryd.prog 63 #[.string s, .int .i64 I] w (UnitR s i w) := by
  subst hI
  have hbt := get_bt s
  go_enter Tryd.func63, Tryd.ntmps63
  go_wp2_with fail
  go_loopg [5, 6] 4 (fun k v5 v6 w' => ∃ (r : Int) (c : Nat), v5 = .int .i64 r ∧ v6 = .int .i64 (i + c : Nat) ∧ c + k = 4 ∧ 0 ≤ r ∧ r ≤ 65535 ∧ Hid (0 < k → r ≤ 4095) ∧ Hid (0 < k → 1 < k → r ≤ 255) ∧ Hid (0 < k → 2 < k → r ≤ 15) ∧ Hid (0 < k → 3 < k → r ≤ 0) ∧ Hid (unitAt s k (i + c) r = unitAt s 4 i 0) ∧ Hid (Below w.heap.size w w'))
  case atStart => exact ⟨0, 0, rfl, rfl, rfl, by omega, by omega, fun _ => by omega, fun _ _ => by omega, fun _ _ => by omega, fun _ _ => by omega, rfl, Below.refl _ _⟩
  case round =>
    obtain ⟨r, c, rfl, rfl, hc, hr0, hr1, HR, HR2, HR3, HR4, HD, HB⟩ := hrel
    cases gk with
    | zero =>
      obtain rfl : c = 4 := by omega
      have HD2 : Hid (unitAt s 4 i 0 = (r, ((i + 4 : Nat) : Int), 0)) := HD.out.symm
      go_wp2_with fail
      go_ret
      exact ⟨r, rfl, .inl (by rw [HD2.out]; exact ⟨rfl, rfl⟩), HB.out⟩
    | succ k1 =>
      have hd := HD.out
      rw [unitAt_step] at hd
      by_cases hlt : i + c < s.size
      · have h1 : decide (s.size ≤ i + c) = false := by simpa using hlt
        have hx := hexd_le (bt s (i + c))
        by_cases hx0 : 0 ≤ hexd (bt s (i + c))
        · rw [if_pos ⟨hlt, hx0⟩] at hd
          have HD2 := Lib.hid hd
          clear hd
          have hr2 : r ≤ 4095 := HR.out (by omega)
          have HC := Lib.hid (fun (W : World) => digit_calls (bt s (i + c)) (bt_nonneg _ _) (bt_le _ _) W)
          clear HD
          go_wp2_with (first | (go_at_call 96; refine (HC.out _).mono ?_; rintro e w2 ⟨rfl, hw2⟩; have HB := Lib.hid (below_then HB.out HB.out.size (drawn_below hw2)); clear hw2))
          go_roundg k1
          case measure => omega
          case rel =>
            refine ⟨16 * r + hexd (bt s (i + c)), c + 1, rfl, by push_cast; rw [Int.add_assoc], by omega, by omega, by omega, ?_, ?_, ?_, ?_, HD2.out, HB.out⟩
            · intro h; have := HR2.out (by omega) (by omega); omega
            · intro h h'; have := HR3.out (by omega) (by omega); omega
            · intro h h'; have := HR4.out (by omega) (by omega); omega
            · intro h h'; omega
        · rw [if_neg (fun h => hx0 h.2)] at hd
          have HD2 := Lib.hid hd
          clear hd HD
          have HC := Lib.hid (fun (W : World) => digit_calls (bt s (i + c)) (bt_nonneg _ _) (bt_le _ _) W)
          go_wp2_with (first | (go_at_call 96; refine (HC.out _).mono ?_; rintro e w2 ⟨rfl, hw2⟩; have HB := Lib.hid (below_then HB.out HB.out.size (drawn_below hw2)); clear hw2))
          go_ret
          exact ⟨-1 - ((i + c : Nat) : Int), by push_cast; rfl, .inr ⟨by rw [← HD2.out]; exact badAt_ne _ _, i + c, by omega, by omega, rfl, by rw [← HD2.out]⟩, HB.out⟩
      · rw [if_neg (fun h => hlt h.1)] at hd
        have HD2 := Lib.hid hd
        have h1 : decide (s.size ≤ i + c) = true := by simpa using hlt
        have h2 : decide ((s.size : Int) ≤ (i : Int) + c) = true := by simp; omega
        clear hd HD
        go_wp2_with fail
        go_ret
        exact ⟨-1 - ((i + c : Nat) : Int), by push_cast; rfl, .inr ⟨by rw [← HD2.out]; exact badAt_ne _ _, i + c, by omega, by omega, rfl, by rw [← HD2.out]⟩, HB.out⟩

def GotIs (L : Nat) (r : JV × Int × Int) (w : World) (e : Ending) (w' : World) : Prop :=
  ∃ a0 a1 a2 a3 t, e = .returned (.agg #[a0, a1, a2, a3, .string t, .int .i64 r.2.1, .int .i64 r.2.2]) ∧ Hid (r.2.2 = 0 → (jd L).M w' w.heap.size (fun k => w.heap.size ≤ k) r.1 [a0, a1, a2, a3]) ∧ Hid ((#[a0, a1, a2, a3] : Array Value).all (·.oneCell') = true) ∧ Hid (Below w.heap.size w w')
theorem GotIs.bad {L : Nat} {s : ByteArray} {i : Nat} {r : JV × Int × Int} {x : JV} {w w' : World} {e : Ending} (h : r = (x, badAt s i)) (hb : GotBad s i w e w') : GotIs L r w e w' := by
  obtain ⟨rfl, hb⟩ := hb
  rw [h]
  exact ⟨_, _, _, _, _, rfl, fun h => absurd h (badAt_ne _ _), (show (_ : Bool) = true by simp [Value.oneCell']), hb⟩

set_option maxHeartbeats 2000000 in
set_option maxRecDepth 100000 in
theorem r13_word (s t : ByteArray) (i : Nat) (I k : Int) (w : World) (hI : I = i) (hl : s.size ≤ 1000000) (hi : i ≤ s.size) (ht : t.size ≤ 100) :
    Calls Tryd.prog 58 #[.string s, .int .i64 I, .string t, .int .i64 k] w (GotIs 1 (⟨k, ⟨#[]⟩, [], []⟩, wordAt s (ints t) i) w) := by
  subst hI
  have hbt := get_bt t
  have HV0 : Hid (Row 32 w.heap.size (gotZ 0 0) (w.alloc (.cells (gotZ 0 0) 32))) := Row.new w _ _ rfl
  have HB0 : Hid (Below w.heap.size w (w.alloc (.cells (gotZ 0 0) 32))) := (Below.refl _ _).alloc (Nat.le_refl _) _
  go_enter Tryd.func58, Tryd.ntmps58
  go_wp2_with fail
  change Code.wp _ _ _ _ (w.alloc (.cells (gotZ 0 0) 32))
  generalize w.alloc (.cells (gotZ 0 0) 32) = w0 at *
  go_loop [9] (fun v => ∃ c : Nat, v = .int .i64 c ∧ c ≤ t.size ∧ Hid (wordAt s ((ints t).drop c) (i + c) = wordAt s (ints t) i)) (fun v => t.size - (intOf v).toNat)
  case atStart => exact ⟨0, rfl, by omega, by show _ = _; simp⟩
  case round =>
    obtain ⟨c, rfl, hc, HD⟩ := hrel
    by_cases hlt : c < t.size
    · have hd := HD.out
      rw [wordAt_step s t c _ hlt] at hd
      have n0 := bt_nonneg t c
      have n1 := bt_le t c
      obtain ⟨z, Hz⟩ : ∃ z, Hid (isAt s (i + c) (bt t c) = z) := ⟨_, rfl⟩
      rw [Hz.out] at hd
      have HC : Hid (∀ (I : Int) (W : World), I = ((i + c : Nat) : Int) → Calls Tryd.prog 60 #[.string s, .int .i64 I, .int .u8 (bt t c)] W fun e w' => e = .returned (.bool z) ∧ W = w') := fun I W h => by rw [← Hz.out]; exact r13_is s (i + c) I _ W h hl (by omega) n0 n1
      have HCB : Hid (∀ (I : Int) (W : World), I = ((i + c : Nat) : Int) → Calls Tryd.prog 56 #[.string s, .int .i64 I] W (GotBad s (i + c) W)) := fun I W h => r13_bad s (i + c) I W h hl (by omega)
      clear HD
      cases z with
      | true =>
        have HD2 := Lib.hid hd
        clear hd
        go_wp2_with (first | (go_at_call 60; refine (HC.out _ _ (by push_cast; rfl)).mono ?_; rintro e w2 ⟨rfl, rfl⟩))
        go_round
        case rel => exact ⟨c + 1, by go_num, by omega, HD2.out⟩
        case measure => simp [intOf]; omega
      | false =>
        have HD2 := Lib.hid hd
        clear hd
        go_wp2_with (first | (go_at_call 60; refine (HC.out _ _ (by push_cast; rfl)).mono ?_; rintro e w2 ⟨rfl, rfl⟩))
        refine (HCB.out _ _ (by push_cast; rfl)).mono ?_
        rintro e w2 ⟨rfl, hb2⟩
        have HV2 := Lib.hid (HV0.out.below hb2.out)
        have HB2 := Lib.hid (below_then HB0.out HB0.out.size hb2.out)
        clear hb2
        go_wp2_with (first | ((with_reducible refine wpl_store_got (cs := ?_) HV2.out rfl ?hx ?hy ?hs ?hz ?_); (case hx => rfl); (case hy => rfl); (case hs => rfl); (case hz => (first | (simp [Value.oneCell']; done) | assumption))))
        (try simp only [Exit.inBlock, Exit.then])
        refine bodyPost_ret (v := .agg (gotZ (badAt s (i + c)).1 (badAt s (i + c)).2)) ?_ rfl ?_
        · exact results_got rfl _ _ _ _ rfl HV2.out.set rfl
        · exact GotIs.bad (s := s) (i := i + c) (by rw [← HD2.out]; rfl) ⟨rfl, below_setRow HB2.out (Nat.le_refl _) _⟩
    · obtain rfl : c = t.size := by omega
      have hd := HD.out
      rw [wordAt_end] at hd
      have HD2 := Lib.hid hd
      clear hd HD
      go_wp2_with (first | ((with_reducible refine wpl_store_got (cs := ?_) HV0.out rfl ?hx ?hy ?hs ?hz ?_); (case hx => rfl); (case hy => rfl); (case hs => rfl); (case hz => (first | (simp [Value.oneCell']; done) | assumption))))
      (try simp only [Exit.inBlock, Exit.then])
      refine bodyPost_ret (v := .agg #[.int .i64 k, .string ⟨#[]⟩, .slice none 0 0, .slice none 0 0, .string ⟨#[]⟩, .int .i64 ((i + t.size : Nat) : Int), .int .i64 0]) ?_ rfl ?_
      · rw [show ((i + t.size : Nat) : Int) = (i : Int) + t.size by push_cast; rfl]
        exact results_got rfl _ _ _ _ rfl HV0.out.set rfl
      · rw [← HD2.out]
        exact ⟨_, _, _, _, _, rfl, fun _ => jdM_leaf 0 _ _ _ k ⟨#[]⟩, (show (_ : Bool) = true by simp [Value.oneCell']), below_setRow HB0.out (Nat.le_refl _) _⟩
end

section
open Go.RowKit Go.PlainAid

theorem keyB (c : Int) (h0 : 0 ≤ c) (h1 : c ≤ 255) : keyOf Tryd.prog 5 (.int .u8 c) = some (.int .u8 c) := Maps.keyOf_int_mk Tryd.underlying5 (by simp [Lit.wf, IntKind.min, IntKind.max, IntKind.bits, IntKind.signed]; omega)
theorem byteKeyed : Maps.Keyed Tryd.prog 5 := Maps.int_keyed Tryd.underlying5
/-- A map of the call's own, from bytes to numbers. -/
def SeenB (mb N : Nat) (f : Int → Int) (w : World) : Prop := ∃ (D : DataW Unit) (n : Nat), w.ownsMap Tryd.prog 5 (plainElem Tryd.prog 3) mb n D ∧ Maps.IsMap D ∧ n ≤ N ∧ ∀ c : Int, D.atKey (.int .u8 c) (.lit (.int .i64 0)) = .lit (.int .i64 (f c))
theorem SeenB.made (w : World) : SeenB w.heap.size 0 (fun _ => 0) (w.alloc (.map #[] 0)) := ⟨.map [], 0, World.ownsMap_made w _ _ _, Maps.isMap_empty, by simp, fun t => by simp [DataW.atKey]⟩
theorem wpl_b_look {ops : Array Oper} {rest : List Oper} {a : Act} {w : World} {Q : Exit → Act → World → Prop} {dst : Option Tmp} {m x : Operand} {ty : TypeId} {pos : String} {after : Array Edge} {mb N : Nat} {f : Int → Int} {t : Int}
    (H : SeenB mb N f w) (ht : 0 ≤ t ∧ t ≤ 255) (hx : a.eval m = .map (some mb)) (hy : a.eval x = .int .u8 t) (h : wpList Tryd.prog ops Q rest (a.put dst (.int .i64 (f t))) w) :
    wpList Tryd.prog ops Q ({ dst := dst, op := .lookup 85 m x false, type := ty, pos := pos, after := after, guard := none } :: rest) a w := by
  obtain ⟨D, n, h1, h2, h3, h4⟩ := H
  refine wpList_lookup_own_int w rfl m x 85 rfl 5 3 .i64 byteKeyed Tryd.underlying85 Tryd.underlying3 (zero_int w) mb n D hx h1 (.int .u8 t) (.int .u8 t) hy (keyB t ht.1 ht.2) ?_
  intro c hc _
  rw [h4 t] at hc
  injection hc with hc
  injection hc with _ hc
  rw [← hc]
  exact h
set_option maxRecDepth 100000 in
theorem wpl_b_put {ops : Array Oper} {rest : List Oper} {a : Act} {w : World} {Q : Exit → Act → World → Prop} {dst : Option Tmp} {m x v : Operand} {ty : TypeId} {pos : String} {after : Array Edge} {mb N : Nat} {f : Int → Int} {t c : Int}
    (H : SeenB mb N f w) (hN : N ≤ 1000) (hx : a.eval m = .map (some mb)) (hy : a.eval x = .int .u8 t) (hv : a.eval v = .int .i64 c) (ht : 0 ≤ t ∧ t ≤ 255) (hc : 0 ≤ c ∧ c ≤ 1000)
    (h : ∀ w', SeenB mb (N + 1) (fun u => if u = t then c else f u) w' → w.grownBy w' (some mb) → wpList Tryd.prog ops Q rest (a.put dst undef) w') :
    wpList Tryd.prog ops Q ({ dst := dst, op := .insert 85 m x v, type := ty, pos := pos, after := after, guard := none } :: rest) a w := by
  obtain ⟨D, n, h1, h2, h3, h4⟩ := H
  have hM : (1000001 : Nat) ≤ maxLen := by decide
  have hw : (Lit.int .i64 c).wf = true := by simp [Lit.wf, IntKind.min, IntKind.max, IntKind.bits, IntKind.signed]; omega
  refine wpList_plain rfl fun K' hK' => ?_
  have hlt : n < maxLen := by omega
  clear hM
  have hp : plainElem (H := Unit) Tryd.prog 3 (.int .i64 c) = some (.lit (.int .i64 c), []) := by simp [plainElem, Tryd.underlying3, hw]
  have hu := World.ownsMap.update (t := 85) h1 byteKeyed Tryd.underlying85 hlt (key := .int .u8 t) (keyB t ht.1 ht.2) hp
  obtain ⟨w', hrun, g1, g2⟩ := hu
  clear hlt hw
  unfold Oper.wp
  simp [execOp, hx, hy, hv, hrun, Result.andThen]
  refine hK' _ _ (h w' ⟨_, n + 1, g1, h2.put _ _, by omega, fun u => ?_⟩ g2)
  by_cases e : u = t
  · subst e
    rw [Maps.atKey_put_same h2 (byteKeyed.key (keyB u ht.1 ht.2))]; simp
  · rw [Maps.atKey_put_other (fun h => e (by injection h)), h4 u]; simp [e]
/-- The number that stands with a byte in a list. -/
def plk : List (Int × Int) → Int → Int
  | [], _ => 0
  | (t, c) :: l, u => if u = t then c else plk l u
theorem SeenB.made' (w : World) : SeenB w.heap.size 0 (plk []) (w.alloc (.map #[] 0)) := SeenB.made w
theorem wpl_p_put {ops : Array Oper} {rest : List Oper} {a : Act} {w : World} {Q : Exit → Act → World → Prop} {dst : Option Tmp} {m x v : Operand} {ty : TypeId} {pos : String} {after : Array Edge} {mb N : Nat} {l : List (Int × Int)} {t c : Int}
    (H : SeenB mb N (plk l) w) (hN : N ≤ 1000) (hx : a.eval m = .map (some mb)) (hy : a.eval x = .int .u8 t) (hv : a.eval v = .int .i64 c) (ht : 0 ≤ t ∧ t ≤ 255) (hc : 0 ≤ c ∧ c ≤ 1000)
    (h : ∀ w', SeenB mb (N + 1) (plk ((t, c) :: l)) w' → w.grownBy w' (some mb) → wpList Tryd.prog ops Q rest (a.put dst undef) w') :
    wpList Tryd.prog ops Q ({ dst := dst, op := .insert 85 m x v, type := ty, pos := pos, after := after, guard := none } :: rest) a w :=
  wpl_b_put H hN hx hy hv ht hc h
end

section
open Go.RowKit Go.PlainAid
open Go.Proofs.YtpdpgppaoipnlaaDoorW.PrintWords hiding bt
open Go.Proofs.YtpdpgppaoipnlaaDoorW.PrintMore

def numG (s : ByteArray) (i : Nat) : JV × Int × Int := (⟨3, s.extract i (numAt s i).1.toNat, [], []⟩, numAt s i)
theorem got_bad_ret {tmps : Array Value} {w w0 : World} {s : ByteArray} {k : Nat} {r : JV × Int × Int} (hr : r.2 = badAt s k) (HB : Below w.heap.size w w0) : GotIs 1 r w (.returned (.agg #[.int .i64 0, .string ⟨#[]⟩, .slice none 0 0, .slice none 0 0, .string ⟨#[]⟩, .int .i64 (badAt s k).1, .int .i64 (badAt s k).2])) (w0.setRow w.heap.size #[.int .i64 0, .string ⟨#[]⟩, .slice none 0 0, .slice none 0 0, .string ⟨#[]⟩, .int .i64 (badAt s k).1, .int .i64 (badAt s k).2]) :=
  GotIs.bad (s := s) (i := k) (x := r.1) (by rw [← hr]) ⟨rfl, below_setRow HB (Nat.le_refl _) _⟩

theorem num_good_ret {w w0 : World} {s : ByteArray} {i k : Nat} (hr : numAt s i = ((k : Int), 0)) (HB : Below w.heap.size w w0) : GotIs 1 (numG s i) w (.returned (.agg #[.int .i64 3, .string (s.extract i k), .slice none 0 0, .slice none 0 0, .string ⟨#[]⟩, .int .i64 (k : Int), .int .i64 0])) (w0.setRow w.heap.size #[.int .i64 3, .string (s.extract i k), .slice none 0 0, .slice none 0 0, .string ⟨#[]⟩, .int .i64 (k : Int), .int .i64 0]) := by
  refine ⟨_, _, _, _, _, by rw [numG, hr], fun _ => ?_, (show (_ : Bool) = true by simp [Value.oneCell']), below_setRow HB (Nat.le_refl _) _⟩
  rw [numG, hr]
  exact jdM_leaf 0 _ _ _ 3 _

set_option maxHeartbeats 4000000 in
set_option maxRecDepth 100000 in
theorem r13_number (s : ByteArray) (i : Nat) (I : Int) (w : World) (hI : I = i) (hl : s.size ≤ 1000000) (hi : i ≤ s.size) :
    Calls Tryd.prog 59 #[.string s, .int .i64 I] w (GotIs 1 (numG s i) w) := by
  subst hI
  have hbt := get_bt s
  have HIS : Hid (∀ (k : Nat) (c : Int) (b : Bool), k ≤ 1000100 → 0 ≤ c → c ≤ 255 → isAt s k c = b → ∀ (I : Int) (W : World), I = (k : Int) → Calls Tryd.prog 60 #[.string s, .int .i64 I, .int .u8 c] W fun e w' => e = .returned (.bool b) ∧ W = w') := fun k c b h1 h2 h3 h4 I W h => by rw [← h4]; exact r13_is s k I c W h hl (by omega) h2 h3
  have HDG : Hid (∀ (k : Nat) (b : Bool), k ≤ 1000100 → digAt s k = b → ∀ (I : Int) (W : World), I = (k : Int) → Calls Tryd.prog 57 #[.string s, .int .i64 I] W fun e w' => e = .returned (.bool b) ∧ W = w') := fun k b h1 h2 I W h => by rw [← h2]; exact r13_digit s k I W h hl (by omega)
  have HBD : Hid (∀ (k : Nat), k ≤ 1000100 → ∀ (I : Int) (W : World), I = (k : Int) → Calls Tryd.prog 56 #[.string s, .int .i64 I] W (GotBad s k W)) := fun k h1 I W h => r13_bad s k I W h hl (by omega)
  have HV0 : Hid (Row 32 w.heap.size (gotZ 0 0) (w.alloc (.cells (gotZ 0 0) 32))) := Row.new w _ _ rfl
  have HB0 : Hid (Below w.heap.size w (w.alloc (.cells (gotZ 0 0) 32))) := (Below.refl _ _).alloc (Nat.le_refl _) _
  obtain ⟨z, Hz⟩ : ∃ z, Hid (isAt s i 45 = z) := ⟨_, rfl⟩
  obtain ⟨i0, Hi0⟩ : ∃ i0, Hid ((if isAt s i 45 = true then i + 1 else i) = i0) := ⟨_, rfl⟩
  have hi0 : i ≤ i0 ∧ i0 ≤ s.size := by
    rw [← Hi0.out]; split
    · have := (isAt_lt (by assumption : isAt s i 45 = true)).1; omega
    · omega
  go_enter Tryd.func59, Tryd.ntmps59
  have H1 := Lib.hid (HIS.out i 45 z (by omega) (by omega) (by omega) Hz.out)
  go_upto_if 9 with (go_at_call 60; refine (H1.out _ _ rfl).mono ?_; rintro e w2 ⟨rfl, rfl⟩)
  change Code.wp _ _ _ _ (w.alloc (.cells (gotZ 0 0) 32))
  generalize w.alloc (.cells (gotZ 0 0) 32) = w0 at *
  go_cut [5] (fun v wc => v = .int .i64 i0 ∧ wc = w0)
  case first =>
    cases z with
    | true =>
      go_wp2
      go_meet
      case rel => exact ⟨by rw [← Hi0.out, Hz.out, if_pos rfl]; go_num, rfl⟩
    | false =>
      go_wp2
      go_meet
      case rel => exact ⟨by rw [← Hi0.out, Hz.out, if_neg (by simp)], rfl⟩
  case rest =>
    obtain ⟨rfl, rfl⟩ := hcut
    have H3 := Lib.hid (HIS.out i0 48 (isAt s i0 48) (by omega) (by omega) (by omega) rfl)
    by_cases hd0 : digAt s i0 = false
    · have H2 := Lib.hid (HDG.out i0 false (by omega) hd0)
      have HN : Hid (numAt s i = badAt s i0) := by
        show _ = _
        unfold numAt
        simp only []
        rw [Hi0.out, if_pos hd0]
      go_wp2_with (first | (go_at_call 57; refine (H2.out _ _ rfl).mono ?_; rintro e w2 ⟨rfl, rfl⟩))
      refine (HBD.out (i0) (by omega) _ _ (by first | rfl | (push_cast; rfl))).mono ?_
      rintro e w2 ⟨rfl, hb2⟩
      have HV2 := Lib.hid (HV0.out.below hb2.out)
      have HB2 := Lib.hid (below_then HB0.out HB0.out.size hb2.out)
      clear hb2
      go_wp2_with (first | ((with_reducible refine wpl_store_got (cs := ?_) HV2.out rfl ?hx ?hy ?hs ?hz ?_); (case hx => rfl); (case hy => rfl); (case hs => rfl); (case hz => (first | (simp [Value.oneCell']; done) | assumption))))
      (try simp only [Exit.inBlock, Exit.then])
      refine bodyPost_ret (v := .agg (gotZ (badAt s (i0)).1 (badAt s (i0)).2)) ?_ rfl ?_
      · exact results_got rfl _ _ _ _ rfl HV2.out.set rfl
      · exact got_bad_ret (tmps := #[]) HN.out HB2.out
    · have hd1 : digAt s i0 = true := by simpa using hd0
      have H2 := Lib.hid (HDG.out i0 true (by omega) hd1)
      have hi0l := digAt_lt hd1
      have HD1 := Lib.hid hd1
      obtain ⟨z1, Hz1⟩ : ∃ z, Hid ((bt s i0 == 48) = z) := ⟨_, rfl⟩
      have Hz2 : Hid (isAt s i0 48 = z1) := by show _ = _; rw [← Hz1.out]; simp [isAt, hi0l]; by_cases h : bt s i0 = 48 <;> simp [h]
      obtain ⟨i1, Hi1⟩ : ∃ i1, Hid ((if isAt s i0 48 = true then i0 + 1 else dgs s i0) = i1) := ⟨_, rfl⟩
      have hi1 : i0 ≤ i1 ∧ i1 ≤ s.size := by
        rw [← Hi1.out]
        have := dgs_le s i0 (by omega)
        split <;> omega
      have e48 := Hz1.out
      clear hd0 hd1
      go_upto_if 22 with (go_at_call 57; refine (H2.out _ _ rfl).mono ?_; rintro e w2 ⟨rfl, rfl⟩)
      go_cut [5] (fun v wd => v = .int .i64 i1 ∧ wd = wc)
      case first =>
        cases z1 with
        | true =>
          go_wp2
          go_meet
          case rel => exact ⟨by rw [← Hi1.out, Hz2.out, if_pos rfl]; go_num, rfl⟩
        | false =>
          go_wp2_with fail
          go_loop [5] (fun v => ∃ j : Nat, v = .int .i64 j ∧ j ≤ s.size ∧ Hid (dgs s j = dgs s (i0))) (fun v => s.size - (intOf v).toNat)
          case atStart => exact ⟨i0, by first | rfl | go_num, by omega, rfl⟩
          case round =>
            obtain ⟨j, rfl, hj, HD⟩ := hrel
            cases hdj : digAt s j with
            | true =>
              have hjl := digAt_lt hdj
              have HM := Lib.hid (dgs_more s j hdj)
              have HJ := Lib.hid (HDG.out j true (by omega) hdj)
              clear hdj
              go_wp2_with (first | (go_at_call 57; refine (HJ.out _ _ rfl).mono ?_; rintro e w2 ⟨rfl, rfl⟩))
              go_round
              case rel => exact ⟨j + 1, by go_num, by omega, HM.out.trans HD.out⟩
              case measure => simp [intOf]; omega
            | false =>
              have HM := Lib.hid (dgs_stop s j hdj)
              have HJ := Lib.hid (HDG.out j false (by omega) hdj)
              clear hdj
              go_wp2_with (first | (go_at_call 57; refine (HJ.out _ _ rfl).mono ?_; rintro e w2 ⟨rfl, rfl⟩))
              go_meet
              case rel => exact ⟨by rw [← Hi1.out, Hz2.out, if_neg (by simp), ← HD.out, HM.out], rfl⟩
      case rest =>
        obtain ⟨rfl, rfl⟩ := hcut
        clear H1 H2 H3 Hz1 Hz2 Hz e48
        by_cases hbad : isAt s i1 46 = true ∧ digAt s (i1 + 1) = false
        · have HN : Hid (numAt s i = badAt s (i1 + 1)) := by
            show _ = _
            unfold numAt
            simp only []
            rw [Hi0.out, if_neg (by simp [HD1.out]), Hi1.out, if_pos hbad]
          have H4 := Lib.hid (HIS.out i1 46 true (by omega) (by omega) (by omega) hbad.1)
          have H5 := Lib.hid (HDG.out (i1 + 1) false (by omega) hbad.2)
          clear hbad
          go_wp2_with (first | (go_at_call 60; refine (H4.out _ _ rfl).mono ?_; rintro e w2 ⟨rfl, rfl⟩) | (go_at_call 57; refine (H5.out _ _ (by push_cast; rfl)).mono ?_; rintro e w2 ⟨rfl, rfl⟩))
          refine (HBD.out (i1 + 1) (by omega) _ _ (by first | rfl | (push_cast; rfl))).mono ?_
          rintro e w2 ⟨rfl, hb2⟩
          have HV2 := Lib.hid (HV0.out.below hb2.out)
          have HB2 := Lib.hid (below_then HB0.out HB0.out.size hb2.out)
          clear hb2
          go_wp2_with (first | ((with_reducible refine wpl_store_got (cs := ?_) HV2.out rfl ?hx ?hy ?hs ?hz ?_); (case hx => rfl); (case hy => rfl); (case hs => rfl); (case hz => (first | (simp [Value.oneCell']; done) | assumption))))
          (try simp only [Exit.inBlock, Exit.then])
          refine bodyPost_ret (v := .agg (gotZ (badAt s (i1 + 1)).1 (badAt s (i1 + 1)).2)) ?_ rfl ?_
          · exact results_got rfl _ _ _ _ rfl HV2.out.set rfl
          · exact got_bad_ret (tmps := #[]) HN.out HB2.out
        · obtain ⟨i2, Hi2⟩ : ∃ i2, Hid ((if isAt s i1 46 = true then dgs s (i1 + 1) else i1) = i2) := ⟨_, rfl⟩
          have hi2 : i1 ≤ i2 ∧ i2 ≤ s.size := by
            rw [← Hi2.out]
            split
            · have := (isAt_lt (by assumption : isAt s i1 46 = true)).1
              have := dgs_le s (i1 + 1) (by omega)
              omega
            · omega
          have HNB := Lib.hid hbad
          obtain ⟨z3, Hz3⟩ : ∃ z, Hid (isAt s i1 46 = z) := ⟨_, rfl⟩
          have H4 := Lib.hid (HIS.out i1 46 z3 (by omega) (by omega) (by omega) Hz3.out)
          clear hbad
          go_upto_if 32 with (go_at_call 60; refine (H4.out _ _ rfl).mono ?_; rintro e w2 ⟨rfl, rfl⟩)
          go_cut [5] (fun v we => v = .int .i64 i2 ∧ we = wc)
          case first =>
            cases z3 with
            | false =>
              go_wp2
              go_meet
              case rel => exact ⟨by rw [← Hi2.out, Hz3.out, if_neg (by simp)], rfl⟩
            | true =>
              have hd2 : digAt s (i1 + 1) = true := by
                cases h : digAt s (i1 + 1) with
                | true => rfl
                | false => exact absurd ⟨Hz3.out, h⟩ HNB.out
              have hl2 := digAt_lt hd2
              have H5 := Lib.hid (HDG.out (i1 + 1) true (by omega) hd2)
              clear hd2
              go_wp2_with (first | (go_at_call 57; refine (H5.out _ _ (by push_cast; rfl)).mono ?_; rintro e w2 ⟨rfl, rfl⟩))
              go_loop [5] (fun v => ∃ j : Nat, v = .int .i64 j ∧ j ≤ s.size ∧ Hid (dgs s j = dgs s (i1 + 1))) (fun v => s.size - (intOf v).toNat)
              case atStart => exact ⟨i1 + 1, by first | rfl | go_num, by omega, rfl⟩
              case round =>
                obtain ⟨j, rfl, hj, HD⟩ := hrel
                cases hdj : digAt s j with
                | true =>
                  have hjl := digAt_lt hdj
                  have HM := Lib.hid (dgs_more s j hdj)
                  have HJ := Lib.hid (HDG.out j true (by omega) hdj)
                  clear hdj
                  go_wp2_with (first | (go_at_call 57; refine (HJ.out _ _ rfl).mono ?_; rintro e w2 ⟨rfl, rfl⟩))
                  go_round
                  case rel => exact ⟨j + 1, by go_num, by omega, HM.out.trans HD.out⟩
                  case measure => simp [intOf]; omega
                | false =>
                  have HM := Lib.hid (dgs_stop s j hdj)
                  have HJ := Lib.hid (HDG.out j false (by omega) hdj)
                  clear hdj
                  go_wp2_with (first | (go_at_call 57; refine (HJ.out _ _ rfl).mono ?_; rintro e w2 ⟨rfl, rfl⟩))
                  go_meet
                  case rel => exact ⟨by rw [← Hi2.out, Hz3.out, if_pos rfl, ← HD.out, HM.out], rfl⟩
          case rest =>
            obtain ⟨rfl, rfl⟩ := hcut
            clear H4 Hz3
            have HI2 : Hid (∀ (c I : Int) (W : World), I = (i2 : Int) → 0 ≤ c → c ≤ 255 → Calls Tryd.prog 60 #[.string s, .int .i64 I, .int .u8 c] W fun e w' => e = .returned (.bool (isAt s i2 c)) ∧ W = w') := fun c I W h h1 h2 => HIS.out i2 c _ (by omega) h1 h2 rfl I W h
            by_cases hex : isAt s i2 101 = true ∨ isAt s i2 69 = true
            · have hi2l : i2 < s.size := by
                rcases hex with h | h
                · exact (isAt_lt h).1
                · exact (isAt_lt h).1
              obtain ⟨i3, Hi3⟩ : ∃ i3, Hid ((if isAt s (i2 + 1) 43 = true ∨ isAt s (i2 + 1) 45 = true then i2 + 2 else i2 + 1) = i3) := ⟨_, rfl⟩
              have hi3 : i2 + 1 ≤ i3 ∧ i3 ≤ s.size := by
                rw [← Hi3.out]
                split
                · have : i2 + 1 < s.size := by
                    rcases (by assumption : isAt s (i2 + 1) 43 = true ∨ isAt s (i2 + 1) 45 = true) with h | h
                    · exact (isAt_lt h).1
                    · exact (isAt_lt h).1
                  omega
                · omega
              have HN1 : Hid (numAt s i = if digAt s i3 = false then badAt s i3 else ((dgs s i3 : Int), 0)) := by
                show _ = _
                unfold numAt
                simp only []
                rw [Hi0.out, if_neg (by simp [HD1.out]), Hi1.out, if_neg HNB.out, Hi2.out, if_pos hex, Hi3.out]
              have HI3 : Hid (∀ (c I : Int) (W : World), I = ((i2 + 1 : Nat) : Int) → 0 ≤ c → c ≤ 255 → Calls Tryd.prog 60 #[.string s, .int .i64 I, .int .u8 c] W fun e w' => e = .returned (.bool (isAt s (i2 + 1) c)) ∧ W = w') := fun c I W h h1 h2 => HIS.out (i2 + 1) c _ (by omega) h1 h2 rfl I W h
              go_upto_region 16 with (fail)
              go_cut [54] (fun v we => v = .bool true ∧ we = wc)
              case first =>
                cases hx1 : isAt s i2 101 with
                | true =>
                  clear hex
                  go_wp2_with (first | (go_at_call 60; refine (HI2.out _ _ _ rfl (by omega) (by omega)).mono ?_; rintro e w2 ⟨rfl, rfl⟩))
                  go_meet
                  case rel => exact ⟨rfl, rfl⟩
                | false =>
                  have hx2 : isAt s i2 69 = true := by
                    rcases hex with h | h
                    · rw [hx1] at h; cases h
                    · exact h
                  clear hex
                  go_wp2_with (first | (go_at_call 60; refine (HI2.out _ _ _ rfl (by omega) (by omega)).mono ?_; rintro e w2 ⟨rfl, rfl⟩))
                  go_meet
                  case rel => exact ⟨rfl, rfl⟩
              case rest =>
                obtain ⟨rfl, rfl⟩ := hcut
                clear hex HI2
                obtain ⟨z5, Hz5⟩ : ∃ z, Hid (decide (isAt s (i2 + 1) 43 = true ∨ isAt s (i2 + 1) 45 = true) = z) := ⟨_, rfl⟩
                go_upto_region 18 with (fail)
                go_cut [64] (fun v we => v = .bool z5 ∧ we = wc)
                case first =>
                  cases hx1 : isAt s (i2 + 1) 43 with
                  | true =>
                    go_wp2_with (first | (go_at_call 60; refine (HI3.out _ _ _ (by push_cast; rfl) (by omega) (by omega)).mono ?_; rintro e w2 ⟨rfl, rfl⟩))
                    go_meet
                    case rel => exact ⟨by rw [← Hz5.out]; simp [hx1], rfl⟩
                  | false =>
                    cases hx2 : isAt s (i2 + 1) 45 with
                    | true =>
                      go_wp2_with (first | (go_at_call 60; refine (HI3.out _ _ _ (by push_cast; rfl) (by omega) (by omega)).mono ?_; rintro e w2 ⟨rfl, rfl⟩))
                      go_meet
                      case rel => exact ⟨by rw [← Hz5.out]; simp [hx2], rfl⟩
                    | false =>
                      go_wp2_with (first | (go_at_call 60; refine (HI3.out _ _ _ (by push_cast; rfl) (by omega) (by omega)).mono ?_; rintro e w2 ⟨rfl, rfl⟩))
                      go_meet
                      case rel => exact ⟨by rw [← Hz5.out]; simp [hx1, hx2], rfl⟩
                case rest =>
                  obtain ⟨rfl, rfl⟩ := hcut
                  go_upto_if 64 with (fail)
                  go_cut [5] (fun v we => v = .int .i64 i3 ∧ we = wc)
                  case first =>
                    have h5 := Hz5.out
                    cases z5 with
                    | true =>
                      go_wp2
                      go_meet
                      case rel => exact ⟨by rw [← Hi3.out, if_pos (by simpa using h5)]; go_num, rfl⟩
                    | false =>
                      go_wp2
                      go_meet
                      case rel => exact ⟨by rw [← Hi3.out, if_neg (by simpa using h5)]; go_num, rfl⟩
                  case rest =>
                    obtain ⟨rfl, rfl⟩ := hcut
                    clear HI3 Hz5 Hi3
                    by_cases hd3 : digAt s i3 = false
                    · have HN : Hid (numAt s i = badAt s i3) := by show _ = _; rw [HN1.out, if_pos hd3]
                      have H9 := Lib.hid (HDG.out i3 false (by omega) hd3)
                      clear hd3
                      go_wp2_with (first | (go_at_call 57; refine (H9.out _ _ rfl).mono ?_; rintro e w2 ⟨rfl, rfl⟩))
                      refine (HBD.out (i3) (by omega) _ _ (by first | rfl | (push_cast; rfl))).mono ?_
                      rintro e w2 ⟨rfl, hb2⟩
                      have HV2 := Lib.hid (HV0.out.below hb2.out)
                      have HB2 := Lib.hid (below_then HB0.out HB0.out.size hb2.out)
                      clear hb2
                      go_wp2_with (first | ((with_reducible refine wpl_store_got (cs := ?_) HV2.out rfl ?hx ?hy ?hs ?hz ?_); (case hx => rfl); (case hy => rfl); (case hs => rfl); (case hz => (first | (simp [Value.oneCell']; done) | assumption))))
                      (try simp only [Exit.inBlock, Exit.then])
                      refine bodyPost_ret (v := .agg (gotZ (badAt s (i3)).1 (badAt s (i3)).2)) ?_ rfl ?_
                      · exact results_got rfl _ _ _ _ rfl HV2.out.set rfl
                      · exact got_bad_ret (tmps := #[]) HN.out HB2.out
                    · have hd4 : digAt s i3 = true := by simpa using hd3
                      have HN : Hid (numAt s i = ((dgs s i3 : Int), 0)) := by show _ = _; rw [HN1.out, if_neg hd3]
                      have H9 := Lib.hid (HDG.out i3 true (by omega) hd4)
                      clear hd3 hd4
                      go_wp2_with (first | (go_at_call 57; refine (H9.out _ _ rfl).mono ?_; rintro e w2 ⟨rfl, rfl⟩))
                      go_loop [5] (fun v => ∃ j : Nat, v = .int .i64 j ∧ i3 ≤ j ∧ j ≤ s.size ∧ Hid (dgs s j = dgs s (i3))) (fun v => s.size - (intOf v).toNat)
                      case atStart => exact ⟨i3, by first | rfl | go_num, by omega, by omega, rfl⟩
                      case round =>
                        obtain ⟨j, rfl, hj0, hj, HD⟩ := hrel
                        cases hdj : digAt s j with
                        | true =>
                          have hjl := digAt_lt hdj
                          have HM := Lib.hid (dgs_more s j hdj)
                          have HJ := Lib.hid (HDG.out j true (by omega) hdj)
                          clear hdj
                          go_wp2_with (first | (go_at_call 57; refine (HJ.out _ _ rfl).mono ?_; rintro e w2 ⟨rfl, rfl⟩))
                          go_round
                          case rel => exact ⟨j + 1, by go_num, by omega, by omega, HM.out.trans HD.out⟩
                          case measure => simp [intOf]; omega
                        | false =>
                          have HM := Lib.hid (dgs_stop s j hdj)
                          have HJ := Lib.hid (HDG.out j false (by omega) hdj)
                          clear hdj
                          have hs1 : i ≤ j := by omega
                          have HN2 : Hid (numAt s i = ((j : Int), 0)) := by show _ = _; rw [HN.out, ← HD.out, HM.out]
                          clear HN HM HD
                          go_wp2_with (first | (go_at_call 57; refine (HJ.out _ _ rfl).mono ?_; rintro e w2 ⟨rfl, rfl⟩) | ((with_reducible refine wpl_store_got (cs := ?_) HV0.out rfl ?hx ?hy ?hs ?hz ?_); (case hx => rfl); (case hy => rfl); (case hs => rfl); (case hz => (first | (simp [Value.oneCell']; done) | assumption))))
                          (try simp only [Exit.inBlock, Exit.then])
                          refine bodyPost_ret (v := .agg #[.int .i64 3, .string (s.extract i (j)), .slice none 0 0, .slice none 0 0, .string ⟨#[]⟩, .int .i64 ((j : Nat) : Int), .int .i64 0]) ?_ rfl ?_
                          · exact results_got rfl _ _ _ _ rfl HV0.out.set rfl
                          · exact num_good_ret HN2.out HB0.out
            · have HN : Hid (numAt s i = ((i2 : Int), 0)) := by
                show _ = _
                unfold numAt
                simp only []
                rw [Hi0.out, if_neg (by simp [HD1.out]), Hi1.out, if_neg HNB.out, Hi2.out, if_neg hex]
              have hex1 : isAt s i2 101 = false := by simp at hex; exact hex.1
              have hex2 : isAt s i2 69 = false := by simp at hex; exact hex.2
              have hs1 : i ≤ i2 := by omega
              have hs2 : i2 ≤ s.size := by omega
              clear hex
              go_wp2_with (first | (go_at_call 60; refine (HI2.out _ _ _ rfl (by omega) (by omega)).mono ?_; rintro e w2 ⟨rfl, rfl⟩) | ((with_reducible refine wpl_store_got (cs := ?_) HV0.out rfl ?hx ?hy ?hs ?hz ?_); (case hx => rfl); (case hy => rfl); (case hs => rfl); (case hz => (first | (simp [Value.oneCell']; done) | assumption))))
              (try simp only [Exit.inBlock, Exit.then])
              refine bodyPost_ret (v := .agg #[.int .i64 3, .string (s.extract i (i2)), .slice none 0 0, .slice none 0 0, .string ⟨#[]⟩, .int .i64 ((i2 : Nat) : Int), .int .i64 0]) ?_ rfl ?_
              · exact results_got rfl _ _ _ _ rfl HV0.out.set rfl
              · exact num_good_ret HN.out HB0.out
end
end Go.Proofs.YtpdpgppaoipnlaaDoor
