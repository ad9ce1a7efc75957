/- The small functions of pct; 'each' by its contract, at each of its callbacks. -/
import Derived.Test.YtfcfehiijainpaaDoorPctP
import Derived.Test.YtfcfehiijainpaaDoorUtfN
import Derived.Lib.Hide
import Derived.Deep.QuietTactic
import Derived.BigQuiet
set_option linter.unusedVariables false
set_option linter.unusedSimpArgs false
namespace Go.Proofs.YtfcfehiijainpaaDoor
open Go.RowKit Go.PlainAid

theorem pct_fault_any (at_ : Int) (a : Addr) (w : World) :
    Calls Tryd.prog 57 #[.int .i64 at_, .iface 127 (.pointer (some a))] w fun e w' => e = .returned (.iface 69 (.pointer (some ⟨w.heap.size, 0, none⟩))) ∧ w' = w.alloc (.cells #[.int .i64 at_, .iface 127 (.pointer (some a))] 73) := by
  go_enter Tryd.func57, Tryd.ntmps57
  go_wp2
  go_ret
  exact ⟨rfl, rfl⟩

set_option maxHeartbeats 1000000 in
theorem pct_digit_any (b : Int) (w : World) (h0 : 0 ≤ b) (h1 : b ≤ 255) :
    Calls Tryd.prog 56 #[.int .u8 b] w fun e w' => e = .returned (.int .i64 (hexd b)) ∧ w' = w := by
  go_enter Tryd.func56, Tryd.ntmps56
  go_wp2
  all_goals
    go_ret
    refine ⟨ret_int ?_, rfl⟩
    go_light
    unfold hexd
    (repeat (first | rw [if_pos (by omega)] | rw [if_neg (by omega)])) <;> omega

theorem below_new {w0 w : World} (hb : Below w0.heap.size w0 w) (o : Obj) : Below w0.heap.size w0 (w.alloc o) := hb.alloc hb.size o

theorem or4_fin : ∀ x y : Fin 16, bits .or .i64 ((x.val : Int) * 16) (y.val : Int) = (x.val : Int) * 16 + (y.val : Int) := by decide +kernel
theorem i64_or4 (x y : Int) (hx0 : 0 ≤ x) (hx1 : x ≤ 15) (hy0 : 0 ≤ y) (hy1 : y ≤ 15) : bits .or .i64 (x * 16) y % 256 = 16 * x + y := by
  have h := or4_fin ⟨x.toNat, by omega⟩ ⟨y.toNat, by omega⟩
  simp only [Int.toNat_of_nonneg hx0, Int.toNat_of_nonneg hy0] at h
  rw [h]; omega
theorem PrintB {w0 w : World} (hb : Below w0.heap.size w0 w) (n : Nat) : Below w0.heap.size w0 (w.drewN n) := ⟨hb.os, hb.tape, hb.output, hb.size, hb.block⟩

def EachIs (E : Nat → Addr) (s : ByteArray) (St : List Int → List Int → World → Prop) (w0 : World) (e : Ending) (w' : World) : Prop :=
  ∃ v, e = .returned v ∧ ErrV E w' v (ue s).2.2.1 (ue s).2.2.2 ∧ ((ue s).2.2.2 = 0 → St (ue s).1 (ue s).2.1 w') ∧ Below w0.heap.size w0 w'

set_option maxHeartbeats 600000 in
set_option maxRecDepth 100000 in
theorem each_Unescape {E : Nat → Addr} (s : ByteArray) (St : List Int → List Int → World → Prop) (cap : Value) (w0 w : World) (hl : s.size ≤ 1000000) (hs : Sents E w0) (hb0 : Below w0.heap.size w0 w) (h0 : St [] [] w)
    (hdr : ∀ bs ps w n, St bs ps w → St bs ps (w.drewN n))
    (hcb : ∀ bs ps b at_ w, 0 ≤ b → b ≤ 255 → (bs.length : Int) ≤ 1000000 → St bs ps w → Below w0.heap.size w0 w → Calls Tryd.prog 51 #[.int .u8 b, .int .i64 at_, cap] w fun e w' => e = .returned (.tuple #[]) ∧ St (bs ++ [b]) (ps ++ [at_]) w' ∧ Below w0.heap.size w0 w') :
    Calls Tryd.prog 50 #[.string s, .func (.func 51) #[] #[cap]] w (EachIs E s St w0) := by
  have hbt := get_bt s
  have HCB := Lib.hid hcb
  clear hcb
  go_enter Tryd.func50, Tryd.ntmps50
  go_wp2_with fail
  go_loopg [5] s.size (fun k v5 w' => ∃ (bs ps : List Int) (at_ : Int), v5 = .int .i64 at_ ∧ Hid (0 ≤ at_ ∧ at_ ≤ s.size ∧ s.size - at_ ≤ k ∧ (bs.length : Int) ≤ at_) ∧ Hid (uesc s k at_ bs ps = ue s) ∧ Hid (St bs ps w') ∧ Hid (Below w0.heap.size w0 w'))
  case atStart => exact ⟨[], [], 0, rfl, ⟨by omega, by omega, by omega, by simp⟩, rfl, h0, hb0⟩
  case round =>
    obtain ⟨bs, ps, at_, rfl, HI, HD, HS, HB⟩ := hrel
    obtain ⟨i0, i1, i2, i3⟩ := HI.out
    have n0 := bt_nonneg s at_.toNat
    have l0 := bt_le s at_.toNat
    by_cases hlt : at_ < s.size
    · cases gk with
      | zero => omega
      | succ k1 =>
        by_cases c37 : bt s at_.toNat = 37
        · have c37b : (bt s at_.toNat != 37) = false := by rw [bne_eq_false_iff_eq]; exact c37
          have n1 := bt_nonneg s (at_ + 1).toNat
          have l1 := bt_le s (at_ + 1).toNat
          have n2 := bt_nonneg s (at_ + 2).toNat
          have l2 := bt_le s (at_ + 2).toNat
          by_cases hend : (s.size : Int) - at_ < 3
          · have HD2 : Hid (ue s = ([], [], at_, 2)) := by
              have := HD.out
              unfold uesc at this
              rw [if_neg (by omega), if_neg (by omega), if_pos hend] at this
              exact this.symm
            have c2 : wr.cell? ⟨2, 0, none⟩ = some (.iface 127 (.pointer (some (E 2)))) := cell_below HB.out hs.c2
            clear HD HI
            go_wp2_with (go_at_call 57; refine (pct_fault_any _ _ _).mono ?_; rintro e w' ⟨rfl, rfl⟩)
            go_ret
            exact ⟨_, rfl, by rw [HD2.out]; exact ErrV.new rfl (by omega) (by omega), by rw [HD2.out]; intro h; simp at h, below_new HB.out _⟩
          · have bh := hexd_le (bt s (at_ + 1).toNat)
            have bl := hexd_le (bt s (at_ + 2).toNat)
            have q1 : at_ + 1 < (s.size : Int) := by omega
            have q2 : at_ + 2 < (s.size : Int) := by omega
            have q1' : 0 ≤ at_ + 1 := by omega
            have q2' : 0 ≤ at_ + 2 := by omega
            by_cases hbad : hexd (bt s (at_ + 1).toNat) < 0 ∨ hexd (bt s (at_ + 2).toNat) < 0
            · have HD2 : Hid (ue s = ([], [], at_, 1)) := by
                have := HD.out
                unfold uesc at this
                rw [if_neg (by omega), if_neg (by omega), if_neg hend, if_pos hbad] at this
                exact this.symm
              have c1 : ∀ n, (wr.drewN n).cell? ⟨1, 0, none⟩ = some (.iface 127 (.pointer (some (E 1)))) := fun n => cell_below HB.out hs.c1
              clear HD HI
              go_wp2_with fail
              go_quiet ((go_at_call 56; exact Calls.quiet_of_same (pct_digit_any _ _ (by omega) (by omega))))
              go_wp2_with (go_at_call 57; refine (pct_fault_any _ _ _).mono ?_; rintro e w' ⟨rfl, rfl⟩)
              all_goals
                go_ret
                exact ⟨_, rfl, by rw [HD2.out]; exact ErrV.new rfl (by omega) (by omega), by rw [HD2.out]; intro h; simp at h, below_new (PrintB HB.out _) _⟩
            · have HD2 : Hid (uesc s k1 (at_ + 3) (bs ++ [16 * hexd (bt s (at_ + 1).toNat) + hexd (bt s (at_ + 2).toNat)]) (ps ++ [at_]) = ue s) := by
                have := HD.out
                unfold uesc at this
                rw [if_neg (by omega), if_neg (by omega), if_neg hend, if_neg hbad] at this
                exact this
              clear HD HI
              go_wp2_with fail
              go_quiet ((go_at_call 56; exact Calls.quiet_of_same (pct_digit_any _ _ (by omega) (by omega))))
              go_wp2_with fail
              rw [i64_or4 _ _ (by omega) (by omega) (by omega) (by omega)]
              refine (HCB.out bs ps _ at_ _ (by omega) (by omega) (by omega) (hdr _ _ _ _ HS.out) (PrintB HB.out _)).mono ?_
              rintro e w6 ⟨rfl, hst, hb⟩
              have HS6 := Lib.hid hst
              have HB6 := Lib.hid hb
              clear HS HB hst hb
              go_wp2_with fail
              go_roundg k1
              case measure => omega
              case rel => exact ⟨bs ++ [16 * hexd (bt s (at_ + 1).toNat) + hexd (bt s (at_ + 2).toNat)], ps ++ [at_], at_ + 3, by go_num, ⟨by omega, by omega, by omega, by simp; omega⟩, HD2, HS6, HB6⟩
        · have HD2 : Hid (uesc s k1 (at_ + 1) (bs ++ [bt s at_.toNat]) (ps ++ [at_]) = ue s) := by
            have := HD.out
            unfold uesc at this
            rw [if_neg (by omega), if_pos c37] at this
            exact this
          have c37b : (bt s at_.toNat != 37) = true := by rw [bne_iff_ne]; exact c37
          clear HD HI
          go_wp2_with fail
          refine (HCB.out bs ps _ at_ _ (by omega) (by omega) (by omega) HS.out HB.out).mono ?_
          rintro e w6 ⟨rfl, hst, hb⟩
          have HS6 := Lib.hid hst
          have HB6 := Lib.hid hb
          clear HS HB hst hb
          go_wp2_with fail
          go_roundg k1
          case measure => omega
          case rel => exact ⟨bs ++ [bt s at_.toNat], ps ++ [at_], at_ + 1, rfl, ⟨by omega, by omega, by omega, by simp; omega⟩, HD2, HS6, HB6⟩
    · have HD2 : Hid (ue s = (bs, ps, 0, 0)) := by
        have := HD.out
        cases gk with
        | zero => exact this.symm
        | succ k1 =>
          unfold uesc at this
          rw [if_pos (by omega)] at this
          exact this.symm
      clear HD HI
      go_wp2
      go_ret
      exact ⟨_, rfl, by rw [HD2.out]; exact .inl ⟨rfl, rfl⟩, by rw [HD2.out]; exact fun _ => HS.out, HB.out⟩
end Go.Proofs.YtfcfehiijainpaaDoor
