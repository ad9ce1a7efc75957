/- utf.fault and utf.Next by their contracts. -/
import Derived.Test.YtfcfehiijainpaaDoorUtfA
import Derived.Test.YtfcfehiijainpaaDoorIs
import Derived.PlainAid
import Derived.Lib.Hide
set_option linter.unusedVariables false
set_option linter.unusedSimpArgs false
namespace Go.Proofs.YtfcfehiijainpaaDoor
open Go.RowKit Go.PlainAid

theorem utf_fault_any (at_ : Int) (a : Addr) (w : World) :
    Calls Tryd.prog 43 #[.int .i64 at_, .iface 127 (.pointer (some a))] w fun e w' => e = .returned (.iface 69 (.pointer (some ⟨w.heap.size, 0, none⟩))) ∧ w' = w.alloc (.cells #[.int .i64 at_, .iface 127 (.pointer (some a))] 73) := by
  go_enter Tryd.func43, Tryd.ntmps43
  go_wp2
  go_ret
  exact ⟨rfl, rfl⟩

/-- A new fault. -/
theorem ErrV.new {E : Nat → Addr} {w : World} {at_ code : Int} {k : Nat} (hc : code = k) (h1 : 1 ≤ k) (h2 : k ≤ 18) :
    ErrV E (w.alloc (.cells #[.int .i64 at_, .iface 127 (.pointer (some (E k)))] 73)) (.iface 69 (.pointer (some ⟨w.heap.size, 0, none⟩))) at_ code := by
  subst hc
  exact .inr ⟨by omega, by omega, _, rfl, by simp, by simp⟩

def NextIs (E : Nat → Addr) (s : ByteArray) (at_ : Int) (w : World) (e : Ending) (w' : World) : Prop :=
  ∃ v, e = .returned (.tuple #[.int .i32 (nx s at_).1, .int .i64 (nx s at_).2.1, v]) ∧ ErrV E w' v at_ (nx s at_).2.2 ∧ Below w.heap.size w w'

theorem NextIs.bad {E : Nat → Addr} {s : ByteArray} {at_ : Int} {w W : World} (k : Nat) (h1 : 1 ≤ k) (h2 : k ≤ 18) (hn : nx s at_ = (0, 0, (k : Int))) (hb : Below w.heap.size w W) :
    NextIs E s at_ w (.returned (.tuple #[.int .i32 0, .int .i64 0, .iface 69 (.pointer (some ⟨W.heap.size, 0, none⟩))])) (W.alloc (.cells #[.int .i64 at_, .iface 127 (.pointer (some (E k)))] 73)) := by
  refine ⟨_, by rw [hn], ?_, hb.alloc hb.size _⟩
  rw [hn]; exact ErrV.new rfl h1 h2
theorem NextIs.good {E : Nat → Addr} {s : ByteArray} {at_ : Int} {w W : World} {r n : Int} (hn : nx s at_ = (r, n, 0)) (hb : Below w.heap.size w W) :
    NextIs E s at_ w (.returned (.tuple #[.int .i32 r, .int .i64 n, .nilIface])) W :=
  ⟨_, by rw [hn], by rw [hn]; exact .inl ⟨rfl, rfl⟩, hb⟩

set_option maxHeartbeats 2000000 in
theorem utf_Next_out {E : Nat → Addr} (s : ByteArray) (at_ : Int) (w : World) (hl : s.size ≤ 140737488351232) (hs : Sents E w) (h : at_ < 0 ∨ s.size ≤ at_) :
    Calls Tryd.prog 16 #[.string s, .int .i64 at_] w (NextIs E s at_ w) := by
  have c4 := hs.c4
  go_enter Tryd.func16, Tryd.ntmps16
  go_wp2
  all_goals
    go_ret3
    exact NextIs.bad 4 (by omega) (by omega) (by unfold nx; rw [if_pos h]; rfl) (Below.refl _ _)

theorem utf_first_at (b m r lo hi : Int) (w : World) (h0 : 0 ≤ b) (h1 : b ≤ 255) (hf : utfFirst b = (m, r, lo, hi)) :
    Calls Tryd.prog 44 #[.int .u8 b] w fun e w' => e = .returned (.tuple #[.int .i64 m, .int .i32 r, .int .u8 lo, .int .u8 hi]) ∧ ∃ n, w' = w.drewN n :=
  (utf_first_any b w h0 h1).mono fun e w' ⟨he, hw⟩ => ⟨by rw [he, hf], hw⟩

theorem below_drewN {w : World} (n : Nat) : Below w.heap.size w (w.drewN n) := ⟨rfl, rfl, rfl, Nat.le_refl _, fun _ _ => rfl⟩

set_option maxHeartbeats 4000000 in
theorem utf_Next_n {E : Nat → Addr} (s : ByteArray) (at_ : Int) (w : World) (hl : s.size ≤ 140737488351232) (hs : Sents E w) (h0 : 0 ≤ at_) (h1 : at_ < s.size)
    (r lo hi : Int) (hf : utfFirst (bt s at_.toNat) = (-1, r, lo, hi)) (hr0 : 0 ≤ r) (hr1 : r ≤ 0) :
    Calls Tryd.prog 16 #[.string s, .int .i64 at_] w (NextIs E s at_ w) := by
  have c1 := hs.c1
  have c2 := hs.c2
  have hbt := get_bt s
  have hfst := utf_first_at (bt s at_.toNat) (-1) r lo hi w (bt_nonneg _ _) (bt_le _ _) hf
  have HF := Lib.hid hf
  clear hf
  go_enter Tryd.func16, Tryd.ntmps16
  go_wp2_with fail
  refine hfst.mono ?_
  rintro e w' ⟨rfl, n, rfl⟩
  go_wp2_with (go_at_call 43; refine (utf_fault_any _ _ _).mono ?_; rintro e w' ⟨rfl, rfl⟩)
  all_goals
    go_ret3
    first
      | exact NextIs.bad 1 (by omega) (by omega) (by unfold nx; rw [if_neg (by omega), HF.out]; unfold nxStep; simp only []; (repeat (first | rw [if_pos (by first | omega | trivial)] | rw [if_neg (by first | omega | trivial)])) <;> rfl) (below_drewN _)
      | exact NextIs.bad 2 (by omega) (by omega) (by unfold nx; rw [if_neg (by omega), HF.out]; unfold nxStep; simp only []; (repeat (first | rw [if_pos (by first | omega | trivial)] | rw [if_neg (by first | omega | trivial)])) <;> rfl) (below_drewN _)
      | (refine NextIs.good ?_ (below_drewN _); unfold nx; rw [if_neg (by omega), HF.out]; unfold nxStep; simp only []; (repeat (first | rw [if_pos (by first | omega | trivial)] | rw [if_neg (by first | omega | trivial)])))
set_option maxHeartbeats 4000000 in
theorem utf_Next_0 {E : Nat → Addr} (s : ByteArray) (at_ : Int) (w : World) (hl : s.size ≤ 140737488351232) (hs : Sents E w) (h0 : 0 ≤ at_) (h1 : at_ < s.size)
    (r lo hi : Int) (hf : utfFirst (bt s at_.toNat) = (0, r, lo, hi)) (hr0 : 0 ≤ r) (hr1 : r ≤ 127) :
    Calls Tryd.prog 16 #[.string s, .int .i64 at_] w (NextIs E s at_ w) := by
  have c1 := hs.c1
  have c2 := hs.c2
  have hbt := get_bt s
  have hfst := utf_first_at (bt s at_.toNat) (0) r lo hi w (bt_nonneg _ _) (bt_le _ _) hf
  have HF := Lib.hid hf
  clear hf
  go_enter Tryd.func16, Tryd.ntmps16
  go_wp2_with fail
  refine hfst.mono ?_
  rintro e w' ⟨rfl, n, rfl⟩
  go_wp2_with (go_at_call 43; refine (utf_fault_any _ _ _).mono ?_; rintro e w' ⟨rfl, rfl⟩)
  refine wp_loop_rounds 1 ?_
  repeat any_goals (rw [rounds_succ]; go_wp2_with (go_at_call 43; refine (utf_fault_any _ _ _).mono ?_; rintro e w' ⟨rfl, rfl⟩))
  all_goals
    go_ret3
    first
      | exact NextIs.bad 1 (by omega) (by omega) (by unfold nx; rw [if_neg (by omega), HF.out]; unfold nxStep; simp only []; (repeat (first | rw [if_pos (by first | omega | trivial)] | rw [if_neg (by first | omega | trivial)])) <;> rfl) (below_drewN _)
      | exact NextIs.bad 2 (by omega) (by omega) (by unfold nx; rw [if_neg (by omega), HF.out]; unfold nxStep; simp only []; (repeat (first | rw [if_pos (by first | omega | trivial)] | rw [if_neg (by first | omega | trivial)])) <;> rfl) (below_drewN _)
      | (refine NextIs.good ?_ (below_drewN _); unfold nx; rw [if_neg (by omega), HF.out]; unfold nxStep; simp only []; (repeat (first | rw [if_pos (by first | omega | trivial)] | rw [if_neg (by first | omega | trivial)])))
set_option maxHeartbeats 4000000 in
theorem utf_Next_1 {E : Nat → Addr} (s : ByteArray) (at_ : Int) (w : World) (hl : s.size ≤ 140737488351232) (hs : Sents E w) (h0 : 0 ≤ at_) (h1 : at_ < s.size)
    (r lo hi : Int) (hf : utfFirst (bt s at_.toNat) = (1, r, lo, hi)) (hr0 : 0 ≤ r) (hr1 : r ≤ 31) :
    Calls Tryd.prog 16 #[.string s, .int .i64 at_] w (NextIs E s at_ w) := by
  have c1 := hs.c1
  have c2 := hs.c2
  have hbt := get_bt s
  have hfst := utf_first_at (bt s at_.toNat) (1) r lo hi w (bt_nonneg _ _) (bt_le _ _) hf
  have HF := Lib.hid hf
  clear hf
  have n1 := bt_nonneg s (at_ + 1).toNat
  have l1 := bt_le s (at_ + 1).toNat
  go_enter Tryd.func16, Tryd.ntmps16
  go_wp2_with fail
  refine hfst.mono ?_
  rintro e w' ⟨rfl, n, rfl⟩
  go_wp2_with (go_at_call 43; refine (utf_fault_any _ _ _).mono ?_; rintro e w' ⟨rfl, rfl⟩)
  refine wp_loop_rounds 2 ?_
  repeat any_goals (rw [rounds_succ]; go_wp2_with (go_at_call 43; refine (utf_fault_any _ _ _).mono ?_; rintro e w' ⟨rfl, rfl⟩))
  all_goals
    go_ret3
    first
      | exact NextIs.bad 1 (by omega) (by omega) (by unfold nx; rw [if_neg (by omega), HF.out]; unfold nxStep; simp only []; (repeat (first | rw [if_pos (by first | omega | trivial)] | rw [if_neg (by first | omega | trivial)])) <;> rfl) (below_drewN _)
      | exact NextIs.bad 2 (by omega) (by omega) (by unfold nx; rw [if_neg (by omega), HF.out]; unfold nxStep; simp only []; (repeat (first | rw [if_pos (by first | omega | trivial)] | rw [if_neg (by first | omega | trivial)])) <;> rfl) (below_drewN _)
      | (refine NextIs.good ?_ (below_drewN _); unfold nx; rw [if_neg (by omega), HF.out]; unfold nxStep; simp only []; (repeat (first | rw [if_pos (by first | omega | trivial)] | rw [if_neg (by first | omega | trivial)])))
set_option maxHeartbeats 4000000 in
theorem utf_Next_2 {E : Nat → Addr} (s : ByteArray) (at_ : Int) (w : World) (hl : s.size ≤ 140737488351232) (hs : Sents E w) (h0 : 0 ≤ at_) (h1 : at_ < s.size)
    (r lo hi : Int) (hf : utfFirst (bt s at_.toNat) = (2, r, lo, hi)) (hr0 : 0 ≤ r) (hr1 : r ≤ 15) :
    Calls Tryd.prog 16 #[.string s, .int .i64 at_] w (NextIs E s at_ w) := by
  have c1 := hs.c1
  have c2 := hs.c2
  have hbt := get_bt s
  have hfst := utf_first_at (bt s at_.toNat) (2) r lo hi w (bt_nonneg _ _) (bt_le _ _) hf
  have HF := Lib.hid hf
  clear hf
  have n1 := bt_nonneg s (at_ + 1).toNat
  have l1 := bt_le s (at_ + 1).toNat
  have n2 := bt_nonneg s (at_ + 2).toNat
  have l2 := bt_le s (at_ + 2).toNat
  go_enter Tryd.func16, Tryd.ntmps16
  go_wp2_with fail
  refine hfst.mono ?_
  rintro e w' ⟨rfl, n, rfl⟩
  go_wp2_with (go_at_call 43; refine (utf_fault_any _ _ _).mono ?_; rintro e w' ⟨rfl, rfl⟩)
  refine wp_loop_rounds 3 ?_
  repeat any_goals (rw [rounds_succ]; go_wp2_with (go_at_call 43; refine (utf_fault_any _ _ _).mono ?_; rintro e w' ⟨rfl, rfl⟩))
  all_goals
    go_ret3
    first
      | exact NextIs.bad 1 (by omega) (by omega) (by unfold nx; rw [if_neg (by omega), HF.out]; unfold nxStep; simp only []; (repeat (first | rw [if_pos (by first | omega | trivial)] | rw [if_neg (by first | omega | trivial)])) <;> rfl) (below_drewN _)
      | exact NextIs.bad 2 (by omega) (by omega) (by unfold nx; rw [if_neg (by omega), HF.out]; unfold nxStep; simp only []; (repeat (first | rw [if_pos (by first | omega | trivial)] | rw [if_neg (by first | omega | trivial)])) <;> rfl) (below_drewN _)
      | (refine NextIs.good ?_ (below_drewN _); unfold nx; rw [if_neg (by omega), HF.out]; unfold nxStep; simp only []; (repeat (first | rw [if_pos (by first | omega | trivial)] | rw [if_neg (by first | omega | trivial)])))
set_option maxHeartbeats 4000000 in
theorem utf_Next_3 {E : Nat → Addr} (s : ByteArray) (at_ : Int) (w : World) (hl : s.size ≤ 140737488351232) (hs : Sents E w) (h0 : 0 ≤ at_) (h1 : at_ < s.size)
    (r lo hi : Int) (hf : utfFirst (bt s at_.toNat) = (3, r, lo, hi)) (hr0 : 0 ≤ r) (hr1 : r ≤ 7) :
    Calls Tryd.prog 16 #[.string s, .int .i64 at_] w (NextIs E s at_ w) := by
  have c1 := hs.c1
  have c2 := hs.c2
  have hbt := get_bt s
  have hfst := utf_first_at (bt s at_.toNat) (3) r lo hi w (bt_nonneg _ _) (bt_le _ _) hf
  have HF := Lib.hid hf
  clear hf
  have n1 := bt_nonneg s (at_ + 1).toNat
  have l1 := bt_le s (at_ + 1).toNat
  have n2 := bt_nonneg s (at_ + 2).toNat
  have l2 := bt_le s (at_ + 2).toNat
  have n3 := bt_nonneg s (at_ + 3).toNat
  have l3 := bt_le s (at_ + 3).toNat
  go_enter Tryd.func16, Tryd.ntmps16
  go_wp2_with fail
  refine hfst.mono ?_
  rintro e w' ⟨rfl, n, rfl⟩
  go_wp2_with (go_at_call 43; refine (utf_fault_any _ _ _).mono ?_; rintro e w' ⟨rfl, rfl⟩)
  refine wp_loop_rounds 4 ?_
  repeat any_goals (rw [rounds_succ]; go_wp2_with (go_at_call 43; refine (utf_fault_any _ _ _).mono ?_; rintro e w' ⟨rfl, rfl⟩))
  all_goals
    go_ret3
    first
      | exact NextIs.bad 1 (by omega) (by omega) (by unfold nx; rw [if_neg (by omega), HF.out]; unfold nxStep; simp only []; (repeat (first | rw [if_pos (by first | omega | trivial)] | rw [if_neg (by first | omega | trivial)])) <;> rfl) (below_drewN _)
      | exact NextIs.bad 2 (by omega) (by omega) (by unfold nx; rw [if_neg (by omega), HF.out]; unfold nxStep; simp only []; (repeat (first | rw [if_pos (by first | omega | trivial)] | rw [if_neg (by first | omega | trivial)])) <;> rfl) (below_drewN _)
      | (refine NextIs.good ?_ (below_drewN _); unfold nx; rw [if_neg (by omega), HF.out]; unfold nxStep; simp only []; (repeat (first | rw [if_pos (by first | omega | trivial)] | rw [if_neg (by first | omega | trivial)])))
end Go.Proofs.YtfcfehiijainpaaDoor
