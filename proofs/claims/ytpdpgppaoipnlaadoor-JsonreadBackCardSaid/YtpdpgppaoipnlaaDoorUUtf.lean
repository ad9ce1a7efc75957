/- What the claim uses of the text Utf. -/
import Derived.Test.YtpdpgppaoipnlaaDoorProg
import Derived.Test.YtpdpgppaoipnlaaDoorUBase
import Derived.Test.YtpdpgppaoipnlaaDoorUErrs
import Derived.WalkKit
import Derived.WalkSpells
import Derived.WalkLawsBesides
import Derived.Deep.QuietTactic
import Derived.BigQuiet
import Derived.Handy
import Derived.Deep.Light
import Derived.PlainAid
import Derived.Lib.Hide
import Derived.Test.YtpdpgppaoipnlaaDoorUPAllx0
set_option linter.unusedVariables false
set_option linter.unusedSimpArgs false
namespace Go.Proofs.YtpdpgppaoipnlaaDoor
section
open Go.RowKit

set_option maxHeartbeats 400000 in
theorem utf_Right_any (r : Int) (w : World) :
    Calls Tryd.prog 108 #[.int .i32 r] w fun e w' => e = .returned (.bool (utfRight r)) ∧ w' = w := by
  go_enter Tryd.func108, Tryd.ntmps108
  go_wp2
  all_goals
    go_ret
    exact ⟨ret_bool (by rw [Bool.eq_iff_iff]; simp [utfRight] <;> omega), rfl⟩

set_option maxHeartbeats 400000 in
theorem utf_Width_any (r : Int) (w : World) :
    Calls Tryd.prog 120 #[.int .i32 r] w fun e w' => e = .returned (.int .i64 (utfWidth r)) ∧ w' = w := by
  by_cases hr : utfRight r = false
  all_goals
    go_enter Tryd.func120, Tryd.ntmps120
    go_wp2_with (go_at_call 108; refine (utf_Right_any _ _).mono ?_; rintro e w' ⟨rfl, rfl⟩)
    all_goals
      go_ret
      refine ⟨ret_int (by unfold utfWidth; (repeat' split) <;> first | rfl | omega | simp_all), rfl⟩

theorem results_tmp4 {fn : Func} {t u v x : Tmp} (h : fn.results = #[.tmp t, .tmp u, .tmp v, .tmp x]) (tmps : Array Value) (P : Program) (w : World) :
    (results fn tmps).run P w = .ok (.tuple #[tmps.getD t undef, tmps.getD u undef, tmps.getD v undef, tmps.getD x undef]) w := by
  simp [results, h]

def Quiet (w w' : World) : Prop := ∃ n, w' = w.drewN n
theorem Quiet.refl (w : World) : Quiet w w := ⟨0, rfl⟩

def FirstIs (b : Int) (w : World) (e : Ending) (w' : World) : Prop :=
  e = .returned (.tuple #[.int .i64 (utfFirst b).1, .int .i32 (utfFirst b).2.1, .int .u8 (utfFirst b).2.2.1, .int .u8 (utfFirst b).2.2.2]) ∧ Quiet w w'
theorem FirstIs.mk {b : Int} {w w' : World} {e : Ending} {m r l h : Int} (he : e = .returned (.tuple #[.int .i64 m, .int .i32 r, .int .u8 l, .int .u8 h])) (hf : utfFirst b = (m, r, l, h)) (hw : Quiet w w') : FirstIs b w e w' := by
  refine ⟨?_, hw⟩; rw [hf, he]

set_option maxHeartbeats 1000000 in
theorem utf_first_any (b : Int) (w : World) (h0 : 0 ≤ b) (h1 : b ≤ 255) :
    Calls Tryd.prog 113 #[.int .u8 b] w (FirstIs b w) := by
  go_enter Tryd.func113, Tryd.ntmps113
  go_wp2
  all_goals
    try go_quiet (fail)
    try go_wp2
    (try simp only [Exit.inBlock, Exit.then]); refine bodyPost_ret (results_tmp4 rfl _ _ _) rfl ?_
    refine FirstIs.mk rfl ?_ (by first | exact Quiet.refl _ | exact ⟨_, rfl⟩)
    go_light
    try simp only [beq_iff_eq, beq_eq_false_iff_ne, ne_eq] at *
    unfold utfFirst
    (repeat (first | rw [if_pos (by omega)] | rw [if_neg (by omega)]))
end

section
open Go.RowKit Go.PlainAid

theorem utf_fault_any (at_ : Int) (a : Addr) (w : World) :
    Calls Tryd.prog 109 #[.int .i64 at_, .iface 180 (.pointer (some a))] w fun e w' => e = .returned (.iface 69 (.pointer (some ⟨w.heap.size, 0, none⟩))) ∧ w' = w.alloc (.cells #[.int .i64 at_, .iface 180 (.pointer (some a))] 71) := by
  go_enter Tryd.func109, Tryd.ntmps109
  go_wp2
  go_ret
  exact ⟨rfl, rfl⟩

/-- A new fault. -/
theorem ErrV.new {E : Nat → Addr} {w : World} {at_ code : Int} {k : Nat} (hc : code = k) (h1 : 1 ≤ k) (h2 : k ≤ 18) :
    ErrV E (w.alloc (.cells #[.int .i64 at_, .iface 180 (.pointer (some (E k)))] 71)) (.iface 69 (.pointer (some ⟨w.heap.size, 0, none⟩))) at_ code := by
  subst hc
  exact .inr ⟨by omega, by omega, _, rfl, by simp, by simp⟩

def NextIs (E : Nat → Addr) (s : ByteArray) (at_ : Int) (w : World) (e : Ending) (w' : World) : Prop :=
  ∃ v, e = .returned (.tuple #[.int .i32 (nx s at_).1, .int .i64 (nx s at_).2.1, v]) ∧ ErrV E w' v at_ (nx s at_).2.2 ∧ Below w.heap.size w w'

theorem NextIs.bad {E : Nat → Addr} {s : ByteArray} {at_ : Int} {w W : World} (k : Nat) (h1 : 1 ≤ k) (h2 : k ≤ 18) (hn : nx s at_ = (0, 0, (k : Int))) (hb : Below w.heap.size w W) :
    NextIs E s at_ w (.returned (.tuple #[.int .i32 0, .int .i64 0, .iface 69 (.pointer (some ⟨W.heap.size, 0, none⟩))])) (W.alloc (.cells #[.int .i64 at_, .iface 180 (.pointer (some (E k)))] 71)) := by
  refine ⟨_, by rw [hn], ?_, hb.alloc hb.size _⟩
  rw [hn]; exact ErrV.new rfl h1 h2
theorem NextIs.good {E : Nat → Addr} {s : ByteArray} {at_ : Int} {w W : World} {r n : Int} (hn : nx s at_ = (r, n, 0)) (hb : Below w.heap.size w W) :
    NextIs E s at_ w (.returned (.tuple #[.int .i32 r, .int .i64 n, .nilIface])) W :=
  ⟨_, by rw [hn], by rw [hn]; exact .inl ⟨rfl, rfl⟩, hb⟩

set_option maxHeartbeats 2000000 in
theorem utf_Next_out {E : Nat → Addr} (s : ByteArray) (at_ : Int) (w : World) (hl : s.size ≤ 140737488351232) (hs : Sents E w) (h : at_ < 0 ∨ s.size ≤ at_) :
    Calls Tryd.prog 92 #[.string s, .int .i64 at_] w (NextIs E s at_ w) := by
  have c4 := hs.c4
  go_enter Tryd.func92, Tryd.ntmps92
  go_wp2
  all_goals
    go_ret3
    exact NextIs.bad 4 (by omega) (by omega) (by unfold nx; rw [if_pos h]; rfl) (Below.refl _ _)

theorem utf_first_at (b m r lo hi : Int) (w : World) (h0 : 0 ≤ b) (h1 : b ≤ 255) (hf : utfFirst b = (m, r, lo, hi)) :
    Calls Tryd.prog 113 #[.int .u8 b] w fun e w' => e = .returned (.tuple #[.int .i64 m, .int .i32 r, .int .u8 lo, .int .u8 hi]) ∧ ∃ n, w' = w.drewN n :=
  (utf_first_any b w h0 h1).mono fun e w' ⟨he, hw⟩ => ⟨by rw [he, hf], hw⟩

theorem below_drewN {w : World} (n : Nat) : Below w.heap.size w (w.drewN n) := ⟨rfl, rfl, rfl, Nat.le_refl _, fun _ _ => rfl⟩

set_option maxHeartbeats 4000000 in
theorem utf_Next_n {E : Nat → Addr} (s : ByteArray) (at_ : Int) (w : World) (hl : s.size ≤ 140737488351232) (hs : Sents E w) (h0 : 0 ≤ at_) (h1 : at_ < s.size)
    (r lo hi : Int) (hf : utfFirst (bt s at_.toNat) = (-1, r, lo, hi)) (hr0 : 0 ≤ r) (hr1 : r ≤ 0) :
    Calls Tryd.prog 92 #[.string s, .int .i64 at_] w (NextIs E s at_ w) := by
  have c1 := hs.c1
  have c2 := hs.c2
  have hbt := get_bt s
  have hfst := utf_first_at (bt s at_.toNat) (-1) r lo hi w (bt_nonneg _ _) (bt_le _ _) hf
  have HF := Lib.hid hf
  clear hf
  go_enter Tryd.func92, Tryd.ntmps92
  go_wp2_with fail
  refine hfst.mono ?_
  rintro e w' ⟨rfl, n, rfl⟩
  go_wp2_with (go_at_call 109; refine (utf_fault_any _ _ _).mono ?_; rintro e w' ⟨rfl, rfl⟩)
  all_goals
    go_ret3
    first
      | exact NextIs.bad 1 (by omega) (by omega) (by unfold nx; rw [if_neg (by omega), HF.out]; unfold nxStep; simp only []; (repeat (first | rw [if_pos (by first | omega | trivial)] | rw [if_neg (by first | omega | trivial)])) <;> rfl) (below_drewN _)
      | exact NextIs.bad 2 (by omega) (by omega) (by unfold nx; rw [if_neg (by omega), HF.out]; unfold nxStep; simp only []; (repeat (first | rw [if_pos (by first | omega | trivial)] | rw [if_neg (by first | omega | trivial)])) <;> rfl) (below_drewN _)
      | (refine NextIs.good ?_ (below_drewN _); unfold nx; rw [if_neg (by omega), HF.out]; unfold nxStep; simp only []; (repeat (first | rw [if_pos (by first | omega | trivial)] | rw [if_neg (by first | omega | trivial)])))
set_option maxHeartbeats 4000000 in
theorem utf_Next_0 {E : Nat → Addr} (s : ByteArray) (at_ : Int) (w : World) (hl : s.size ≤ 140737488351232) (hs : Sents E w) (h0 : 0 ≤ at_) (h1 : at_ < s.size)
    (r lo hi : Int) (hf : utfFirst (bt s at_.toNat) = (0, r, lo, hi)) (hr0 : 0 ≤ r) (hr1 : r ≤ 127) :
    Calls Tryd.prog 92 #[.string s, .int .i64 at_] w (NextIs E s at_ w) := by
  have c1 := hs.c1
  have c2 := hs.c2
  have hbt := get_bt s
  have hfst := utf_first_at (bt s at_.toNat) (0) r lo hi w (bt_nonneg _ _) (bt_le _ _) hf
  have HF := Lib.hid hf
  clear hf
  go_enter Tryd.func92, Tryd.ntmps92
  go_wp2_with fail
  refine hfst.mono ?_
  rintro e w' ⟨rfl, n, rfl⟩
  go_wp2_with (go_at_call 109; refine (utf_fault_any _ _ _).mono ?_; rintro e w' ⟨rfl, rfl⟩)
  refine wp_loop_rounds 1 ?_
  repeat any_goals (rw [rounds_succ]; go_wp2_with (go_at_call 109; refine (utf_fault_any _ _ _).mono ?_; rintro e w' ⟨rfl, rfl⟩))
  all_goals
    go_ret3
    first
      | exact NextIs.bad 1 (by omega) (by omega) (by unfold nx; rw [if_neg (by omega), HF.out]; unfold nxStep; simp only []; (repeat (first | rw [if_pos (by first | omega | trivial)] | rw [if_neg (by first | omega | trivial)])) <;> rfl) (below_drewN _)
      | exact NextIs.bad 2 (by omega) (by omega) (by unfold nx; rw [if_neg (by omega), HF.out]; unfold nxStep; simp only []; (repeat (first | rw [if_pos (by first | omega | trivial)] | rw [if_neg (by first | omega | trivial)])) <;> rfl) (below_drewN _)
      | (refine NextIs.good ?_ (below_drewN _); unfold nx; rw [if_neg (by omega), HF.out]; unfold nxStep; simp only []; (repeat (first | rw [if_pos (by first | omega | trivial)] | rw [if_neg (by first | omega | trivial)])))
set_option maxHeartbeats 4000000 in
theorem utf_Next_1 {E : Nat → Addr} (s : ByteArray) (at_ : Int) (w : World) (hl : s.size ≤ 140737488351232) (hs : Sents E w) (h0 : 0 ≤ at_) (h1 : at_ < s.size)
    (r lo hi : Int) (hf : utfFirst (bt s at_.toNat) = (1, r, lo, hi)) (hr0 : 0 ≤ r) (hr1 : r ≤ 31) :
    Calls Tryd.prog 92 #[.string s, .int .i64 at_] w (NextIs E s at_ w) := by
  have c1 := hs.c1
  have c2 := hs.c2
  have hbt := get_bt s
  have hfst := utf_first_at (bt s at_.toNat) (1) r lo hi w (bt_nonneg _ _) (bt_le _ _) hf
  have HF := Lib.hid hf
  clear hf
  have n1 := bt_nonneg s (at_ + 1).toNat
  have l1 := bt_le s (at_ + 1).toNat
  go_enter Tryd.func92, Tryd.ntmps92
  go_wp2_with fail
  refine hfst.mono ?_
  rintro e w' ⟨rfl, n, rfl⟩
  go_wp2_with (go_at_call 109; refine (utf_fault_any _ _ _).mono ?_; rintro e w' ⟨rfl, rfl⟩)
  refine wp_loop_rounds 2 ?_
  repeat any_goals (rw [rounds_succ]; go_wp2_with (go_at_call 109; refine (utf_fault_any _ _ _).mono ?_; rintro e w' ⟨rfl, rfl⟩))
  all_goals
    go_ret3
    first
      | exact NextIs.bad 1 (by omega) (by omega) (by unfold nx; rw [if_neg (by omega), HF.out]; unfold nxStep; simp only []; (repeat (first | rw [if_pos (by first | omega | trivial)] | rw [if_neg (by first | omega | trivial)])) <;> rfl) (below_drewN _)
      | exact NextIs.bad 2 (by omega) (by omega) (by unfold nx; rw [if_neg (by omega), HF.out]; unfold nxStep; simp only []; (repeat (first | rw [if_pos (by first | omega | trivial)] | rw [if_neg (by first | omega | trivial)])) <;> rfl) (below_drewN _)
      | (refine NextIs.good ?_ (below_drewN _); unfold nx; rw [if_neg (by omega), HF.out]; unfold nxStep; simp only []; (repeat (first | rw [if_pos (by first | omega | trivial)] | rw [if_neg (by first | omega | trivial)])))
set_option maxHeartbeats 4000000 in
theorem utf_Next_2 {E : Nat → Addr} (s : ByteArray) (at_ : Int) (w : World) (hl : s.size ≤ 140737488351232) (hs : Sents E w) (h0 : 0 ≤ at_) (h1 : at_ < s.size)
    (r lo hi : Int) (hf : utfFirst (bt s at_.toNat) = (2, r, lo, hi)) (hr0 : 0 ≤ r) (hr1 : r ≤ 15) :
    Calls Tryd.prog 92 #[.string s, .int .i64 at_] w (NextIs E s at_ w) := by
  have c1 := hs.c1
  have c2 := hs.c2
  have hbt := get_bt s
  have hfst := utf_first_at (bt s at_.toNat) (2) r lo hi w (bt_nonneg _ _) (bt_le _ _) hf
  have HF := Lib.hid hf
  clear hf
  have n1 := bt_nonneg s (at_ + 1).toNat
  have l1 := bt_le s (at_ + 1).toNat
  have n2 := bt_nonneg s (at_ + 2).toNat
  have l2 := bt_le s (at_ + 2).toNat
  go_enter Tryd.func92, Tryd.ntmps92
  go_wp2_with fail
  refine hfst.mono ?_
  rintro e w' ⟨rfl, n, rfl⟩
  go_wp2_with (go_at_call 109; refine (utf_fault_any _ _ _).mono ?_; rintro e w' ⟨rfl, rfl⟩)
  refine wp_loop_rounds 3 ?_
  repeat any_goals (rw [rounds_succ]; go_wp2_with (go_at_call 109; refine (utf_fault_any _ _ _).mono ?_; rintro e w' ⟨rfl, rfl⟩))
  all_goals
    go_ret3
    first
      | exact NextIs.bad 1 (by omega) (by omega) (by unfold nx; rw [if_neg (by omega), HF.out]; unfold nxStep; simp only []; (repeat (first | rw [if_pos (by first | omega | trivial)] | rw [if_neg (by first | omega | trivial)])) <;> rfl) (below_drewN _)
      | exact NextIs.bad 2 (by omega) (by omega) (by unfold nx; rw [if_neg (by omega), HF.out]; unfold nxStep; simp only []; (repeat (first | rw [if_pos (by first | omega | trivial)] | rw [if_neg (by first | omega | trivial)])) <;> rfl) (below_drewN _)
      | (refine NextIs.good ?_ (below_drewN _); unfold nx; rw [if_neg (by omega), HF.out]; unfold nxStep; simp only []; (repeat (first | rw [if_pos (by first | omega | trivial)] | rw [if_neg (by first | omega | trivial)])))
set_option maxHeartbeats 4000000 in
theorem utf_Next_3 {E : Nat → Addr} (s : ByteArray) (at_ : Int) (w : World) (hl : s.size ≤ 140737488351232) (hs : Sents E w) (h0 : 0 ≤ at_) (h1 : at_ < s.size)
    (r lo hi : Int) (hf : utfFirst (bt s at_.toNat) = (3, r, lo, hi)) (hr0 : 0 ≤ r) (hr1 : r ≤ 7) :
    Calls Tryd.prog 92 #[.string s, .int .i64 at_] w (NextIs E s at_ w) := by
  have c1 := hs.c1
  have c2 := hs.c2
  have hbt := get_bt s
  have hfst := utf_first_at (bt s at_.toNat) (3) r lo hi w (bt_nonneg _ _) (bt_le _ _) hf
  have HF := Lib.hid hf
  clear hf
  have n1 := bt_nonneg s (at_ + 1).toNat
  have l1 := bt_le s (at_ + 1).toNat
  have n2 := bt_nonneg s (at_ + 2).toNat
  have l2 := bt_le s (at_ + 2).toNat
  have n3 := bt_nonneg s (at_ + 3).toNat
  have l3 := bt_le s (at_ + 3).toNat
  go_enter Tryd.func92, Tryd.ntmps92
  go_wp2_with fail
  refine hfst.mono ?_
  rintro e w' ⟨rfl, n, rfl⟩
  go_wp2_with (go_at_call 109; refine (utf_fault_any _ _ _).mono ?_; rintro e w' ⟨rfl, rfl⟩)
  refine wp_loop_rounds 4 ?_
  repeat any_goals (rw [rounds_succ]; go_wp2_with (go_at_call 109; refine (utf_fault_any _ _ _).mono ?_; rintro e w' ⟨rfl, rfl⟩))
  all_goals
    go_ret3
    first
      | exact NextIs.bad 1 (by omega) (by omega) (by unfold nx; rw [if_neg (by omega), HF.out]; unfold nxStep; simp only []; (repeat (first | rw [if_pos (by first | omega | trivial)] | rw [if_neg (by first | omega | trivial)])) <;> rfl) (below_drewN _)
      | exact NextIs.bad 2 (by omega) (by omega) (by unfold nx; rw [if_neg (by omega), HF.out]; unfold nxStep; simp only []; (repeat (first | rw [if_pos (by first | omega | trivial)] | rw [if_neg (by first | omega | trivial)])) <;> rfl) (below_drewN _)
      | (refine NextIs.good ?_ (below_drewN _); unfold nx; rw [if_neg (by omega), HF.out]; unfold nxStep; simp only []; (repeat (first | rw [if_pos (by first | omega | trivial)] | rw [if_neg (by first | omega | trivial)])))
end

section
open Go.RowKit Go.PlainAid

theorem utf_Next_any {E : Nat → Addr} (s : ByteArray) (at_ : Int) (w : World) (hl : s.size ≤ 140737488351232) (hs : Sents E w) :
    Calls Tryd.prog 92 #[.string s, .int .i64 at_] w (NextIs E s at_ w) := by
  by_cases h : at_ < 0 ∨ s.size ≤ at_
  · exact utf_Next_out s at_ w hl hs h
  · have h0 := bt_nonneg s at_.toNat
    have h1 := bt_le s at_.toNat
    by_cases a : 245 ≤ bt s at_.toNat
    · exact utf_Next_n s at_ w hl hs (by omega) (by omega) 0 128 191 (by unfold utfFirst; rw [if_pos a]) (by omega) (by omega)
    · by_cases b : 240 ≤ bt s at_.toNat
      · exact utf_Next_3 s at_ w hl hs (by omega) (by omega) (bt s at_.toNat % 8) _ _ (by unfold utfFirst; rw [if_neg a, if_pos b]) (by omega) (by omega)
      · by_cases c : 224 ≤ bt s at_.toNat
        · exact utf_Next_2 s at_ w hl hs (by omega) (by omega) (bt s at_.toNat % 16) _ _ (by unfold utfFirst; rw [if_neg a, if_neg b, if_pos c]) (by omega) (by omega)
        · by_cases d : 194 ≤ bt s at_.toNat
          · exact utf_Next_1 s at_ w hl hs (by omega) (by omega) (bt s at_.toNat % 32) 128 191 (by unfold utfFirst; rw [if_neg a, if_neg b, if_neg c, if_pos d]) (by omega) (by omega)
          · by_cases e : 128 ≤ bt s at_.toNat
            · exact utf_Next_n s at_ w hl hs (by omega) (by omega) 0 128 191 (by unfold utfFirst; rw [if_neg a, if_neg b, if_neg c, if_neg d, if_pos e]) (by omega) (by omega)
            · exact utf_Next_0 s at_ w hl hs (by omega) (by omega) (bt s at_.toNat) 128 191 (by unfold utfFirst; rw [if_neg a, if_neg b, if_neg c, if_neg d, if_neg e]) (by omega) (by omega)

theorem utf_Next_ok {E : Nat → Addr} (s : ByteArray) (at_ r n : Int) (w : World) (hl : s.size ≤ 140737488351232) (hs : Sents E w) (hn : nx s at_ = (r, n, 0)) :
    Calls Tryd.prog 92 #[.string s, .int .i64 at_] w fun e w' => e = .returned (.tuple #[.int .i32 r, .int .i64 n, .nilIface]) ∧ Below w.heap.size w w' := by
  refine (utf_Next_any s at_ w hl hs).mono ?_
  rintro e w' ⟨v, he, hv, hb⟩
  rw [hn] at he hv
  rcases hv with ⟨_, rfl⟩ | ⟨h, _⟩
  · exact ⟨he, hb⟩
  · simp at h
theorem utf_Next_bad {E : Nat → Addr} (s : ByteArray) (at_ r n c : Int) (w : World) (hl : s.size ≤ 140737488351232) (hs : Sents E w) (hn : nx s at_ = (r, n, c)) (hc : c ≠ 0) :
    Calls Tryd.prog 92 #[.string s, .int .i64 at_] w fun e w' => ∃ p, e = .returned (.tuple #[.int .i32 r, .int .i64 n, .iface 69 (.pointer (some p))]) ∧ Hid (ErrV E w' (.iface 69 (.pointer (some p))) at_ c) ∧ Below w.heap.size w w' := by
  refine (utf_Next_any s at_ w hl hs).mono ?_
  rintro e w' ⟨v, he, hv, hb⟩
  rw [hn] at he hv
  have hv' := hv
  rcases hv with ⟨h, _⟩ | ⟨_, _, b, rfl, _⟩
  · exact absurd h hc
  · exact ⟨_, he, hv', hb⟩

end

section
open Go.RowKit Go.Proofs.YtpdpgppaoipnlaaDoorW.PrintWords Go.Proofs.YtpdpgppaoipnlaaDoorW.PrintMore

def DecIs (E : Nat → Addr) (s : ByteArray) (w : World) (e : Ending) (w' : World) : Prop :=
  ∃ lv ev, e = .returned (.tuple #[lv, ev]) ∧ Kd.R (Kd.int .i32) 21 w' w.heap.size (fun _ => True) lv (dec s).1 ∧ ErrV E w' ev (dec s).2.1 (dec s).2.2 ∧ Below w.heap.size w w'

set_option maxHeartbeats 2000000 in
set_option maxRecDepth 100000 in
theorem utf_Decode_any {E : Nat → Addr} (s : ByteArray) (w : World) (hl : s.size ≤ 1000000) (hs : Sents E w) :
    Calls Tryd.prog 114 #[.string s] w (DecIs E s w) := by
  have info := PAll.info21
  go_enter Tryd.func114, Tryd.ntmps114
  go_wp2
  go_loopg [4, 5] s.size (fun k v4 v5 w' => ∃ (acc : List Int) (at_ : Int), v5 = .int .i64 at_ ∧ Hid (0 ≤ at_ ∧ at_ ≤ s.size ∧ s.size - at_ ≤ k ∧ (acc.length : Int) ≤ at_) ∧ Hid (dcd s k at_ acc = dec s) ∧ Hid (Kd.R (Kd.int .i32) 21 w' w.heap.size (fun _ => True) v4 acc) ∧ Hid (Below w.heap.size w w'))
  case atStart => exact ⟨[], 0, rfl, ⟨by omega, by omega, by omega, by simp⟩, rfl, Kd.R_nil _ _ _ _ _, Below.refl _ _⟩
  case round =>
    obtain ⟨acc, at_, rfl, HI, HD, HR, HB⟩ := hrel
    obtain ⟨i0, i1, i2, i3⟩ := HI.out
    by_cases hlt : at_ < s.size
    · cases gk with
      | zero => omega
      | succ k1 =>
        rcases hn : nx s at_ with ⟨r, n, c⟩
        by_cases hc : c = 0
        · subst hc
          have hg := nx_good s at_ r n hn
          have HD2 : Hid (dcd s k1 (at_ + n) (acc ++ [r]) = dec s) := by
            have := HD.out
            unfold dcd at this
            rw [if_neg (by omega), hn, if_pos rfl] at this
            exact this
          have HN := Lib.hid hn
          clear hn HD HI
          go_wp2_with fail
          refine (utf_Next_ok s at_ r n _ (by omega) (hs.below HB.out) HN.out).mono ?_
          rintro e w6 ⟨rfl, hb⟩
          have HR6 := Lib.hid (Kd.R_below HR.out hb)
          have HB6 := Lib.hid (below_step HB.out hb)
          clear HR HB hb
          go_wp2_with (at_builtin; go_must (refine Kd.R_append (Kd.int .i32) (w0 := w) w.heap.size rfl (.tmp 23) (.tmp 25) 120 21 (.int .i32 0) 4 rfl Tryd.underlying120 info rfl (by decide) (by omega) _ acc r [.int .i32 r] (fun _ => True) (fun _ => False) rfl rfl ?aP (fun _ hk => hk.elim) ?aF ?aO ?aB ?aS ?aL ?_); (case aP => exact rfl); (case aB => exact HB6.out); (case aF => exact (fun _ _ => trivial)); (case aO => exact HR6.out); (case aS => exact below_size HB6.out); (case aL => omega); intro v139 w7 ho hb hg7 hat; have HR7 := Lib.hid ho; have HB7 := Lib.hid hb; clear HR6 HB6 ho hb hg7 hat)
          go_roundg k1
          case measure => omega
          case rel => exact ⟨acc ++ [r], at_ + n, rfl, ⟨by omega, by omega, by omega, by simp; omega⟩, HD2, HR7, HB7⟩
        · have HD2 : Hid (dec s = ([], at_, c)) := by
            have := HD.out
            unfold dcd at this
            rw [if_neg (by omega), hn, if_neg hc] at this
            exact this.symm
          have HN := Lib.hid hn
          clear hn HD HI
          go_wp2_with fail
          refine (utf_Next_bad s at_ r n c _ (by omega) (hs.below HB.out) HN.out hc).mono ?_
          rintro e w6 ⟨p, rfl, he, hb⟩
          have HB6 := Lib.hid (below_step HB.out hb)
          clear HR HB hb
          go_wp2
          go_ret2
          exact ⟨_, _, rfl, by rw [HD2.out]; exact Kd.R_nil _ _ _ _ _, by rw [HD2.out]; exact he.out, HB6.out⟩
    · have HD2 : Hid (dec s = (acc, 0, 0)) := by
        have := HD.out
        cases gk with
        | zero => exact this.symm
        | succ k1 =>
          unfold dcd at this
          rw [if_pos (by omega)] at this
          exact this.symm
      clear HD HI
      go_wp2
      go_ret2
      exact ⟨_, _, rfl, by rw [HD2.out]; exact HR.out, by rw [HD2.out]; exact .inl ⟨rfl, rfl⟩, HB.out⟩
end
end Go.Proofs.YtpdpgppaoipnlaaDoor

