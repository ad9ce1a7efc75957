/- The walks of the small functions of utf and its reference. -/
import Derived.Test.YtfcfehiijainpaaDoorProg
import Derived.Test.YtfcfehiijainpaaDoorUtfP
import Derived.Test.YtfcfehiijainpaaDoorIs
import Derived.WalkKit
import Derived.WalkSpells
import Derived.WalkLawsBesides
import Derived.Deep.QuietTactic
import Derived.BigQuiet
import Derived.Handy
import Derived.Deep.Light
set_option linter.unusedVariables false
set_option linter.unusedSimpArgs false
namespace Go.Proofs.YtfcfehiijainpaaDoor
open Go.RowKit

set_option maxHeartbeats 400000 in
theorem utf_Right_any (r : Int) (w : World) :
    Calls Tryd.prog 36 #[.int .i32 r] w fun e w' => e = .returned (.bool (utfRight r)) ∧ w' = w := by
  go_enter Tryd.func36, Tryd.ntmps36
  go_wp2
  all_goals
    go_ret
    exact ⟨ret_bool (by rw [Bool.eq_iff_iff]; simp [utfRight] <;> omega), rfl⟩

set_option maxHeartbeats 400000 in
theorem utf_Width_any (r : Int) (w : World) :
    Calls Tryd.prog 38 #[.int .i32 r] w fun e w' => e = .returned (.int .i64 (utfWidth r)) ∧ w' = w := by
  by_cases hr : utfRight r = false
  all_goals
    go_enter Tryd.func38, Tryd.ntmps38
    go_wp2_with (go_at_call 36; refine (utf_Right_any _ _).mono ?_; rintro e w' ⟨rfl, rfl⟩)
    all_goals
      go_ret
      refine ⟨ret_int (by unfold utfWidth; (repeat' split) <;> first | rfl | omega | simp_all), rfl⟩

theorem results_tmp4 {fn : Func} {t u v x : Tmp} (h : fn.results = #[.tmp t, .tmp u, .tmp v, .tmp x]) (tmps : Array Value) (P : Program) (w : World) :
    (results fn tmps).run P w = .ok (.tuple #[tmps.getD t undef, tmps.getD u undef, tmps.getD v undef, tmps.getD x undef]) w := by
  simp [results, h]

def Quiet (w w' : World) : Prop := ∃ n, w' = w.drewN n
theorem Quiet.refl (w : World) : Quiet w w := ⟨0, rfl⟩

def FirstIs (b : Int) (w : World) (e : Ending) (w' : World) : Prop :=
  e = .returned (.tuple #[.int .i64 (utfFirst b).1, .int .i32 (utfFirst b).2.1, .int .u8 (utfFirst b).2.2.1, .int .u8 (utfFirst b).2.2.2]) ∧ Quiet w w'
theorem FirstIs.mk {b : Int} {w w' : World} {e : Ending} {m r l h : Int} (he : e = .returned (.tuple #[.int .i64 m, .int .i32 r, .int .u8 l, .int .u8 h])) (hf : utfFirst b = (m, r, l, h)) (hw : Quiet w w') : FirstIs b w e w' := by
  refine ⟨?_, hw⟩; rw [hf, he]

set_option maxHeartbeats 1000000 in
theorem utf_first_any (b : Int) (w : World) (h0 : 0 ≤ b) (h1 : b ≤ 255) :
    Calls Tryd.prog 44 #[.int .u8 b] w (FirstIs b w) := by
  go_enter Tryd.func44, Tryd.ntmps44
  go_wp2
  all_goals
    try go_quiet (fail)
    try go_wp2
    (try simp only [Exit.inBlock, Exit.then]); refine bodyPost_ret (results_tmp4 rfl _ _ _) rfl ?_
    refine FirstIs.mk rfl ?_ (by first | exact Quiet.refl _ | exact ⟨_, rfl⟩)
    go_light
    try simp only [beq_iff_eq, beq_eq_false_iff_ne, ne_eq] at *
    unfold utfFirst
    (repeat (first | rw [if_pos (by omega)] | rw [if_neg (by omega)]))
end Go.Proofs.YtfcfehiijainpaaDoor
