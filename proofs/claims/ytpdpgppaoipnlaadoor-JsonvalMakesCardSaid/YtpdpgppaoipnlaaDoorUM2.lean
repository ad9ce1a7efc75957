/- What the claim uses of the text M2. -/
import Derived.Test.YtpdpgppaoipnlaaDoorUM1
import Derived.Test.YtpdpgppaoipnlaaDoorUQ3
import Derived.Test.YtpdpgppaoipnlaaDoorUK5
set_option linter.unusedVariables false
set_option linter.unusedSimpArgs false
namespace Go.Proofs.YtpdpgppaoipnlaaDoor
open Go.RowKit Go.PlainAid
open Go.Proofs.YtpdpgppaoipnlaaDoorW.PrintWords hiding bt
open Go.Proofs.YtpdpgppaoipnlaaDoorW.PrintMore

/-- The library's table of the powers of ten holds what the program's text lays. -/
def Tab (w : World) : Prop := Lib.TabIs Tryd.prog w "internal/strconv.uint64pow10" .u64 Lib.pow10Tab
theorem tab_below {w w' : World} (h : Tab w) (hb : Below w.heap.size w w') : Tab w' := by
  unfold Tab Lib.TabIs World.var? at h ⊢
  rw [show Tryd.prog.globalNamed "internal/strconv.uint64pow10" = some 20 by kernel_rfl] at h ⊢
  simp only [Option.bind_some] at h ⊢
  have hlt : 20 < w.heap.size := by
    rcases Nat.lt_or_ge 20 w.heap.size with h' | h'
    · exact h'
    · rw [Array.getElem?_eq_none h'] at h; cases h
  rw [hb.block _ hlt]
  exact h
theorem below_grow {w : World} (k : Nat) (os : Array Obj) : Below w.heap.size w (Sort.grow (w.drewN k) os) :=
  ⟨rfl, rfl, rfl, by simp [Sort.grow, World.drewN], fun j hj => by simp [Sort.grow, World.drewN, Array.getElem?_append_left hj]⟩

set_option maxHeartbeats 1000000 in
theorem Str_val (s : ByteArray) (w : World) : Calls Tryd.prog 31 #[.string s] w fun e w' => e = .returned (.agg #[.int .i64 4, .string s, .slice none 0 0, .slice none 0 0]) ∧ Hid (Below w.heap.size w w') := by
  have HV0 : Hid (Row 26 w.heap.size (leafA 0 ⟨#[]⟩) (w.alloc (.cells (leafA 0 ⟨#[]⟩) 26))) := Row.new w _ _ rfl
  have HB0 : Hid (Below w.heap.size w (w.alloc (.cells (leafA 0 ⟨#[]⟩) 26))) := (Below.refl _ _).alloc (Nat.le_refl _) _
  go_enter Tryd.func31, Tryd.ntmps31
  go_wp2_with (first | ((with_reducible refine wpl_put_val (cs := ?_) HV0.out rfl ?hx ?hy ?hs ?hz ?_); (case hx => rfl); (case hy => rfl); (case hs => rfl); (case hz => (simp [Value.oneCell']; done)); intro w2 hr2 hw2))
  (try simp only [Exit.inBlock, Exit.then])
  have hb2 := hw2.below HB0.out (Nat.le_refl _)
  refine bodyPost_ret (v := .agg (leafA 4 s)) ?_ rfl ?_
  · exact results_val rfl _ _ _ _ rfl hr2 rfl
  · exact ⟨rfl, hb2⟩
set_option maxHeartbeats 1000000 in
theorem Int_val (n : Int) (h0 : -9223372036854775808 ≤ n) (h1 : n ≤ 9223372036854775807) (w : World) (ht : Tab w) : Calls Tryd.prog 32 #[.int .i64 n] w fun e w' => e = .returned (.agg #[.int .i64 3, .string (numT n), .slice none 0 0, .slice none 0 0]) ∧ Hid (Below w.heap.size w w') := by
  have HV0 : Hid (Row 26 w.heap.size (leafA 0 ⟨#[]⟩) (w.alloc (.cells (leafA 0 ⟨#[]⟩) 26))) := Row.new w _ _ rfl
  have HB0 : Hid (Below w.heap.size w (w.alloc (.cells (leafA 0 ⟨#[]⟩) 26))) := (Below.refl _ _).alloc (Nat.le_refl _) _
  have HT := Lib.hid (tab_below ht HB0.out)
  obtain ⟨t, Ht⟩ : ∃ t, Hid (numT n = t) := ⟨_, rfl⟩
  rw [Ht.out]
  have HC : Hid (Calls Tryd.prog 68 #[.int .i64 n] (w.alloc (.cells (leafA 0 ⟨#[]⟩) 26)) fun e w' => e = .returned (.string t) ∧ Hid (Below (w.alloc (.cells (leafA 0 ⟨#[]⟩) 26)).heap.size (w.alloc (.cells (leafA 0 ⟨#[]⟩) 26)) w')) := by
    refine (strconv_Itoa n h0 h1 _ HT.out).mono ?_
    rintro e w' ⟨rfl, k, os, rfl⟩
    exact ⟨by rw [← Ht.out]; rfl, below_grow k os⟩
  go_enter Tryd.func32, Tryd.ntmps32
  go_wp2_with (first | (go_at_call 68; refine HC.out.mono ?_; rintro e w1 ⟨rfl, hb1⟩; have HV1 := Lib.hid (HV0.out.below hb1.out); have HB1 := Lib.hid (below_then HB0.out HB0.out.size hb1.out); clear hb1) | ((with_reducible refine wpl_put_val (cs := ?_) HV1.out rfl ?hx ?hy ?hs ?hz ?_); (case hx => rfl); (case hy => rfl); (case hs => rfl); (case hz => (simp [Value.oneCell']; done)); intro w2 hr2 hw2))
  (try simp only [Exit.inBlock, Exit.then])
  have hb2 := hw2.below HB1.out (Nat.le_refl _)
  refine bodyPost_ret (v := .agg (leafA 3 t)) ?_ rfl ?_
  · exact results_val rfl _ _ _ _ rfl hr2 rfl
  · exact ⟨rfl, hb2⟩
end Go.Proofs.YtpdpgppaoipnlaaDoor

