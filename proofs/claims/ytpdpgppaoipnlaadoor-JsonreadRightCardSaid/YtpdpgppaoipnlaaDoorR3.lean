/- JsonreadRight's walk. -/
import Derived.Test.YtpdpgppaoipnlaaDoorRA
import Derived.Test.YtpdpgppaoipnlaaDoorK5
set_option linter.unusedVariables false
set_option linter.unusedSimpArgs false
namespace Go.Proofs.YtpdpgppaoipnlaaDoor
open Go.RowKit Go.PlainAid
open Go.Proofs.YtpdpgppaoipnlaaDoorW.PrintWords hiding bt
open Go.Proofs.YtpdpgppaoipnlaaDoorW.PrintMore

/-- Check, of a right value. -/
theorem Check_ok {E : Nat → Addr} (n : Nat) (x : JV) (cs : List Value) (w : World) (hs : Sents E w) (hk : (jd n).K w x cs) (ht : totV x ≤ 100000) (ho : okV x 1 = true) :
    Calls Tryd.prog 25 #[.agg cs.toArray] w fun e w' => e = .returned .nilIface ∧ Hid (Below w.heap.size w w') := by
  refine (Check_any (E := E) n x cs w hs hk ht).mono ?_
  rintro e w' ⟨v, rfl, h1, h2⟩
  obtain ⟨_, rfl⟩ := Or.resolve_right h1.out (fun h => absurd h.1 (by rw [(chk_ok x).2 ho]; omega))
  exact ⟨rfl, h2⟩
/-- Text, of a right value. -/
theorem Text_ok {E : Nat → Addr} (n : Nat) (x : JV) (cs : List Value) (w : World) (hs : Sents E w) (hk : (jd n).K w x cs) (ht : totV x ≤ 100000) (ho : okV x 1 = true) :
    Calls Tryd.prog 26 #[.agg cs.toArray] w fun e w' => e = .returned (.string (strOfNums (putV x))) ∧ Hid (Below w.heap.size w w') := by
  have hl := putV_len x
  refine (Text_any (E := E) n x cs w hs hk ht (by omega)).mono ?_
  rintro e w' ⟨rfl, h2⟩
  refine ⟨?_, h2⟩
  unfold txtV
  rw [if_pos ((chk_ok x).2 ho)]

set_option maxHeartbeats 2000000 in
set_option maxRecDepth 100000 in
theorem jsonreadRight_walk {E : Nat → Addr} [AllE E] (s : ByteArray) (w : World) (hs : Sents E w) :
    Calls Tryd.prog 10 #[.string s] w fun e w' => e = .returned (.bool true) ∧ Below w.heap.size w w' := by
  have HS := Lib.hid hs
  have HAW := Lib.hid (awake13 w hs)
  clear hs
  by_cases hl : 300 < s.size
  · have h1 : decide (300 < (s.size : Int)) = true := by simp; omega
    have h2 : decide (300 < s.size) = true := by simpa using hl
    go_enter Tryd.func10, Tryd.ntmps10
    go_wp2_with (first | (go_at_call 12; refine HAW.out.mono ?_; rintro e w1 ⟨rfl, HB⟩))
    go_ret
    exact ⟨rfl, HB.out⟩
  · have h1 : decide (300 < (s.size : Int)) = false := by simp; omega
    have h2 : decide (300 < s.size) = false := by simpa using hl
    obtain ⟨x, p, c, hr⟩ : ∃ x p c, readV s = (x, p, c) := ⟨_, _, _, rfl⟩
    have HR := Lib.hid hr
    have hl2 : s.size ≤ 300 := by omega
    clear hl
    by_cases hc : c = 0
    · subst hc
      have hg := readV_good hr
      have HO := Lib.hid hg.1
      have HT : Hid (totV x ≤ 1200) := by show _ ≤ _; omega
      obtain ⟨p2, hr2⟩ := readV_put hg.1 (by have := HT.out; omega)
      have HR2 := Lib.hid hr2
      have HL : Hid ((strOfNums (putV x)).size ≤ 100000) := by
        show _ ≤ _
        rw [strOfNums_size]
        have := putV_len x
        have := HT.out
        omega
      have HTT : Hid (totV x ≤ 100000) := by show _ ≤ _; have := HT.out; omega
      clear hr hg hr2 HT
      go_enter Tryd.func10, Tryd.ntmps10
      go_wp2_with (first | (go_at_call 12; refine HAW.out.mono ?_; rintro e w1 ⟨rfl, HB⟩))
      refine (Read_ok (E := E) s x p _ (by omega) (HS.out.below HB.out) HR.out).mono ?_
      rintro e w2 ⟨A2, c2, A3, c3, rfl, HK, HB2⟩
      have HB3 := Lib.hid (below_then HB.out HB.out.size HB2.out)
      have H1 : Hid (Row 26 w2.heap.size (leafA 0 ⟨#[]⟩) (w2.alloc (.cells (leafA 0 ⟨#[]⟩) 26))) := Row.new w2 _ _ rfl
      have H1B := Lib.hid ((Below.refl w2.heap.size w2).alloc (Nat.le_refl _) (.cells (leafA 0 ⟨#[]⟩) 26))
      clear HB HB2
      go_wp2_with (first | ((with_reducible refine wpl_put_val (cs := ?_) H1.out rfl ?hx ?hy ?hs ?hz ?_); (case hx => rfl); (case hy => rfl); (case hs => rfl); (case hz => (simp [Value.oneCell']; done)); intro w4 hr4 hw4; have HR4 := Lib.hid hr4; have d0 := hr4.cell 0 _ rfl; have d1 := hr4.cell 1 _ rfl; have d2 := hr4.cell 2 _ rfl; have d3 := hr4.cell 3 _ rfl; have hb4 := hw4.below H1B.out (Nat.le_refl _); have HK4 := Lib.hid ((jd 32).K_below hb4 HK.out); have HB4 := Lib.hid (below_then HB3.out HB3.out.size hb4); clear hr4 hw4 hb4))
      refine (Text_ok (E := E) 32 x _ _ (HS.out.below HB4.out) HK4.out HTT.out HO.out).mono ?_
      rintro e w5 ⟨rfl, hb5⟩
      have HK5 := Lib.hid ((jd 32).K_below hb5.out HK4.out)
      have HR5 := Lib.hid (HR4.out.below hb5.out)
      have HB5 := Lib.hid (below_then HB4.out HB4.out.size hb5.out)
      clear hb5 HK4 HR4 HB4 d0 d1 d2 d3 H1 H1B HK HB3
      obtain ⟨t, HTx⟩ : ∃ t, Hid (strOfNums (putV x) = t) := ⟨_, rfl⟩
      rw [HTx.out] at HR2 HL ⊢
      go_wp2_with fail
      refine (Read_ok (E := E) t x p2 _ HL.out (HS.out.below HB5.out) HR2.out).mono ?_
      rintro e w6 ⟨Y2, y2, Y3, y3, rfl, HM, hb6⟩
      have HK6 := Lib.hid ((jd 32).K_below hb6.out HK5.out)
      have HR6 := Lib.hid (HR5.out.below hb6.out)
      have HB6 := Lib.hid (below_then HB5.out HB5.out.size hb6.out)
      have H2 : Hid (Row 26 w6.heap.size (leafA 0 ⟨#[]⟩) (w6.alloc (.cells (leafA 0 ⟨#[]⟩) 26))) := Row.new w6 _ _ rfl
      have H2R := Lib.hid (HR6.out.old (.cells (leafA 0 ⟨#[]⟩) 26))
      have H2B := Lib.hid ((Below.refl w6.heap.size w6).alloc (Nat.le_refl _) (.cells (leafA 0 ⟨#[]⟩) 26))
      have hlt6 := HR6.out.lt
      clear hb6 HK5 HR5 HB5
      go_wp2_with (first | ((with_reducible refine wpl_put_val (cs := ?_) H2.out rfl ?hx ?hy ?hs ?hz ?_); (case hx => rfl); (case hy => rfl); (case hs => rfl); (case hz => (simp [Value.oneCell']; done)); intro w7 hr7 hw7; have HQ7 := Lib.hid hr7; have HR7 := Lib.hid (hw7.row H2R.out (by omega)); have d0 := HR7.out.cell 0 _ rfl; have d1 := HR7.out.cell 1 _ rfl; have d2 := HR7.out.cell 2 _ rfl; have d3 := HR7.out.cell 3 _ rfl; have hb7 := hw7.below H2B.out (Nat.le_refl _); have HK7 := Lib.hid ((jd 32).K_below hb7 HK6.out); have HM7 := Lib.hid ((jd 32).K_below hb7 HM.out); have HB7 := Lib.hid (below_then HB6.out HB6.out.size hb7); clear hr7 hw7 hb7))
      refine (Check_ok (E := E) 32 x _ _ (HS.out.below HB7.out) HK7.out HTT.out HO.out).mono ?_
      rintro e w8 ⟨rfl, hb8⟩
      have HK8 := Lib.hid ((jd 32).K_below hb8.out HK7.out)
      have HM8 := Lib.hid ((jd 32).K_below hb8.out HM7.out)
      have HR8 := Lib.hid (HR7.out.below hb8.out)
      have HQ8 := Lib.hid (HQ7.out.below hb8.out)
      have HB8 := Lib.hid (below_then HB7.out HB7.out.size hb8.out)
      clear hb8 HK7 HM7 HR7 HQ7 HB7 d0 d1 d2 d3 H2 H2R H2B HM HK6 HR6 HB6 hlt6
      have d0 := HR8.out.cell 0 _ rfl
      have d1 := HR8.out.cell 1 _ rfl
      have d2 := HR8.out.cell 2 _ rfl
      have d3 := HR8.out.cell 3 _ rfl
      have f0 := HQ8.out.cell 0 _ rfl
      have f1 := HQ8.out.cell 1 _ rfl
      have f2 := HQ8.out.cell 2 _ rfl
      have f3 := HQ8.out.cell 3 _ rfl
      go_wp2_with fail
      refine (Same_any x x _ _ 32 32 _ HK8.out HM8.out).mono ?_
      rintro e w9 ⟨rfl, hb9⟩
      rw [sameV_refl]
      have HM9 := Lib.hid ((jd 32).K_below hb9.out HM8.out)
      have HQ9 := Lib.hid (HQ8.out.below hb9.out)
      have HB9 := Lib.hid (below_then HB8.out HB8.out.size hb9.out)
      clear hb9 HK8 HM8 HR8 HQ8 HB8 d0 d1 d2 d3 f0 f1 f2 f3
      have f0 := HQ9.out.cell 0 _ rfl
      have f1 := HQ9.out.cell 1 _ rfl
      have f2 := HQ9.out.cell 2 _ rfl
      have f3 := HQ9.out.cell 3 _ rfl
      go_wp2_with fail
      refine (Text_ok (E := E) 32 x _ _ (HS.out.below HB9.out) HM9.out HTT.out HO.out).mono ?_
      rintro e w10 ⟨rfl, hb10⟩
      rw [HTx.out]
      have HB10 := Lib.hid (below_then HB9.out HB9.out.size hb10.out)
      clear hb10
      go_wp2_with fail
      go_ret
      exact ⟨rfl, HB10.out⟩
    · have HCn := Lib.hid hc
      clear hc hr
      go_enter Tryd.func10, Tryd.ntmps10
      go_wp2_with (first | (go_at_call 12; refine HAW.out.mono ?_; rintro e w1 ⟨rfl, HB⟩))
      refine (Read_no (E := E) s x p c _ (by omega) (HS.out.below HB.out) HR.out HCn.out).mono ?_
      rintro e w2 ⟨A2, c2, A3, c3, q, rfl, HK, HE, HB2⟩
      have HB3 := Lib.hid (below_then HB.out HB.out.size HB2.out)
      have H1 : Hid (Row 26 w2.heap.size (leafA 0 ⟨#[]⟩) (w2.alloc (.cells (leafA 0 ⟨#[]⟩) 26))) := Row.new w2 _ _ rfl
      have H1B := Lib.hid ((Below.refl w2.heap.size w2).alloc (Nat.le_refl _) (.cells (leafA 0 ⟨#[]⟩) 26))
      clear HB HB2
      go_wp2_with (first | ((with_reducible refine wpl_put_val (cs := ?_) H1.out rfl ?hx ?hy ?hs ?hz ?_); (case hx => rfl); (case hy => rfl); (case hs => rfl); (case hz => (simp [Value.oneCell']; done)); intro w4 hr4 hw4; have hb4 := hw4.below H1B.out (Nat.le_refl _); have HB4 := Lib.hid (below_then HB3.out HB3.out.size hb4); clear hr4 hw4 hb4))
      go_ret
      exact ⟨rfl, HB4.out⟩
end Go.Proofs.YtpdpgppaoipnlaaDoor
