/- What the claim uses of the text Q6. -/
import Derived.Test.YtpdpgppaoipnlaaDoorVT3
import Derived.Test.YtpdpgppaoipnlaaDoorVT5
import Derived.Test.YtpdpgppaoipnlaaDoorVRA
import Derived.Test.YtpdpgppaoipnlaaDoorVK4
import Derived.StillTailTactics
import Derived.Test.YtpdpgppaoipnlaaDoorVUtfLaw
import Derived.Deep.RegionHeld3
set_option linter.unusedVariables false
set_option linter.unusedSimpArgs false
namespace Go.Proofs.YtpdpgppaoipnlaaDoor
open Go.RowKit Go.PlainAid
open Go.Proofs.YtpdpgppaoipnlaaDoorW.PrintWords hiding bt
open Go.Proofs.YtpdpgppaoipnlaaDoorW.PrintMore

set_option maxHeartbeats 2000000 in
set_option maxRecDepth 100000 in
theorem Right_any (n : Nat) (x : JV) (cs : List Value) (w : World) (hk : (jd n).K w x cs) (ht : totV x ≤ 100000) :
    Calls Tryd.prog 33 #[.agg cs.toArray] w fun e w' => e = .returned (.bool (okV x 1)) ∧ Hid (Below w.heap.size w w') := by
  have HK := Lib.hid hk
  obtain ⟨n, rfl⟩ := jd_cells hk
  obtain ⟨A2, c2, A3, c3, rfl, l2, g2, l3, g3⟩ := jd_open hk
  clear hk l2 g2 l3 g3
  change Calls _ _ #[.agg #[.int .i64 x.kind, .string x.text, .slice A2 x.list.length c2, .slice A3 x.mem.length c3]] _ _
  have HO : Hid (((chk x).2 == 0) = okV x 1) := by
    show _ = _
    cases ho : okV x 1 with
    | true => rw [(chk_ok x).2 ho]; rfl
    | false => rw [beq_eq_false_iff_ne]; exact fun h => by rw [(chk_ok x).1 h] at ho; cases ho
  go_enter Tryd.func33, Tryd.ntmps33
  have HB0 : Hid (Below w.heap.size w (w.alloc (.cells #[.int .i64 x.kind, .string x.text, .slice A2 x.list.length c2, .slice A3 x.mem.length c3] 26))) := (Below.refl _ _).alloc (Nat.le_refl _) _
  have HC := Lib.hid (refCheck_any (n + 1) x _ _ ((jd (n + 1)).K_below HB0.out HK.out) ht)
  obtain ⟨r1, Hr1⟩ : ∃ r, Hid ((if (chk x).2 = 0 then 0 else (chk x).1) = r) := ⟨_, rfl⟩
  obtain ⟨r2, Hr2⟩ : ∃ r, Hid ((chk x).2 = r) := ⟨_, rfl⟩
  rw [Hr2.out] at HO
  go_wp2_with (go_at_call 42; refine HC.out.mono ?_; rintro e w1 ⟨rfl, h1⟩; rw [Hr1.out, Hr2.out])
  go_ret
  exact ⟨by rw [← HO.out]; rfl, below_then HB0.out HB0.out.size h1.out⟩

set_option maxHeartbeats 4000000 in
set_option maxRecDepth 100000 in
theorem jsonvalTexts_walk {E : Nat → Addr} (n : Nat) (a : JV) (cs : List Value) (s : ByteArray) (w : World) (hs : Sents E w) (hka : (jd n).K w a cs) (hza : szV reachBytes a) :
    Calls Tryd.prog 7 #[.agg cs.toArray, .string s] w fun e w' => e = .returned (.bool true) ∧ Below w.heap.size w w' := by
  have HKa := Lib.hid hka
  have HS := Lib.hid hs
  have HZa := Lib.hid hza
  obtain ⟨n', e1⟩ := jd_cells hka
  subst e1
  obtain ⟨A2, c2, A3, c3, rfl, l2, g2, l3, g3⟩ := jd_open hka
  clear hka hs hza l2 g2 l3 g3
  change Calls _ _ #[.agg #[.int .i64 a.kind, .string a.text, .slice A2 a.list.length c2, .slice A3 a.mem.length c3], .string s] _ _
  have HB0 : Hid (Below w.heap.size w (w.alloc (.cells #[.int .i64 a.kind, .string a.text, .slice A2 a.list.length c2, .slice A3 a.mem.length c3] 26))) := (Below.refl _ _).alloc (Nat.le_refl _) _
  have HRa : Hid (Row 26 w.heap.size #[.int .i64 a.kind, .string a.text, .slice A2 a.list.length c2, .slice A3 a.mem.length c3] (w.alloc (.cells #[.int .i64 a.kind, .string a.text, .slice A2 a.list.length c2, .slice A3 a.mem.length c3] 26))) := Row.new w _ _ rfl
  go_enter Tryd.func7, Tryd.ntmps7
  go_wp2_with fail
  obtain ⟨w0, hw0⟩ : ∃ w0, w.alloc (.cells #[.int .i64 a.kind, .string a.text, .slice A2 a.list.length c2, .slice A3 a.mem.length c3] 26) = w0 := ⟨_, rfl⟩
  rw [hw0] at HB0 HRa ⊢
  clear hw0
  refine (awake12 (E := E) _ (HS.out.below HB0.out)).mono ?_
  rintro e w1 ⟨rfl, H1⟩
  have c0 := (HRa.out.below H1.out).cell 0 _ rfl
  have c1 := (HRa.out.below H1.out).cell 1 _ rfl
  have c2' := (HRa.out.below H1.out).cell 2 _ rfl
  have c3' := (HRa.out.below H1.out).cell 3 _ rfl
  go_wp2_with fail
  refine (Great_any _ a _ _ ((jd _).K_below (below_then HB0.out HB0.out.size H1.out) HKa.out) HZa.out).mono ?_
  rintro e w2 ⟨g, rfl, hg, h2⟩
  have H2 := Lib.hid (below_then H1.out H1.out.size h2.out)
  clear h2 H1 c0 c1 c2' c3'
  by_cases hg1 : g = true
  · subst hg1
    go_wp2_with fail
    go_ret
    exact ⟨rfl, below_then HB0.out HB0.out.size H2.out⟩
  have hg2 : g = false := by cases g <;> simp_all
  subst hg2
  by_cases hsz : 60 < s.size
  · have hsd : decide ((60 : Int) < (s.size : Int)) = true := decide_eq_true (by omega)
    have hsd2 : decide (60 < s.size) = true := decide_eq_true hsz
    go_wp2_with fail
    go_ret
    exact ⟨rfl, below_then HB0.out HB0.out.size H2.out⟩
  have hsd : decide ((60 : Int) < (s.size : Int)) = false := decide_eq_false (by omega)
  have hsd2 : decide (60 < s.size) = false := decide_eq_false hsz
  have HSZ : Hid (s.size ≤ 60) := by show _ ≤ _; omega
  have HTa : Hid (totV a ≤ 2000) := by show _ ≤ _; have := hg.out rfl; omega
  have c0 := (HRa.out.below H2.out).cell 0 _ rfl
  have c1 := (HRa.out.below H2.out).cell 1 _ rfl
  have c2' := (HRa.out.below H2.out).cell 2 _ rfl
  have c3' := (HRa.out.below H2.out).cell 3 _ rfl
  clear hg1 hsz
  go_wp2_with fail
  refine (Right_any _ a _ _ ((jd _).K_below (below_then HB0.out HB0.out.size H2.out) HKa.out) (by have := HTa.out; omega)).mono ?_
  rintro e w3 ⟨rfl, h3⟩
  have H3 := Lib.hid (below_then H2.out H2.out.size h3.out)
  clear h3 H2 c0 c1 c2' c3' hg
  have HXq : Hid (∀ W, Calls Tryd.prog 35 #[.string s] W fun e w' => e = .returned (.string (strOfNums (quo (ints s)))) ∧ Hid (Below W.heap.size W w')) := fun W => Quote_any s W (by have := HSZ.out; omega)
  have HXrq : Hid (∀ W, Calls Tryd.prog 36 #[.string s] W fun e w' => e = .returned (.string (strOfNums (quo (ints s)))) ∧ Hid (Below W.heap.size W w')) := fun W => refQuote_any s W (by have := HSZ.out; omega)
  have HXw : Hid (∀ W, Calls Tryd.prog 37 #[.string s] W fun e w' => e = .returned (.bool (wrt s)) ∧ Hid (Below W.heap.size W w')) := fun W => Written_any s W (by have := HSZ.out; omega)
  have HXrw : Hid (∀ W, Calls Tryd.prog 38 #[.string s] W fun e w' => e = .returned (.bool (wrt s)) ∧ Hid (Below W.heap.size W w')) := fun W => refWritten_any s W (by have := HSZ.out; omega)
  have HXt : Hid (∀ W, Below w.heap.size w W → Calls Tryd.prog 26 #[.agg #[.int .i64 a.kind, .string a.text, .slice A2 a.list.length c2, .slice A3 a.mem.length c3]] W fun e w' => e = .returned (.string (strOfNums (txtV a))) ∧ Hid (Below W.heap.size W w')) := fun W hW =>
    Text_any (E := E) _ a _ W (HS.out.below hW) ((jd _).K_below hW HKa.out) (by have := HTa.out; omega) (by have := putV_len a; have := HTa.out; omega)
  have a0 := (HRa.out.below H3.out).cell 0 _ rfl
  have a1 := (HRa.out.below H3.out).cell 1 _ rfl
  have a2 := (HRa.out.below H3.out).cell 2 _ rfl
  have a3 := (HRa.out.below H3.out).cell 3 _ rfl
  obtain ⟨ob, hob⟩ : ∃ b, okV a 1 = b := ⟨_, rfl⟩
  have HOB := Lib.hid hob
  obtain ⟨qs, HQS⟩ : ∃ q, Hid (strOfNums (quo (ints s)) = q) := ⟨_, rfl⟩
  obtain ⟨ws, HWS⟩ : ∃ q, Hid (wrt s = q) := ⟨_, rfl⟩
  obtain ⟨ts, HTS⟩ : ∃ q, Hid (strOfNums (txtV a) = q) := ⟨_, rfl⟩
  rw [HQS.out] at HXq HXrq
  rw [HWS.out] at HXw HXrw
  rw [HTS.out] at HXt
  rw [hob]
  clear hob HQS HWS
  cases ob with
  | true =>
    have HRT : Hid (∀ W, Below w.heap.size w W → Calls Tryd.prog 34 #[.agg #[.int .i64 a.kind, .string a.text, .slice A2 a.list.length c2, .slice A3 a.mem.length c3]] W fun e w' => e = .returned (.string ts) ∧ Hid (Below W.heap.size W w')) := fun W hW => by
      rw [← HTS.out, show txtV a = putV a by unfold txtV; rw [if_pos ((chk_ok a).2 HOB.out)]]
      exact rtext_all _ a _ _ W ((jd _).K_below hW HKa.out) (by have := HTa.out; omega) HOB.out
    clear HTS HOB HTa HZa HSZ HKa HS
    have HB2 : Hid (Below w.heap.size w w3) := below_then HB0.out HB0.out.size H3.out
    go_wp2_with fail
    refine (HRT.out _ HB2.out).mono ?_
    rintro e w5 ⟨rfl, h5⟩
    have HB3 : Hid (Below w.heap.size w w5) := below_then HB2.out HB2.out.size h5.out
    have b0 := cell_below (w := w3) h5.out a0
    have b1 := cell_below (w := w3) h5.out a1
    have b2 := cell_below (w := w3) h5.out a2
    have b3 := cell_below (w := w3) h5.out a3
    clear h5 HB2 a0 a1 a2 a3
    go_wp2_with fail
    refine (HXt.out _ HB3.out).mono ?_
    rintro e w4 ⟨rfl, h4⟩
    have hb := Lib.hid (below_then HB3.out HB3.out.size h4.out)
    clear h4 HB3 HXt H3 HRa HB0
    go_wp2_with (first
      | (go_at_call 35; refine (HXq.out _).mono ?_; rintro e w9 ⟨rfl, hb9⟩; have hb := Lib.hid (below_then hb.out hb.out.size hb9.out); clear hb9)
      | (go_at_call 36; refine (HXrq.out _).mono ?_; rintro e w9 ⟨rfl, hb9⟩; have hb := Lib.hid (below_then hb.out hb.out.size hb9.out); clear hb9)
      | (go_at_call 37; refine (HXw.out _).mono ?_; rintro e w9 ⟨rfl, hb9⟩; have hb := Lib.hid (below_then hb.out hb.out.size hb9.out); clear hb9)
      | (go_at_call 38; refine (HXrw.out _).mono ?_; rintro e w9 ⟨rfl, hb9⟩; have hb := Lib.hid (below_then hb.out hb.out.size hb9.out); clear hb9))
    go_ret
    exact ⟨by simp, hb.out⟩
  | false =>
    obtain rfl : ts = ⟨#[]⟩ := by rw [← HTS.out, show txtV a = [] by unfold txtV; rw [if_neg (fun h => by have := (chk_ok a).1 h; rw [HOB.out] at this; cases this)]]; rfl
    clear HTS HOB HTa HZa HSZ HKa HS
    have HB3 : Hid (Below w.heap.size w w3) := below_then HB0.out HB0.out.size H3.out
    go_wp2_with fail
    refine (HXt.out _ HB3.out).mono ?_
    rintro e w4 ⟨rfl, h4⟩
    have hb := Lib.hid (below_then HB3.out HB3.out.size h4.out)
    clear h4 HB3 HXt H3 HRa HB0
    go_wp2_with (first
      | (go_at_call 35; refine (HXq.out _).mono ?_; rintro e w9 ⟨rfl, hb9⟩; have hb := Lib.hid (below_then hb.out hb.out.size hb9.out); clear hb9)
      | (go_at_call 36; refine (HXrq.out _).mono ?_; rintro e w9 ⟨rfl, hb9⟩; have hb := Lib.hid (below_then hb.out hb.out.size hb9.out); clear hb9)
      | (go_at_call 37; refine (HXw.out _).mono ?_; rintro e w9 ⟨rfl, hb9⟩; have hb := Lib.hid (below_then hb.out hb.out.size hb9.out); clear hb9)
      | (go_at_call 38; refine (HXrw.out _).mono ?_; rintro e w9 ⟨rfl, hb9⟩; have hb := Lib.hid (below_then hb.out hb.out.size hb9.out); clear hb9))
    go_ret
    exact ⟨by simp, hb.out⟩
end Go.Proofs.YtpdpgppaoipnlaaDoor

