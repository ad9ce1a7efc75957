/- What the claim uses of the text Q5. -/
import Derived.Test.YtpdpgppaoipnlaaDoorZT3
import Derived.Test.YtpdpgppaoipnlaaDoorZK4
import Derived.StillTailTactics
import Derived.Test.YtpdpgppaoipnlaaDoorZUtfLaw
import Derived.Deep.RegionHeld3
set_option linter.unusedVariables false
set_option linter.unusedSimpArgs false
namespace Go.Proofs.YtpdpgppaoipnlaaDoor
open Go.RowKit Go.PlainAid
open Go.Proofs.YtpdpgppaoipnlaaDoorW.PrintWords hiding bt
open Go.Proofs.YtpdpgppaoipnlaaDoorW.PrintMore

theorem ErrV.zeroed {E : Nat → Addr} {w : World} {v : Value} {a c : Int} (h : ErrV E w v a c) : ErrV E w v (if c = 0 then 0 else a) c := by
  rcases h with h | ⟨h1, h2, h3⟩
  · exact .inl h
  · rw [if_neg (by omega)]; exact .inr ⟨h1, h2, h3⟩

set_option maxHeartbeats 4000000 in
set_option maxRecDepth 100000 in
theorem jsonvalChecks_walk {E : Nat → Addr} [AllE E] (n : Nat) (a : JV) (cs : List Value) (w : World) (hs : Sents E w) (hka : (jd n).K w a cs) (hza : szV reachBytes a) :
    Calls Tryd.prog 9 #[.agg cs.toArray] w fun e w' => e = .returned (.bool true) ∧ Below w.heap.size w w' := by
  have HKa := Lib.hid hka
  have HS := Lib.hid hs
  have HZa := Lib.hid hza
  obtain ⟨n', e1⟩ := jd_cells hka
  subst e1
  obtain ⟨A2, c2, A3, c3, rfl, l2, g2, l3, g3⟩ := jd_open hka
  clear hka hs hza l2 g2 l3 g3
  change Calls _ _ #[.agg #[.int .i64 a.kind, .string a.text, .slice A2 a.list.length c2, .slice A3 a.mem.length c3]] _ _
  have HB0 : Hid (Below w.heap.size w (w.alloc (.cells #[.int .i64 a.kind, .string a.text, .slice A2 a.list.length c2, .slice A3 a.mem.length c3] 26))) := (Below.refl _ _).alloc (Nat.le_refl _) _
  have HRa : Hid (Row 26 w.heap.size #[.int .i64 a.kind, .string a.text, .slice A2 a.list.length c2, .slice A3 a.mem.length c3] (w.alloc (.cells #[.int .i64 a.kind, .string a.text, .slice A2 a.list.length c2, .slice A3 a.mem.length c3] 26))) := Row.new w _ _ rfl
  go_enter Tryd.func9, Tryd.ntmps9
  go_wp2_with fail
  obtain ⟨w0, hw0⟩ : ∃ w0, w.alloc (.cells #[.int .i64 a.kind, .string a.text, .slice A2 a.list.length c2, .slice A3 a.mem.length c3] 26) = w0 := ⟨_, rfl⟩
  rw [hw0] at HB0 HRa ⊢
  clear hw0
  refine (awake12 (E := E) _ (HS.out.below HB0.out)).mono ?_
  rintro e w1 ⟨rfl, H1⟩
  have c0 := (HRa.out.below H1.out).cell 0 _ rfl
  have c1 := (HRa.out.below H1.out).cell 1 _ rfl
  have c2' := (HRa.out.below H1.out).cell 2 _ rfl
  have c3' := (HRa.out.below H1.out).cell 3 _ rfl
  go_wp2_with fail
  refine (Great_any _ a _ _ ((jd _).K_below (below_then HB0.out HB0.out.size H1.out) HKa.out) HZa.out).mono ?_
  rintro e w2 ⟨g, rfl, hg, h2⟩
  have H2 := Lib.hid (below_then H1.out H1.out.size h2.out)
  clear h2 H1 c0 c1 c2' c3'
  cases g with
  | true =>
    go_wp2_with fail
    go_ret
    exact ⟨rfl, below_then HB0.out HB0.out.size H2.out⟩
  | false =>
  have HTa : Hid (totV a ≤ 100000) := by show _ ≤ _; have := hg.out rfl; omega
  have c0 := (HRa.out.below H2.out).cell 0 _ rfl
  have c1 := (HRa.out.below H2.out).cell 1 _ rfl
  have c2' := (HRa.out.below H2.out).cell 2 _ rfl
  have c3' := (HRa.out.below H2.out).cell 3 _ rfl
  go_wp2_with fail
  refine (refCheck_any _ a _ _ ((jd _).K_below (below_then HB0.out HB0.out.size H2.out) HKa.out) HTa.out).mono ?_
  rintro e w5 ⟨rfl, h2⟩
  have H5 := Lib.hid (below_then H2.out H2.out.size h2.out)
  clear h2 H2 c0 c1 c2' c3'
  have hbw : Below w.heap.size w w5 := below_then HB0.out HB0.out.size H5.out
  have HSw := Lib.hid (HS.out.below hbw)
  obtain ⟨r1, Hr1⟩ : ∃ r, Hid ((if (chk a).2 = 0 then 0 else (chk a).1) = r) := ⟨_, rfl⟩
  obtain ⟨r2, Hr2⟩ : ∃ r, Hid ((chk a).2 = r) := ⟨_, rfl⟩
  obtain ⟨q, Hq⟩ : ∃ q : Nat, Hid (cntV a = q) := ⟨_, rfl⟩
  rw [Hr1.out, Hr2.out]
  have HXc : Hid (∀ W, Below w5.heap.size w5 W → Calls Tryd.prog 25 #[.agg #[.int .i64 a.kind, .string a.text, .slice A2 a.list.length c2, .slice A3 a.mem.length c3]] W fun e w' => ∃ v, e = .returned v ∧ Hid (ErrV E w' v r1 r2) ∧ Hid (Below w5.heap.size w5 w')) := fun W hW => by
    refine (Check_any (E := E) _ a _ W (HSw.out.below hW) ((jd _).K_below hW ((jd _).K_below hbw HKa.out)) HTa.out).mono ?_
    rintro e w' ⟨v, rfl, hE, h⟩
    refine ⟨v, rfl, ?_, below_then hW hW.size h.out⟩
    show ErrV E w' v r1 r2
    rw [← Hr1.out, ← Hr2.out]
    exact hE.out.zeroed
  have HXs : Hid (∀ W, Below w5.heap.size w5 W → Calls Tryd.prog 43 #[.agg #[.int .i64 a.kind, .string a.text, .slice A2 a.list.length c2, .slice A3 a.mem.length c3]] W fun e w' => e = .returned (.int .i64 (q : Int)) ∧ Hid (Below w5.heap.size w5 w')) := fun W hW => by
    refine (Size_any (E := E) _ a _ W (HSw.out.below hW) ((jd _).K_below hW ((jd _).K_below hbw HKa.out)) HTa.out).mono ?_
    rintro e w' ⟨rfl, h⟩
    exact ⟨by rw [Hq.out], below_then hW hW.size h.out⟩
  have HXr : Hid (∀ W, Below w5.heap.size w5 W → Calls Tryd.prog 44 #[.agg #[.int .i64 a.kind, .string a.text, .slice A2 a.list.length c2, .slice A3 a.mem.length c3]] W fun e w' => e = .returned (.int .i64 (q : Int)) ∧ Hid (Below w5.heap.size w5 w')) := fun W hW => by
    refine (rsize_all _ a _ W ((jd _).K_below hW ((jd _).K_below hbw HKa.out)) HTa.out).mono ?_
    rintro e w' ⟨rfl, h⟩
    exact ⟨by rw [Hq.out], below_then hW hW.size h.out⟩
  have HXi : Hid (∀ W v, Below w5.heap.size w5 W → ErrV E W v r1 r2 → Calls Tryd.prog 15 #[v, .int .i64 r1, .int .i64 r2] W fun e w' => e = .returned (.bool true) ∧ Hid (Below w5.heap.size w5 w')) := fun W v hW hE => by
    refine (is_any v r1 r2 W (HSw.out.below hW) hE).mono ?_
    rintro e w' ⟨rfl, h⟩
    exact ⟨rfl, below_then hW hW.size h⟩
  have HBW := Lib.hid hbw
  have a0 := (HRa.out.below H5.out).cell 0 _ rfl
  have a1 := (HRa.out.below H5.out).cell 1 _ rfl
  have a2 := (HRa.out.below H5.out).cell 2 _ rfl
  have a3 := (HRa.out.below H5.out).cell 3 _ rfl
  clear HTa HZa hg Hr1 Hr2 Hq hbw HSw H5 HRa HS HKa HB0
  go_wp2_with fail
  go_region_held3 (fun W => W.cell? ⟨w.heap.size, 0, none⟩ = some (.int .i64 a.kind) ∧ W.cell? ⟨w.heap.size, 1, none⟩ = some (.string a.text) ∧ W.cell? ⟨w.heap.size, 2, none⟩ = some (.slice A2 a.list.length c2) ∧ W.cell? ⟨w.heap.size, 3, none⟩ = some (.slice A3 a.mem.length c3))
    (first | exact ⟨a0, a1, a2, a3⟩ | exact ⟨cell_below (w := w5) hb9.out a0, cell_below (w := w5) hb9.out a1, cell_below (w := w5) hb9.out a2, cell_below (w := w5) hb9.out a3⟩)
    (first
      | (go_simp; go_at_call 25; refine (HXc.out _ ?hb).mono ?_; (case hb => exact below_drew (Below.refl _ _)); rintro e w9 ⟨v, rfl, hE, hb9⟩)
      | (go_simp; go_at_call 15; refine (HXi.out _ v hb9.out hE.out).mono ?_; rintro e w9 ⟨rfl, hb9⟩)
      | (go_simp; go_at_call 43; refine (HXs.out _ hb9.out).mono ?_; rintro e w9 ⟨rfl, hb9⟩)
      | (go_simp; go_at_call 44; refine (HXr.out _ hb9.out).mono ?_; rintro e w9 ⟨rfl, hb9⟩))
  all_goals
    go_wp2_with fail
    go_ret
    exact ⟨by simp, below_then HBW.out HBW.out.size hb9.out⟩
end Go.Proofs.YtpdpgppaoipnlaaDoor

