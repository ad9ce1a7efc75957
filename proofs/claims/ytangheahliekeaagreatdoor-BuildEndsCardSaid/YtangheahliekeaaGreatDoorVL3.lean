/- What the claim uses of the text L3. -/
import Derived.Test.YtangheahliekeaaGreatDoorVL2
import Derived.Laws.AppendOwn
import Derived.Laws.AppendOwnNone
import Derived.Laws.OwnMore
set_option linter.unusedVariables false
set_option linter.unusedSimpArgs false
namespace Go.Proofs.YtangheahliekeaaGreatDoor
open Go.RowKit Go.PlainAid
open Go.Proofs.YtangheahliekeaaGreatDoorW.PrintWords hiding bt
open Go.Proofs.YtangheahliekeaaGreatDoorW.PrintMore

section
variable {P : Program} {ops : Array Oper} {rest : List Oper} {o : Oper} {a : Act} {Q : Exit → Act → World → Prop} {α : Type}
/-- append(nil, ys...) of a row of one's own: a new one, whose elements are those. -/
theorem wpl_append_nilR (d : Kd α) {w : World} {lim : Nat} {ok : Nat → Prop} (hgd : o.guard = none) (s x : Operand) (t e : TypeId) (z : Value) (bytes : Nat)
    (ho : o.op = .call { callee := .builtin .append, args := #[s, x], argTypes := #[t, t] })
    (ht : P.underlying t = some (.slice e)) (hinfo : (P.info? e).map (fun i => (i.zero, i.size, i.bytes)) = some (some z, d.sz, bytes)) (hz : z.cells.size = d.sz) (hs0 : 0 < d.sz)
    (ys : List α) (v : Value) (hs : a.eval s = .slice none 0 0) (hx : a.eval x = v) (hR : d.R e w lim ok v ys) (hlim : lim ≤ w.heap.size) (hl : ys.length * bytes ≤ 140737488355328) (hm : ys.length ≤ 1000000)
    (h : ∀ v1 w1, d.R e w1 lim (fun k => ok k ∨ w.heap.size ≤ k) v1 ys → Below w.heap.size w w1 → wpList P ops Q rest (a.put o.dst v1) w1) : wpList P ops Q (o :: rest) a w := by
  obtain ⟨i0, hi, hzz⟩ := Option.map_eq_some_iff.1 hinfo
  simp only [Prod.mk.injEq] at hzz
  obtain ⟨hz0, hz1, hz2⟩ := hzz
  have hown0 : w.ownsRow w.heap.size e d.sz (.slice none 0 0) 0 [] := ⟨by simp, .inl ⟨rfl, rfl⟩⟩
  have hR0 := hR
  obtain ⟨hok, inner, hown, hr⟩ := hR
  obtain ⟨A, c, rfl, hle, hC⟩ := Kd.R_reads hR0
  have hin : inner.length = ys.length * d.sz := hr.1
  rcases A with _ | ad
  · have h0 : ys.length = 0 := by
      rcases Nat.eq_zero_or_pos ys.length with h0 | h0
      · exact h0
      · obtain ⟨ad, h, _⟩ := hC.2.2 h0
        cases h
    have hys : ys = [] := List.length_eq_zero_iff.1 h0
    subst hys
    have hc0 : c = 0 := by
      rcases hown.2 with ⟨hv, _⟩ | ⟨g, cap, cur, hv, _⟩
      · injection hv
      · injection hv with hv; cases hv
    subst hc0
    exact wpList_append_own_none hgd s x t ho w.heap.size e i0 d.sz ht hi (.slice none 0 0) 0 [] hs hown0 hx (h _ w (Kd.R_nil _ _ _ _ _) (Below.refl _ _))
  · obtain ⟨g0, rfl⟩ : ∃ g0, ad = ⟨g0, 0, none⟩ := by
      rcases hown.2 with ⟨hv, _⟩ | ⟨g, cap, cur, hv, _⟩
      · injection hv with hv; cases hv
      · injection hv with hv; injection hv with hv; exact ⟨g, hv⟩
    have h2 : ∀ j u, inner[j]? = some u → w.cell? ((⟨g0, 0, none⟩ : Addr).add j) = some u := hown.cells (by simp [Value.ownBlock])
    have hone : ∀ u ∈ inner, u.oneCell' = true := by
      intro u hu
      obtain ⟨q, hq, rfl⟩ := List.mem_iff_getElem.1 hu
      have hql : q / d.sz < ys.length := by
        rw [Nat.div_lt_iff_lt_mul hs0, ← hin]
        exact hq
      have hc := hr.2 (q / d.sz) _ (List.getElem?_eq_getElem hql)
      refine d.K_one (d.K_of_M hc) _ ?_
      rw [List.mem_iff_getElem?]
      refine ⟨q % d.sz, ?_⟩
      have hmod := Nat.mod_lt q hs0
      have hdm := Nat.div_add_mod q d.sz
      rw [List.getElem?_take, if_pos hmod, List.getElem?_drop, Nat.mul_comm, hdm, List.getElem?_eq_getElem hq]
    refine wpList_append_own w hgd s x t ho w.heap.size e i0 z d.sz bytes ht hi hz0 hz1 hz2 hz hs0 (.slice none 0 0) 0 [] hs hown0 ⟨g0, 0, none⟩ ys.length c inner hx (by rw [hin]) h2 hone (by unfold maxLen; omega) (by rw [Nat.zero_add]; exact hl) (Nat.le_refl _) ?_
    intro v' w' hown' hg _
    have hb : Below w.heap.size w w' := grown_none hg
    rw [Nat.zero_add, List.nil_append] at hown'
    refine h v' w' ⟨fun k hk => .inr (own_base hown' k hk), inner, own_weaken hown' hlim, hr.imp_ (fun p cs hp => ?_)⟩ hb
    refine d.M_mono (fun k hk => ?_) (Kd.M_below (d.M_bound hp) hb)
    refine ⟨.inl hk.1.1, fun e => ?_⟩
    have := own_base hown' k e.symm
    have := hk.2.2.1
    omega
end

theorem jd_objM {n : Nat} {w : World} {lim : Nat} {ok : Nat → Prop} {v : Value} {xs : List (ByteArray × JV)} (h : (jm n).R 88 w lim ok v xs) : (jd (n + 1)).M w lim ok ⟨6, ⟨#[]⟩, [], xs⟩ [.int .i64 6, .string ⟨#[]⟩, .slice none 0 0, v] :=
  ⟨[_], [_, _, _], rfl, rfl, [_], [_, _], rfl, rfl, [_], [_], rfl, ⟨_, rfl, Kd.R_nil _ _ _ _ _⟩, ⟨_, rfl, h⟩⟩
theorem jd_listM {n : Nat} {w : World} {lim : Nat} {ok : Nat → Prop} {v : Value} {xs : List JV} (h : (jd n).R 34 w lim ok v xs) : (jd (n + 1)).M w lim ok ⟨5, ⟨#[]⟩, xs, []⟩ [.int .i64 5, .string ⟨#[]⟩, v, .slice none 0 0] :=
  ⟨[_], [_, _, _], rfl, rfl, [_], [_, _], rfl, rfl, [_], [_], rfl, ⟨_, rfl, h⟩, ⟨_, rfl, Kd.R_nil _ _ _ _ _⟩⟩

set_option maxHeartbeats 2000000 in
/-- Obj of a row of one's own. -/
theorem Obj_own {n lim : Nat} {ok : Nat → Prop} {xs : List (ByteArray × JV)} (v : Value) (w : World) (hR : (jm n).R 88 w lim ok v xs) (hlim : lim ≤ w.heap.size) (hl : xs.length ≤ 1000) :
    Calls Tryz.prog 24 #[v] w fun e w' => ∃ v1, e = .returned (.agg #[.int .i64 6, .string ⟨#[]⟩, .slice none 0 0, v1]) ∧ Hid ((jm n).R 88 w' lim (fun k => ok k ∨ w.heap.size ≤ k) v1 xs) ∧ Hid (Below w.heap.size w w') := by
  have HV0 : Hid (Row 34 w.heap.size (leafA 0 ⟨#[]⟩) (w.alloc (.cells (leafA 0 ⟨#[]⟩) 34))) := Row.new w _ _ rfl
  have HB0 : Hid (Below w.heap.size w (w.alloc (.cells (leafA 0 ⟨#[]⟩) 34))) := (Below.refl _ _).alloc (Nat.le_refl _) _
  have hsz0 : (w.alloc (.cells (leafA 0 ⟨#[]⟩) 34)).heap.size = w.heap.size + 1 := by simp
  have HR := Lib.hid (Kd.R_below (Kd.R_bound hR) HB0.out)
  have HSZ := Lib.hid hsz0
  have HLM : Hid (lim ≤ (w.alloc (.cells (leafA 0 ⟨#[]⟩) 34)).heap.size) := by show _ ≤ _; rw [hsz0]; omega
  clear hR hsz0
  go_enter Tryz.func24, Tryz.ntmps24
  go_wp2_with (first | (at_builtin; go_must (refine wpl_append_nilR (jm n) rfl _ _ 32 88 _ 88 rfl Tryz.underlying32 (jm_info n) (by rw [jm_sz']; rfl) (by rw [jm_sz']; omega) xs v rfl rfl HR.out HLM.out (by omega) (by omega) ?_); intro v1 w1 hR1 hb1; obtain ⟨A1, c1, rfl⟩ := Kd.R_slice hR1; have HV1 := Lib.hid (HV0.out.below hb1); have HB1 := Lib.hid (below_then HB0.out HB0.out.size hb1); have HR1 := Lib.hid hR1; have HL1 := Lib.hid hb1.size; clear hR1 hb1) | ((with_reducible refine wpl_put_val (cs := ?_) HV1.out rfl ?hx ?hy ?hs ?hz ?_); (case hx => rfl); (case hy => rfl); (case hs => rfl); (case hz => (simp [Value.oneCell']; done)); intro w2 hr2 hw2))
  (try simp only [Exit.inBlock, Exit.then])
  have hb2 := hw2.below HB1.out (Nat.le_refl _)
  have hRW : (jm n).R 88 w2 lim (fun k => ok k ∨ w.heap.size ≤ k) (.slice A1 xs.length c1) xs := by
    refine Kd.R_mono (Kd.R_step (w1 := w2) HR1.out (fun k hk _ => hw2.rest k ?_)) (fun k hk => ?_)
    · rcases hk with hk | hk
      · have := hk.2.2.1; omega
      · have hk' : w.heap.size + 1 ≤ k := Nat.le_trans (Nat.le_of_eq HSZ.out.symm) hk; omega
    · rcases hk with hk | hk
      · exact .inl hk.1
      · have hk' : w.heap.size + 1 ≤ k := Nat.le_trans (Nat.le_of_eq HSZ.out.symm) hk; exact .inr (by omega)
  refine bodyPost_ret (v := .agg #[.int .i64 6, .string ⟨#[]⟩, .slice none 0 0, .slice A1 xs.length c1]) ?_ rfl ?_
  · exact results_val rfl _ _ _ _ rfl hr2 rfl
  · exact ⟨_, rfl, hRW, hb2⟩
set_option maxHeartbeats 2000000 in
/-- List of a row of one's own. -/
theorem List_own {n lim : Nat} {ok : Nat → Prop} {xs : List JV} (v : Value) (w : World) (hR : (jd n).R 34 w lim ok v xs) (hlim : lim ≤ w.heap.size) (hl : xs.length ≤ 1000) :
    Calls Tryz.prog 22 #[v] w fun e w' => ∃ v1, e = .returned (.agg #[.int .i64 5, .string ⟨#[]⟩, v1, .slice none 0 0]) ∧ Hid ((jd n).R 34 w' lim (fun k => ok k ∨ w.heap.size ≤ k) v1 xs) ∧ Hid (Below w.heap.size w w') := by
  have HV0 : Hid (Row 34 w.heap.size (leafA 0 ⟨#[]⟩) (w.alloc (.cells (leafA 0 ⟨#[]⟩) 34))) := Row.new w _ _ rfl
  have HB0 : Hid (Below w.heap.size w (w.alloc (.cells (leafA 0 ⟨#[]⟩) 34))) := (Below.refl _ _).alloc (Nat.le_refl _) _
  have hsz0 : (w.alloc (.cells (leafA 0 ⟨#[]⟩) 34)).heap.size = w.heap.size + 1 := by simp
  have HR := Lib.hid (Kd.R_below (Kd.R_bound hR) HB0.out)
  have HSZ := Lib.hid hsz0
  have HLM : Hid (lim ≤ (w.alloc (.cells (leafA 0 ⟨#[]⟩) 34)).heap.size) := by show _ ≤ _; rw [hsz0]; omega
  clear hR hsz0
  go_enter Tryz.func22, Tryz.ntmps22
  go_wp2_with (first | (at_builtin; go_must (refine wpl_append_nilR (jd n) rfl _ _ 31 34 _ 72 rfl Tryz.underlying31 (by rw [show (jd n).sz = 4 from jsz n]; exact info_v) (by rw [show (jd n).sz = 4 from jsz n]; rfl) (by rw [show (jd n).sz = 4 from jsz n]; omega) xs v rfl rfl HR.out HLM.out (by omega) (by omega) ?_); intro v1 w1 hR1 hb1; obtain ⟨A1, c1, rfl⟩ := Kd.R_slice hR1; have HV1 := Lib.hid (HV0.out.below hb1); have HB1 := Lib.hid (below_then HB0.out HB0.out.size hb1); have HR1 := Lib.hid hR1; have HL1 := Lib.hid hb1.size; clear hR1 hb1) | ((with_reducible refine wpl_put_val (cs := ?_) HV1.out rfl ?hx ?hy ?hs ?hz ?_); (case hx => rfl); (case hy => rfl); (case hs => rfl); (case hz => (simp [Value.oneCell']; done)); intro w2 hr2 hw2))
  (try simp only [Exit.inBlock, Exit.then])
  have hb2 := hw2.below HB1.out (Nat.le_refl _)
  have hRW : (jd n).R 34 w2 lim (fun k => ok k ∨ w.heap.size ≤ k) (.slice A1 xs.length c1) xs := by
    refine Kd.R_mono (Kd.R_step (w1 := w2) HR1.out (fun k hk _ => hw2.rest k ?_)) (fun k hk => ?_)
    · rcases hk with hk | hk
      · have := hk.2.2.1; omega
      · have hk' : w.heap.size + 1 ≤ k := Nat.le_trans (Nat.le_of_eq HSZ.out.symm) hk; omega
    · rcases hk with hk | hk
      · exact .inl hk.1
      · have hk' : w.heap.size + 1 ≤ k := Nat.le_trans (Nat.le_of_eq HSZ.out.symm) hk; exact .inr (by omega)
  refine bodyPost_ret (v := .agg #[.int .i64 5, .string ⟨#[]⟩, .slice A1 xs.length c1, .slice none 0 0]) ?_ rfl ?_
  · exact results_val rfl _ _ _ _ rfl hr2 rfl
  · exact ⟨_, rfl, hRW, hb2⟩
end Go.Proofs.YtangheahliekeaaGreatDoor

