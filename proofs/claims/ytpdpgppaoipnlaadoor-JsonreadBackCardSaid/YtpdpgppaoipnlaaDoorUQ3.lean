/- What the claim uses of the text Q3. -/
import Derived.Test.YtpdpgppaoipnlaaDoorUQ2
import Derived.Test.YtpdpgppaoipnlaaDoorUSh
import Derived.Test.YtpdpgppaoipnlaaDoorUNC
import Derived.Test.YtpdpgppaoipnlaaDoorUK3
import Derived.Laws.AppendOwn
import Derived.Laws.AppendOwnNone
set_option linter.unusedVariables false
set_option linter.unusedSimpArgs false
namespace Go.Proofs.YtpdpgppaoipnlaaDoor
open Go.RowKit Go.PlainAid
open Go.Proofs.YtpdpgppaoipnlaaDoorW.PrintWords hiding bt
open Go.Proofs.YtpdpgppaoipnlaaDoorW.PrintMore

section
/-- A row's cells, put together. -/
theorem row_flat {α : Type} {R : α → List Value → Prop} {size : Nat} {w : World} {ad : Addr} {n : Nat} {ps : List α} (h : ReadsRow R size w (some ad) n ps) :
    ∃ inner, Reps R size ps inner ∧ ∀ j u, inner[j]? = some u → w.cell? (ad.add j) = some u := by
  have key : ∀ m, m ≤ ps.length → ∃ inner, Reps R size (ps.take m) inner ∧ ∀ j u, inner[j]? = some u → w.cell? (ad.add j) = some u := by
    intro m
    induction m with
    | zero => exact fun _ => ⟨[], by simpa using Reps.none R size, fun j u h => by simp at h⟩
    | succ m ih =>
      intro hm
      obtain ⟨inner, h1, h2⟩ := ih (by omega)
      have hn : 0 < n := by have := h.1; omega
      obtain ⟨ad', e, hc⟩ := h.2.2 hn
      injection e with e
      subst e
      obtain ⟨c, g1, g2, g3⟩ := hc m _ (List.getElem?_eq_getElem (by omega))
      refine ⟨inner ++ c, ?_, fun j u hj => ?_⟩
      · rw [List.take_succ_eq_append_getElem (by omega)]
        exact h1.snoc g2 g1
      · have hl : inner.length = m * size := by rw [h1.1, List.length_take]; rw [show min m ps.length = m by omega]
        rcases Nat.lt_or_ge j inner.length with hlt | hge
        · rw [List.getElem?_append_left hlt] at hj
          exact h2 j u hj
        · rw [List.getElem?_append_right hge] at hj
          have := g3 _ u hj
          rwa [hl, show m * size + (j - m * size) = j by omega] at this
  obtain ⟨inner, h1, h2⟩ := key ps.length (Nat.le_refl _)
  rw [List.take_length] at h1
  exact ⟨inner, h1, h2⟩
theorem grown_none {w w' : World} (h : w.grownBy w' none) : Below w.heap.size w w' := ⟨h.os, h.tape, h.output, h.size, fun k hk => h.block k hk (by simp)⟩
variable {P : Program} {ops : Array Oper} {rest : List Oper} {o : Oper} {a : Act} {Q : Exit → Act → World → Prop} {α : Type}
/-- A row made behind a world, whose elements read as they did in an older one. -/
def NewRow {α : Type} (d : Kd α) (w0 w w1 : World) (A : Option Addr) (m : Nat) (ys : List α) : Prop :=
  (∀ ad, A = some ad → w.heap.size ≤ ad.block ∧ ad.block < w1.heap.size) ∧ ∀ W, Below w0.heap.size w0 W → (∀ ad, A = some ad → W.heap[ad.block]? = w1.heap[ad.block]?) → d.C W A m ys
/-- append(nil, ys...): a new row whose elements read as they did. -/
theorem wpl_append_nil (d : Kd α) {w0 w : World} (hb0 : Below w0.heap.size w0 w) (hgd : o.guard = none) (s x : Operand) (t e : TypeId) (z : Value) (bytes : Nat)
    (ho : o.op = .call { callee := .builtin .append, args := #[s, x], argTypes := #[t, t] })
    (ht : P.underlying t = some (.slice e)) (hinfo : (P.info? e).map (fun i => (i.zero, i.size, i.bytes)) = some (some z, d.sz, bytes)) (hz : z.cells.size = d.sz) (hs0 : 0 < d.sz)
    (ys : List α) (A : Option Addr) (m c : Nat) (hs : a.eval s = .slice none 0 0) (hx : a.eval x = .slice A m c) (hAc : A = none → c = 0) (hC : d.C w0 A m ys) (hl : m * bytes ≤ 140737488355328) (hm : m ≤ 1000000)
    (h : ∀ A1 c1 w1, m ≤ c1 → (A1 = none → c1 = 0) → NewRow d w0 w w1 A1 m ys → Below w.heap.size w w1 → wpList P ops Q rest (a.put o.dst (.slice A1 m c1)) w1) : wpList P ops Q (o :: rest) a w := by
  obtain ⟨i0, hi, hzz⟩ := Option.map_eq_some_iff.1 hinfo
  simp only [Prod.mk.injEq] at hzz
  obtain ⟨hz0, hz1, hz2⟩ := hzz
  have hown : w.ownsRow w.heap.size e d.sz (.slice none 0 0) 0 [] := ⟨by simp, .inl ⟨rfl, rfl⟩⟩
  rcases A with _ | ad
  · have h0 : m = 0 := by
      rcases Nat.eq_zero_or_pos m with h0 | h0
      · exact h0
      · obtain ⟨ad, h, _⟩ := hC.2.2 h0
        cases h
    subst h0
    obtain rfl := hAc rfl
    exact wpList_append_own_none hgd s x t ho w.heap.size e i0 d.sz ht hi (.slice none 0 0) 0 [] hs hown hx (h none 0 w (Nat.le_refl _) (fun _ => rfl) ⟨(fun _ h => nomatch h), fun W hW _ => Kd.C_below hC hW⟩ (Below.refl _ _))
  · obtain ⟨inner, h1, h2'⟩ := row_flat hC
    have h2 : ∀ j u, inner[j]? = some u → w.cell? (ad.add j) = some u := fun j u hj => cell_below hb0 (h2' j u hj)
    have hone : ∀ u ∈ inner, u.oneCell' = true := by
      intro u hu
      obtain ⟨q, hq, rfl⟩ := List.mem_iff_getElem.1 hu
      have hql : q / d.sz < ys.length := by
        rw [Nat.div_lt_iff_lt_mul hs0, ← h1.1]
        exact hq
      have hc := h1.2 (q / d.sz) _ (List.getElem?_eq_getElem hql)
      refine d.K_one hc _ ?_
      rw [List.mem_iff_getElem?]
      refine ⟨q % d.sz, ?_⟩
      have hmod := Nat.mod_lt q hs0
      have hdm := Nat.div_add_mod q d.sz
      rw [List.getElem?_take, if_pos hmod, List.getElem?_drop, Nat.mul_comm, hdm, List.getElem?_eq_getElem hq]
    refine wpList_append_own w hgd s x t ho w.heap.size e i0 z d.sz bytes ht hi hz0 hz1 hz2 hz hs0 (.slice none 0 0) 0 [] hs hown ad m c inner hx (by rw [h1.1, hC.1]) h2 hone (by unfold maxLen; omega) (by rw [Nat.zero_add]; exact hl) (Nat.le_refl _) ?_
    intro v' w' hown' hg _
    have hb := grown_none hg
    rw [Nat.zero_add, List.nil_append] at hown'
    rcases hown'.2 with ⟨rfl, h0⟩ | ⟨g, cap, cur, rfl, hg0, hh, hle, hcap, hsz, htake⟩
    · subst h0
      exact h none 0 w' (Nat.le_refl _) (fun _ => rfl) ⟨(fun _ h => nomatch h), fun W _ _ => ⟨hC.1, hC.2.1, fun h => absurd h (by omega)⟩⟩ hb
    · refine h (some ⟨g, 0, none⟩) cap w' hle (fun h => nomatch h) ⟨fun ad e => by injection e with e; subst e; exact ⟨hg0, (Array.getElem?_eq_some_iff.1 hh).1⟩, fun W hW hk => ⟨hC.1, hC.2.1, fun _ => ⟨⟨g, 0, none⟩, rfl, fun j p hj => ?_⟩⟩⟩ hb
      have hh' : W.heap[g]? = some (.cells cur e (0, 0)) := (hk _ rfl).trans hh
      have hjl : j < ys.length := (List.getElem?_eq_some_iff.1 hj).1
      have hmul : (j + 1) * d.sz ≤ ys.length * d.sz := Nat.mul_le_mul_right _ hjl
      rw [Nat.succ_mul] at hmul
      refine ⟨(inner.drop (j * d.sz)).take d.sz, by rw [List.length_take, List.length_drop, h1.1]; omega, d.K_below hW (h1.2 j p hj), fun i u hu => ?_⟩
      rw [List.getElem?_take] at hu
      split at hu
      · rename_i hi'
        rw [List.getElem?_drop, ← htake, List.getElem?_take, if_pos (by rw [← hC.1]; omega)] at hu
        rw [show (⟨g, 0, none⟩ : Addr).add (j * d.sz + i) = ⟨g, 0 + (j * d.sz + i), none⟩ from Go.WideShapes.add_plain _ _ _, Nat.zero_add, Lib.cell_of_heap hh']
        simpa using hu
      · cases hu
end

section
variable {ops : Array Oper} {rest : List Oper} {a : Act} {w : World} {Q : Exit → Act → World → Prop} {dst : Option Tmp} {s x : Operand} {ty : TypeId} {pos : String} {after : Array Edge}
theorem info_m5 : (Tryd.prog.info? 50).map (fun i => (i.zero, i.size, i.bytes)) = some (some (.agg #[.string ⟨#[]⟩, .int .i64 0, .string ⟨#[]⟩, .slice none 0 0, .slice none 0 0]), 5, 88) := by kernel_rfl
theorem wpl_append_vals {n : Nat} (ys : List JV) (A : Option Addr) (m c : Nat) (hs : a.eval s = .slice none 0 0) (hx : a.eval x = .slice A m c) (hAc : A = none → c = 0) {w0 : World} (hb0 : Below w0.heap.size w0 w) (hC : (jd n).C w0 A m ys) (hm : m ≤ 1000000)
    (h : ∀ A1 c1 w1, m ≤ c1 → (A1 = none → c1 = 0) → NewRow (jd n) w0 w w1 A1 m ys → Below w.heap.size w w1 → wpList Tryd.prog ops Q rest (a.put dst (.slice A1 m c1)) w1) :
    wpList Tryd.prog ops Q ({ dst := dst, op := .call { callee := .builtin .append, args := #[s, x], argTypes := #[23, 23] }, type := ty, pos := pos, after := after, guard := none } :: rest) a w :=
  wpl_append_nil (jd n) hb0 rfl s x 23 26 _ 72 rfl Tryd.underlying23 (by rw [show (jd n).sz = 4 from jsz n]; exact info_v) (by rw [show (jd n).sz = 4 from jsz n]; rfl) (by rw [show (jd n).sz = 4 from jsz n]; omega) ys A m c hs hx hAc hC (by omega) hm h
theorem wpl_append_mems {n : Nat} (ys : List (ByteArray × JV)) (A : Option Addr) (m c : Nat) (hs : a.eval s = .slice none 0 0) (hx : a.eval x = .slice A m c) (hAc : A = none → c = 0) {w0 : World} (hb0 : Below w0.heap.size w0 w) (hC : (jm n).C w0 A m ys) (hm : m ≤ 1000000)
    (h : ∀ A1 c1 w1, m ≤ c1 → (A1 = none → c1 = 0) → NewRow (jm n) w0 w w1 A1 m ys → Below w.heap.size w w1 → wpList Tryd.prog ops Q rest (a.put dst (.slice A1 m c1)) w1) :
    wpList Tryd.prog ops Q ({ dst := dst, op := .call { callee := .builtin .append, args := #[s, x], argTypes := #[24, 24] }, type := ty, pos := pos, after := after, guard := none } :: rest) a w :=
  wpl_append_nil (jm n) hb0 rfl s x 24 50 _ 88 rfl Tryd.underlying24 (by rw [jm_sz']; exact info_m5) (by rw [jm_sz']; rfl) (by rw [jm_sz']; omega) ys A m c hs hx hAc hC (by omega) hm h
end
/-- List. -/
theorem List_any (n : Nat) (A : Option Addr) (c : Nat) (xs : List JV) (w : World) (hC : (jd n).C w A xs.length xs) (hAc : A = none → c = 0) (hl : xs.length ≤ 1000000) :
    Calls Tryd.prog 29 #[.slice A xs.length c] w fun e w' => ∃ A2 c2, e = .returned (.agg #[.int .i64 5, .string ⟨#[]⟩, .slice A2 xs.length c2, .slice none 0 0]) ∧ Hid ((jd (n + 1)).K w' ⟨5, ⟨#[]⟩, xs, []⟩ (jcells ⟨5, ⟨#[]⟩, xs, []⟩ A2 c2 none 0)) ∧ Hid (Below w.heap.size w w') := by
  have HV0 : Hid (Row 26 w.heap.size (leafA 0 ⟨#[]⟩) (w.alloc (.cells (leafA 0 ⟨#[]⟩) 26))) := Row.new w _ _ rfl
  have HB0 : Hid (Below w.heap.size w (w.alloc (.cells (leafA 0 ⟨#[]⟩) 26))) := (Below.refl _ _).alloc (Nat.le_refl _) _
  have hsz0 : (w.alloc (.cells (leafA 0 ⟨#[]⟩) 26)).heap.size = w.heap.size + 1 := by simp
  have HC := Lib.hid hC
  have HSZ := Lib.hid hsz0
  clear hC hsz0
  go_enter Tryd.func29, Tryd.ntmps29
  go_wp2_with (first | (at_builtin; go_must (refine wpl_append_vals (n := n) xs A xs.length c rfl rfl hAc HB0.out HC.out hl ?_); intro A1 c1 w1 hc1 _ hN1 hb1; have HV1 := Lib.hid (HV0.out.below hb1); have HB1 := Lib.hid (below_then HB0.out HB0.out.size hb1); have HN1 := Lib.hid hN1; clear hN1 hb1) | ((with_reducible refine wpl_put_val (cs := ?_) HV1.out rfl ?hx ?hy ?hs ?hz ?_); (case hx => rfl); (case hy => rfl); (case hs => rfl); (case hz => (simp [Value.oneCell']; done)); intro w2 hr2 hw2))
  (try simp only [Exit.inBlock, Exit.then])
  have hb2 := hw2.below HB1.out (Nat.le_refl _)
  have hCW : (jd n).C w2 A1 xs.length xs := HN1.out.2 w2 hb2 (fun ad e => hw2.rest _ (by have hy : w.heap.size + 1 ≤ ad.block := Nat.le_trans (Nat.le_of_eq HSZ.out.symm) (HN1.out.1 ad e).1; omega))
  refine bodyPost_ret (v := .agg #[.int .i64 5, .string ⟨#[]⟩, .slice A1 xs.length c1, .slice none 0 0]) ?_ rfl ?_
  · exact results_val rfl _ _ _ _ rfl hr2 rfl
  · exact ⟨A1, c1, rfl, jd_mk n w2 ⟨5, ⟨#[]⟩, xs, []⟩ hc1 hCW (Nat.le_refl _) (C_nil _ _ _), hb2⟩
/-- Obj. -/
theorem Obj_any (n : Nat) (A : Option Addr) (c : Nat) (xs : List (ByteArray × JV)) (w : World) (hC : (jm n).C w A xs.length xs) (hAc : A = none → c = 0) (hl : xs.length ≤ 1000000) :
    Calls Tryd.prog 30 #[.slice A xs.length c] w fun e w' => ∃ A2 c2, e = .returned (.agg #[.int .i64 6, .string ⟨#[]⟩, .slice none 0 0, .slice A2 xs.length c2]) ∧ Hid ((jd (n + 1)).K w' ⟨6, ⟨#[]⟩, [], xs⟩ (jcells ⟨6, ⟨#[]⟩, [], xs⟩ none 0 A2 c2)) ∧ Hid (Below w.heap.size w w') := by
  have HV0 : Hid (Row 26 w.heap.size (leafA 0 ⟨#[]⟩) (w.alloc (.cells (leafA 0 ⟨#[]⟩) 26))) := Row.new w _ _ rfl
  have HB0 : Hid (Below w.heap.size w (w.alloc (.cells (leafA 0 ⟨#[]⟩) 26))) := (Below.refl _ _).alloc (Nat.le_refl _) _
  have hsz0 : (w.alloc (.cells (leafA 0 ⟨#[]⟩) 26)).heap.size = w.heap.size + 1 := by simp
  have HC := Lib.hid hC
  have HSZ := Lib.hid hsz0
  clear hC hsz0
  go_enter Tryd.func30, Tryd.ntmps30
  go_wp2_with (first | (at_builtin; go_must (refine wpl_append_mems (n := n) xs A xs.length c rfl rfl hAc HB0.out HC.out hl ?_); intro A1 c1 w1 hc1 _ hN1 hb1; have HV1 := Lib.hid (HV0.out.below hb1); have HB1 := Lib.hid (below_then HB0.out HB0.out.size hb1); have HN1 := Lib.hid hN1; clear hN1 hb1) | ((with_reducible refine wpl_put_val (cs := ?_) HV1.out rfl ?hx ?hy ?hs ?hz ?_); (case hx => rfl); (case hy => rfl); (case hs => rfl); (case hz => (simp [Value.oneCell']; done)); intro w2 hr2 hw2))
  (try simp only [Exit.inBlock, Exit.then])
  have hb2 := hw2.below HB1.out (Nat.le_refl _)
  have hCW : (jm n).C w2 A1 xs.length xs := HN1.out.2 w2 hb2 (fun ad e => hw2.rest _ (by have hy : w.heap.size + 1 ≤ ad.block := Nat.le_trans (Nat.le_of_eq HSZ.out.symm) (HN1.out.1 ad e).1; omega))
  refine bodyPost_ret (v := .agg #[.int .i64 6, .string ⟨#[]⟩, .slice none 0 0, .slice A1 xs.length c1]) ?_ rfl ?_
  · exact results_val rfl _ _ _ _ rfl hr2 rfl
  · exact ⟨A1, c1, rfl, jd_mk n w2 ⟨6, ⟨#[]⟩, [], xs⟩ (Nat.le_refl _) (C_nil _ _ _) hc1 hCW, hb2⟩

theorem dec1 : (⟨(Lib.decDigits 1).toArray⟩ : ByteArray) = ⟨#[49]⟩ := by kernel_rfl
set_option maxHeartbeats 1000000 in
theorem Int_1 (w : World) : Calls Tryd.prog 32 #[.int .i64 1] w fun e w' => e = .returned (.agg #[.int .i64 3, .string ⟨#[49]⟩, .slice none 0 0, .slice none 0 0]) ∧ Hid (Below w.heap.size w w') := by
  have HV0 : Hid (Row 26 w.heap.size (leafA 0 ⟨#[]⟩) (w.alloc (.cells (leafA 0 ⟨#[]⟩) 26))) := Row.new w _ _ rfl
  have HB0 : Hid (Below w.heap.size w (w.alloc (.cells (leafA 0 ⟨#[]⟩) 26))) := (Below.refl _ _).alloc (Nat.le_refl _) _
  go_enter Tryd.func32, Tryd.ntmps32
  go_wp2_with (first | (go_at_call 68; refine (strconv_Itoa_small 1 (by omega) _).mono ?_; rintro e w' ⟨rfl, rfl⟩; rw [dec1]) | ((with_reducible refine wpl_put_val (cs := ?_) HV0.out rfl ?hx ?hy ?hs ?hz ?_); (case hx => rfl); (case hy => rfl); (case hs => rfl); (case hz => (simp [Value.oneCell']; done)); intro w2 hr2 hw2))
  (try simp only [Exit.inBlock, Exit.then])
  have hb2 := hw2.below HB0.out (Nat.le_refl _)
  refine bodyPost_ret (v := .agg (leafA 3 ⟨#[49]⟩)) ?_ rfl ?_
  · exact results_val rfl _ _ _ _ rfl hr2 rfl
  · exact ⟨rfl, hb2⟩

mutual
theorem lkV_zero : ∀ (x : JV) (lev n : Int), lkV (fun _ _ => 0) x lev n = (n + cntV x, 0)
  | ⟨k, t, l, m⟩, lev, n => by
    have h1 := lkL_zero l (lev + 1) (n + 1)
    have h2 := lkM_zero m (lev + 1) (n + 1 + cntL l)
    rw [lkV, cntV, h1]
    simp only [ne_eq, not_true_eq_false, if_false]
    rw [h2]
    exact Prod.ext (by push_cast; omega) rfl
theorem lkL_zero : ∀ (l : List JV) (lev n : Int), lkL (fun _ _ => 0) l lev n = (n + cntL l, 0)
  | [], lev, n => by simp [lkL, cntL]
  | x :: l, lev, n => by
    have h1 := lkV_zero x lev n
    have h2 := lkL_zero l lev (n + cntV x)
    rw [lkL, cntL, h1]
    simp only [ne_eq, not_true_eq_false, if_false]
    rw [h2]
    exact Prod.ext (by push_cast; omega) rfl
theorem lkM_zero : ∀ (l : List (ByteArray × JV)) (lev n : Int), lkM (fun _ _ => 0) l lev n = (n + cntM l, 0)
  | [], lev, n => by simp [lkM, cntM]
  | (o, x) :: l, lev, n => by
    have h1 := lkV_zero x lev n
    have h2 := lkM_zero l lev (n + cntV x)
    rw [lkM, cntM, h1]
    simp only [ne_eq, not_true_eq_false, if_false]
    rw [h2]
    exact Prod.ext (by push_cast; omega) rfl
end
set_option maxHeartbeats 2000000 in
set_option maxRecDepth 100000 in
theorem Size_any {E : Nat → Addr} (n : Nat) (x : JV) (cs : List Value) (w : World) (hs : Sents E w) (hk : (jd n).K w x cs) (ht : totV x ≤ 100000) :
    Calls Tryd.prog 43 #[.agg cs.toArray] w fun e w' => e = .returned (.int .i64 (cntV x)) ∧ Hid (Below w.heap.size w w') := by
  have HE := Lib.hid (each_all_s E n)
  have HK := Lib.hid hk
  have HS := Lib.hid hs
  obtain ⟨n, rfl⟩ := jd_cells hk
  obtain ⟨A2, c2, A3, c3, rfl, l2, g2, l3, g3⟩ := jd_open hk
  clear hk hs l2 g2 l3 g3
  change Calls _ _ #[.agg #[.int .i64 x.kind, .string x.text, .slice A2 x.list.length c2, .slice A3 x.mem.length c3]] _ _
  have HR : Hid (Row 89 (w.heap.size + 1) #[.int .i64 0, .func (.func 76) #[] #[]] ((w.alloc (.cells #[.int .i64 x.kind, .string x.text, .slice A2 x.list.length c2, .slice A3 x.mem.length c3] 26)).alloc (.cells #[.int .i64 0, .func (.func 76) #[] #[]] 89))) := Row.new _ _ _ (by simp)
  have HB : Hid (Below w.heap.size w ((w.alloc (.cells #[.int .i64 x.kind, .string x.text, .slice A2 x.list.length c2, .slice A3 x.mem.length c3] 26)).alloc (.cells #[.int .i64 0, .func (.func 76) #[] #[]] 89))) := by show Below _ _ _; go_grown
  have HC := Lib.hid (HE.out x _ 1 0 (w.heap.size + 1) w _ HS.out HK.out HB.out (by omega) HR.out ht (by omega) (by omega) (by omega) (by omega))
  rw [lkV_zero] at HC
  clear HE
  go_enter Tryd.func43, Tryd.ntmps43
  go_wp2_with fail
  refine HC.out.mono ?_
  rintro e w1 ⟨v, rfl, h1, h2, h3⟩
  obtain ⟨_, rfl⟩ := Or.resolve_right h1.out (fun h => absurd h.1 (by show ¬ (1 ≤ (0 : Int)); omega))
  have r0 := h2.out.cell 0 _ rfl
  go_wp2_with fail
  go_ret
  exact ⟨by simp, HB.out.grown h3.out HB.out.size (fun j hj => by injection hj with hj; omega)⟩

/-- The value that awake makes, and its text. -/
def awV : JV := ⟨6, ⟨#[]⟩, [], [(⟨#[97]⟩, ⟨5, ⟨#[]⟩, [⟨3, ⟨#[49]⟩, [], []⟩, jz], []⟩)]⟩
theorem awV_text : strOfNums (txtV awV) = ⟨#[123, 34, 97, 34, 58, 91, 49, 44, 110, 117, 108, 108, 93, 125]⟩ := by kernel_rfl
theorem awV_cnt : cntV awV = 4 := by kernel_rfl
theorem awV_tot : totV awV ≤ 100000 := of_decide_eq_true (by kernel_rfl)
theorem awV_len : (putV awV).length ≤ 100000000 := of_decide_eq_true (by kernel_rfl)

/-- A row that a call has made, as elements that are read. -/
theorem C_lit {α : Type} (d : Kd α) {t : TypeId} {b : Nat} {cells : Array Value} {W : World} {ys : List α} (hr : Row t b cells W) (hn : ys.length ≤ 1000000)
    (h : ∀ j p, ys[j]? = some p → ∃ c, c.length = d.sz ∧ d.K W p c ∧ ∀ i u, c[i]? = some u → cells[j * d.sz + i]? = some u) : d.C W (some ⟨b, 0, none⟩) ys.length ys := by
  refine ⟨rfl, by omega, fun _ => ⟨_, rfl, fun j p hj => ?_⟩⟩
  obtain ⟨c, h1, h2, h3⟩ := h j p hj
  refine ⟨c, h1, h2, fun i u hu => ?_⟩
  rw [Go.WideShapes.add_plain, Nat.zero_add]
  exact hr.cell _ _ (h3 i u hu)
theorem jd_leaf (n : Nat) (w : World) (k : Int) (t : ByteArray) : (jd (n + 1)).K w ⟨k, t, [], []⟩ [.int .i64 k, .string t, .slice none 0 0, .slice none 0 0] :=
  jd_mk n w ⟨k, t, [], []⟩ (Nat.le_refl _) (C_nil _ _ _) (Nat.le_refl _) (C_nil _ _ _)
theorem aw_row {b : Nat} {W : World} (hr : Row 26 b #[.int .i64 3, .string ⟨#[49]⟩, .slice none 0 0, .slice none 0 0, .int .i64 0, .string ⟨#[]⟩, .slice none 0 0, .slice none 0 0] W) :
    (jd 1).C W (some ⟨b, 0, none⟩) 2 [⟨3, ⟨#[49]⟩, [], []⟩, jz] := by
  refine C_lit (jd 1) hr (by simp) ?_
  intro j p hj
  rw [show (jd 1).sz = 4 from jsz 1]
  match j, hj with
  | 0, hj =>
    obtain rfl : (⟨3, ⟨#[49]⟩, [], []⟩ : JV) = p := by simpa using hj
    refine ⟨_, rfl, jd_leaf 0 W 3 _, fun i u hu => ?_⟩
    match i, hu with
    | 0, hu => simpa using hu
    | 1, hu => simpa using hu
    | 2, hu => simpa using hu
    | 3, hu => simpa using hu
    | i + 4, hu => simp at hu
  | 1, hj =>
    obtain rfl : jz = p := by simpa using hj
    refine ⟨_, rfl, jd_leaf 0 W 0 _, fun i u hu => ?_⟩
    match i, hu with
    | 0, hu => simpa using hu
    | 1, hu => simpa using hu
    | 2, hu => simpa using hu
    | 3, hu => simpa using hu
    | i + 4, hu => simp at hu
  | j + 2, hj => simp at hj
theorem aw_mem {b : Nat} {W : World} {A : Option Addr} {c : Nat} {xs : List JV} (n : Nat) (hk : (jd n).K W ⟨5, ⟨#[]⟩, xs, []⟩ (jcells ⟨5, ⟨#[]⟩, xs, []⟩ A c none 0)) (hr : Row 50 b #[.string ⟨#[97]⟩, .int .i64 5, .string ⟨#[]⟩, .slice A xs.length c, .slice none 0 0] W) :
    (jm n).C W (some ⟨b, 0, none⟩) 1 [(⟨#[97]⟩, ⟨5, ⟨#[]⟩, xs, []⟩)] := by
  refine C_lit (jm n) hr (by simp) ?_
  intro j p hj
  rw [jm_sz']
  match j, hj with
  | 0, hj =>
    obtain rfl : ((⟨#[97]⟩, ⟨5, ⟨#[]⟩, xs, []⟩) : ByteArray × JV) = p := by simpa using hj
    refine ⟨.string ⟨#[97]⟩ :: jcells ⟨5, ⟨#[]⟩, xs, []⟩ A c none 0, rfl, ⟨[.string ⟨#[97]⟩], _, rfl, rfl, hk⟩, fun i u hu => ?_⟩
    match i, hu with
    | 0, hu => simpa [jcells] using hu
    | 1, hu => simpa [jcells] using hu
    | 2, hu => simpa [jcells] using hu
    | 3, hu => simpa [jcells] using hu
    | 4, hu => simpa [jcells] using hu
    | i + 5, hu => simp [jcells] at hu
  | j + 1, hj => simp at hj

set_option maxHeartbeats 2000000 in
set_option maxRecDepth 100000 in
theorem awake12 {E : Nat → Addr} (w : World) (hs : Sents E w) :
    Calls Tryd.prog 23 #[] w fun e w' => e = .returned (.bool true) ∧ Hid (Below w.heap.size w w') := by
  have HS := Lib.hid hs
  clear hs
  go_enter Tryd.func23, Tryd.ntmps23
  go_wp2_with (first | (go_at_call 32; refine (Int_1 _).mono ?_; rintro e w1 ⟨rfl, HB1⟩))
  have HL1 : Hid (Row 26 w1.heap.size #[.int .i64 3, .string ⟨#[49]⟩, .slice none 0 0, .slice none 0 0, .int .i64 0, .string ⟨#[]⟩, .slice none 0 0, .slice none 0 0] (w1.alloc (.cells #[.int .i64 3, .string ⟨#[49]⟩, .slice none 0 0, .slice none 0 0, .int .i64 0, .string ⟨#[]⟩, .slice none 0 0, .slice none 0 0] 26))) := Row.new w1 _ _ rfl
  have HB2 : Hid (Below w1.heap.size w1 (w1.alloc (.cells #[.int .i64 3, .string ⟨#[49]⟩, .slice none 0 0, .slice none 0 0, .int .i64 0, .string ⟨#[]⟩, .slice none 0 0, .slice none 0 0] 26))) := (Below.refl _ _).alloc (Nat.le_refl _) _
  refine (List_any 1 _ 2 _ _ (aw_row HL1.out) (fun h => nomatch h) (by simp)).mono ?_
  rintro e w2 ⟨A2, c2, rfl, HK2, HB3⟩
  have HB4 := Lib.hid (below_then HB1.out HB1.out.size (below_then HB2.out HB2.out.size HB3.out))
  clear HL1 HB2 HB3 HB1
  go_wp2_with fail
  have HL3 : Hid (Row 50 w2.heap.size #[.string ⟨#[97]⟩, .int .i64 5, .string ⟨#[]⟩, .slice A2 2 c2, .slice none 0 0] (w2.alloc (.cells #[.string ⟨#[97]⟩, .int .i64 5, .string ⟨#[]⟩, .slice A2 2 c2, .slice none 0 0] 50))) := Row.new w2 _ _ rfl
  have HB5 : Hid (Below w2.heap.size w2 (w2.alloc (.cells #[.string ⟨#[97]⟩, .int .i64 5, .string ⟨#[]⟩, .slice A2 2 c2, .slice none 0 0] 50))) := (Below.refl _ _).alloc (Nat.le_refl _) _
  have HM := Lib.hid (aw_mem 2 ((jd 2).K_below HB5.out HK2.out) HL3.out)
  refine (Obj_any 2 _ 1 _ _ HM.out (fun h => nomatch h) (by simp)).mono ?_
  rintro e w3 ⟨A3, c3, rfl, HK3, HB6⟩
  have HB7 := Lib.hid (below_then HB4.out HB4.out.size (below_then HB5.out HB5.out.size HB6.out))
  clear HM HL3 HB5 HB6 HK2 HB4
  have H1 : Hid (Row 26 w3.heap.size (leafA 0 ⟨#[]⟩) (w3.alloc (.cells (leafA 0 ⟨#[]⟩) 26))) := Row.new w3 _ _ rfl
  have H1B := Lib.hid ((Below.refl w3.heap.size w3).alloc (Nat.le_refl _) (.cells (leafA 0 ⟨#[]⟩) 26))
  go_wp2_with (first | ((with_reducible refine wpl_put_val (cs := ?_) H1.out rfl ?hx ?hy ?hs ?hz ?_); (case hx => rfl); (case hy => rfl); (case hs => rfl); (case hz => (simp [Value.oneCell']; done)); intro w4 hr4 hw4; have HR4 := Lib.hid hr4; have d0 := hr4.cell 0 _ rfl; have d1 := hr4.cell 1 _ rfl; have d2 := hr4.cell 2 _ rfl; have d3 := hr4.cell 3 _ rfl; have hb4 := hw4.below H1B.out (Nat.le_refl _); have HK4 := Lib.hid ((jd 3).K_below hb4 HK3.out); have HB8 := Lib.hid (below_then HB7.out HB7.out.size hb4); clear hr4 hw4 hb4))
  refine (Text_any (E := E) 3 awV _ _ (HS.out.below HB8.out) HK4.out awV_tot awV_len).mono ?_
  rintro e w5 ⟨rfl, hb5⟩
  rw [awV_text]
  have HK5 := Lib.hid ((jd 3).K_below hb5.out HK4.out)
  have HR5 := Lib.hid (HR4.out.below hb5.out)
  have HB9 := Lib.hid (below_then HB8.out HB8.out.size hb5.out)
  clear hb5 HK4 HR4 HB8 d0 d1 d2 d3 H1 H1B HK3 HB7
  have d0 := HR5.out.cell 0 _ rfl
  have d1 := HR5.out.cell 1 _ rfl
  have d2 := HR5.out.cell 2 _ rfl
  have d3 := HR5.out.cell 3 _ rfl
  go_wp2_with fail
  refine (Size_any (E := E) 3 awV _ _ (HS.out.below HB9.out) HK5.out awV_tot).mono ?_
  rintro e w6 ⟨rfl, hb6⟩
  rw [awV_cnt]
  have HB10 := Lib.hid (below_then HB9.out HB9.out.size hb6.out)
  clear hb6
  go_wp2_with fail
  go_ret
  exact ⟨rfl, HB10.out⟩
end Go.Proofs.YtpdpgppaoipnlaaDoor

