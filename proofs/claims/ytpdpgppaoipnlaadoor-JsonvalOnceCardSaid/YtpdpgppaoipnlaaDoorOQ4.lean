/- What the claim uses of the text Q4. -/
import Derived.Test.YtpdpgppaoipnlaaDoorOQ3
import Derived.Test.YtpdpgppaoipnlaaDoorOR3
import Derived.Deep.RegionHeld3
set_option linter.unusedVariables false
set_option linter.unusedSimpArgs false
namespace Go.Proofs.YtpdpgppaoipnlaaDoor
open Go.RowKit Go.PlainAid
open Go.Proofs.YtpdpgppaoipnlaaDoorW.PrintWords hiding bt
open Go.Proofs.YtpdpgppaoipnlaaDoorW.PrintMore

mutual
theorem sameV_is : ∀ (a b : JV), sameV a b = true → a = b
  | ⟨k, t, l, m⟩, ⟨k', t', l', m'⟩, h => by
    simp only [sameV, Bool.and_eq_true, decide_eq_true_eq] at h
    obtain ⟨h1, h2, h3, h4⟩ := h
    rw [h1, h2, sameL_is l l' h3, sameM_is m m' h4]
theorem sameL_is : ∀ (a b : List JV), sameL a b = true → a = b
  | [], [], _ => rfl
  | [], _ :: _, h => by simp [sameL] at h
  | _ :: _, [], h => by simp [sameL] at h
  | x :: l, y :: r, h => by
    simp only [sameL, Bool.and_eq_true] at h
    rw [sameV_is x y h.1, sameL_is l r h.2]
theorem sameM_is : ∀ (a b : List (ByteArray × JV)), sameM a b = true → a = b
  | [], [], _ => rfl
  | [], _ :: _, h => by simp [sameM] at h
  | _ :: _, [], h => by simp [sameM] at h
  | (n, x) :: l, (o, y) :: r, h => by
    simp only [sameM, Bool.and_eq_true, decide_eq_true_eq] at h
    rw [h.1, sameV_is x y h.2.1, sameM_is l r h.2.2]
end
/-- Right values whose texts are the same are the same. -/
theorem once_law {a b : JV} (ha : okV a 1 = true) (hb : okV b 1 = true) (ta : totV a ≤ 100000) (tb : totV b ≤ 100000) : ((strOfNums (putV a)).toList == (strOfNums (putV b)).toList) = sameV a b := by
  cases hz : sameV a b with
  | true => rw [sameV_is a b hz, beq_self_eq_true]
  | false =>
    rw [beq_eq_false_iff_ne]
    intro h
    rw [toList_ints] at h
    have h' := ints_inj h
    obtain ⟨p, h1⟩ := readV_put ha ta
    obtain ⟨q, h2⟩ := readV_put hb tb
    rw [h', h2] at h1
    simp only [Prod.mk.injEq] at h1
    rw [h1.1, sameV_refl] at hz
    cases hz
/-- What Check tells: nothing, of a right value; or a fault. -/
theorem Check_tells {E : Nat → Addr} (n : Nat) (x : JV) (cs : List Value) (w : World) (hs : Sents E w) (hk : (jd n).K w x cs) (ht : totV x ≤ 100000) :
    Calls Tryd.prog 25 #[.agg cs.toArray] w fun e w' => ((okV x 1 = true ∧ e = .returned .nilIface) ∨ (okV x 1 = false ∧ ∃ q, e = .returned (.iface 69 (.pointer (some q))))) ∧ Hid (Below w.heap.size w w') := by
  refine (Check_any (E := E) n x cs w hs hk ht).mono ?_
  rintro e w' ⟨v, rfl, h1, h2⟩
  cases ho : okV x 1 with
  | true =>
    obtain ⟨_, rfl⟩ := Or.resolve_right h1.out (fun h => absurd h.1 (by rw [(chk_ok x).2 ho]; omega))
    exact ⟨.inl ⟨rfl, rfl⟩, h2⟩
  | false =>
    have hne : (chk x).2 ≠ 0 := fun h => by rw [(chk_ok x).1 h] at ho; cases ho
    obtain ⟨_, _, q, rfl, _, _⟩ := Or.resolve_left h1.out (fun h => hne h.1)
    exact ⟨.inr ⟨rfl, _, rfl⟩, h2⟩

set_option maxHeartbeats 4000000 in
set_option maxRecDepth 100000 in
theorem jsonvalOnce_walk {E : Nat → Addr} (n : Nat) (a : JV) (cs : List Value) (m : Nat) (b : JV) (ds : List Value) (w : World) (hs : Sents E w) (hka : (jd n).K w a cs) (hza : szV reachBytes a) (hkb : (jd m).K w b ds) (hzb : szV reachBytes b) :
    Calls Tryd.prog 5 #[.agg cs.toArray, .agg ds.toArray] w fun e w' => e = .returned (.bool true) ∧ Below w.heap.size w w' := by
  have HKa := Lib.hid hka
  have HKb := Lib.hid hkb
  have HS := Lib.hid hs
  have HZa := Lib.hid hza
  have HZb := Lib.hid hzb
  obtain ⟨n', e1⟩ := jd_cells hka
  obtain ⟨m', e2⟩ := jd_cells hkb
  subst e1 e2
  obtain ⟨A2, c2, A3, c3, rfl, l2, g2, l3, g3⟩ := jd_open hka
  obtain ⟨B2, d2, B3, d3, rfl, l4, g4, l5, g5⟩ := jd_open hkb
  clear hka hkb hs hza hzb l2 g2 l3 g3 l4 g4 l5 g5
  change Calls _ _ #[.agg #[.int .i64 a.kind, .string a.text, .slice A2 a.list.length c2, .slice A3 a.mem.length c3], .agg #[.int .i64 b.kind, .string b.text, .slice B2 b.list.length d2, .slice B3 b.mem.length d3]] _ _
  have HB0 : Hid (Below w.heap.size w ((w.alloc (.cells #[.int .i64 a.kind, .string a.text, .slice A2 a.list.length c2, .slice A3 a.mem.length c3] 26)).alloc (.cells #[.int .i64 b.kind, .string b.text, .slice B2 b.list.length d2, .slice B3 b.mem.length d3] 26))) := by show Below _ _ _; go_grown
  have HRa : Hid (Row 26 w.heap.size #[.int .i64 a.kind, .string a.text, .slice A2 a.list.length c2, .slice A3 a.mem.length c3] ((w.alloc (.cells #[.int .i64 a.kind, .string a.text, .slice A2 a.list.length c2, .slice A3 a.mem.length c3] 26)).alloc (.cells #[.int .i64 b.kind, .string b.text, .slice B2 b.list.length d2, .slice B3 b.mem.length d3] 26))) := (Row.new w _ _ rfl).old _
  have HRb : Hid (Row 26 (w.heap.size + 1) #[.int .i64 b.kind, .string b.text, .slice B2 b.list.length d2, .slice B3 b.mem.length d3] ((w.alloc (.cells #[.int .i64 a.kind, .string a.text, .slice A2 a.list.length c2, .slice A3 a.mem.length c3] 26)).alloc (.cells #[.int .i64 b.kind, .string b.text, .slice B2 b.list.length d2, .slice B3 b.mem.length d3] 26))) := Row.new _ _ _ (by simp)
  go_enter Tryd.func5, Tryd.ntmps5
  go_wp2_with fail
  obtain ⟨w0, hw0⟩ : ∃ w0, (w.alloc (.cells #[.int .i64 a.kind, .string a.text, .slice A2 a.list.length c2, .slice A3 a.mem.length c3] 26)).alloc (.cells #[.int .i64 b.kind, .string b.text, .slice B2 b.list.length d2, .slice B3 b.mem.length d3] 26) = w0 := ⟨_, rfl⟩
  rw [hw0] at HB0 HRa HRb ⊢
  clear hw0
  -- awake
  refine (awake12 (E := E) _ (HS.out.below HB0.out)).mono ?_
  rintro e w1 ⟨rfl, H1⟩
  have c0 := (HRa.out.below H1.out).cell 0 _ rfl
  have c1 := (HRa.out.below H1.out).cell 1 _ rfl
  have c2' := (HRa.out.below H1.out).cell 2 _ rfl
  have c3' := (HRa.out.below H1.out).cell 3 _ rfl
  go_wp2_with fail
  refine (Great_any _ a _ _ ((jd _).K_below (below_then HB0.out HB0.out.size H1.out) HKa.out) HZa.out).mono ?_
  rintro e w2 ⟨g, rfl, hg, h2⟩
  have H2 := Lib.hid (below_then H1.out H1.out.size h2.out)
  clear h2 H1 c0 c1 c2' c3'
  cases g with
  | true =>
    go_wp2_with fail
    go_ret
    exact ⟨rfl, below_then HB0.out HB0.out.size H2.out⟩
  | false =>
  have HTa : Hid (totV a ≤ 2000) := hg.out rfl
  have c0 := (HRb.out.below H2.out).cell 0 _ rfl
  have c1 := (HRb.out.below H2.out).cell 1 _ rfl
  have c2' := (HRb.out.below H2.out).cell 2 _ rfl
  have c3' := (HRb.out.below H2.out).cell 3 _ rfl
  go_wp2_with fail
  refine (Great_any _ b _ _ ((jd _).K_below (below_then HB0.out HB0.out.size H2.out) HKb.out) HZb.out).mono ?_
  rintro e w3 ⟨g, rfl, hg, h2⟩
  have H3 := Lib.hid (below_then H2.out H2.out.size h2.out)
  clear h2 H2 c0 c1 c2' c3'
  cases g with
  | true =>
    go_wp2_with fail
    go_ret
    exact ⟨rfl, below_then HB0.out HB0.out.size H3.out⟩
  | false =>
  have HTb : Hid (totV b ≤ 2000) := hg.out rfl
  have c0 := (HRa.out.below H3.out).cell 0 _ rfl
  have c1 := (HRa.out.below H3.out).cell 1 _ rfl
  have c2' := (HRa.out.below H3.out).cell 2 _ rfl
  have c3' := (HRa.out.below H3.out).cell 3 _ rfl
  go_wp2_with fail
  refine (Check_tells (E := E) _ a _ _ (HS.out.below (below_then HB0.out HB0.out.size H3.out)) ((jd _).K_below (below_then HB0.out HB0.out.size H3.out) HKa.out) (by have := HTa.out; omega)).mono ?_
  rintro e w4 ⟨⟨hoa, rfl⟩ | ⟨_, q, rfl⟩, h2⟩
  rotate_left
  · have H4 := Lib.hid (below_then H3.out H3.out.size h2.out)
    go_wp2_with fail
    go_ret
    exact ⟨rfl, below_then HB0.out HB0.out.size H4.out⟩
  have H4 := Lib.hid (below_then H3.out H3.out.size h2.out)
  have HOa := Lib.hid hoa
  clear h2 H3 c0 c1 c2' c3' hoa
  have c0 := (HRb.out.below H4.out).cell 0 _ rfl
  have c1 := (HRb.out.below H4.out).cell 1 _ rfl
  have c2' := (HRb.out.below H4.out).cell 2 _ rfl
  have c3' := (HRb.out.below H4.out).cell 3 _ rfl
  go_wp2_with fail
  refine (Check_tells (E := E) _ b _ _ (HS.out.below (below_then HB0.out HB0.out.size H4.out)) ((jd _).K_below (below_then HB0.out HB0.out.size H4.out) HKb.out) (by have := HTb.out; omega)).mono ?_
  rintro e w5 ⟨⟨hob, rfl⟩ | ⟨_, q, rfl⟩, h2⟩
  rotate_left
  · have H5 := Lib.hid (below_then H4.out H4.out.size h2.out)
    go_wp2_with fail
    go_ret
    exact ⟨rfl, below_then HB0.out HB0.out.size H5.out⟩
  have H5 := Lib.hid (below_then H4.out H4.out.size h2.out)
  have HLAW := Lib.hid (once_law HOa.out hob (by have := HTa.out; omega) (by have := HTb.out; omega))
  have HOb := Lib.hid hob
  clear h2 H4 c0 c1 c2' c3' hob
  have hbw : Below w.heap.size w w5 := below_then HB0.out HB0.out.size H5.out
  have HSw := Lib.hid (HS.out.below hbw)
  obtain ⟨sa, Hsa⟩ : ∃ sa, Hid (strOfNums (putV a) = sa) := ⟨_, rfl⟩
  obtain ⟨sb, Hsb⟩ : ∃ sb, Hid (strOfNums (putV b) = sb) := ⟨_, rfl⟩
  obtain ⟨z, Hz⟩ : ∃ z, Hid (sameV a b = z) := ⟨_, rfl⟩
  rw [Hsa.out, Hsb.out, Hz.out] at HLAW
  have HXa : Hid (∀ W, Below w5.heap.size w5 W → Calls Tryd.prog 26 #[.agg #[.int .i64 a.kind, .string a.text, .slice A2 a.list.length c2, .slice A3 a.mem.length c3]] W fun e w' => e = .returned (.string sa) ∧ Hid (Below w5.heap.size w5 w')) := fun W hW => by
    refine (Text_ok (E := E) _ a _ W (HSw.out.below hW) ((jd _).K_below hW ((jd _).K_below hbw HKa.out)) (by have := HTa.out; omega) HOa.out).mono ?_
    rintro e w' ⟨rfl, h⟩
    exact ⟨by rw [Hsa.out], below_then hW hW.size h.out⟩
  have HXb : Hid (∀ W, Below w5.heap.size w5 W → Calls Tryd.prog 26 #[.agg #[.int .i64 b.kind, .string b.text, .slice B2 b.list.length d2, .slice B3 b.mem.length d3]] W fun e w' => e = .returned (.string sb) ∧ Hid (Below w5.heap.size w5 w')) := fun W hW => by
    refine (Text_ok (E := E) _ b _ W (HSw.out.below hW) ((jd _).K_below hW ((jd _).K_below hbw HKb.out)) (by have := HTb.out; omega) HOb.out).mono ?_
    rintro e w' ⟨rfl, h⟩
    exact ⟨by rw [Hsb.out], below_then hW hW.size h.out⟩
  have HXs : Hid (∀ W, Below w5.heap.size w5 W → Calls Tryd.prog 16 #[.agg #[.int .i64 a.kind, .string a.text, .slice A2 a.list.length c2, .slice A3 a.mem.length c3], .agg #[.int .i64 b.kind, .string b.text, .slice B2 b.list.length d2, .slice B3 b.mem.length d3]] W fun e w' => e = .returned (.bool z) ∧ Hid (Below w5.heap.size w5 w')) := fun W hW => by
    refine (Same_any a b _ _ _ _ W ((jd _).K_below hW ((jd _).K_below hbw HKa.out)) ((jd _).K_below hW ((jd _).K_below hbw HKb.out))).mono ?_
    rintro e w' ⟨rfl, h⟩
    exact ⟨by rw [Hz.out], below_then hW hW.size h.out⟩
  have e1 := HLAW.out
  have HBW := Lib.hid hbw
  clear HTa HTb HZa HZb hg Hsa Hsb Hz HLAW HOa HOb hbw HSw
  have a0 := (HRa.out.below H5.out).cell 0 _ rfl
  have a1 := (HRa.out.below H5.out).cell 1 _ rfl
  have a2 := (HRa.out.below H5.out).cell 2 _ rfl
  have a3 := (HRa.out.below H5.out).cell 3 _ rfl
  have b0 := (HRb.out.below H5.out).cell 0 _ rfl
  have b1 := (HRb.out.below H5.out).cell 1 _ rfl
  have b2 := (HRb.out.below H5.out).cell 2 _ rfl
  have b3 := (HRb.out.below H5.out).cell 3 _ rfl
  clear H5 HRa HRb HS HKa HKb HB0
  go_wp2_with fail
  go_region_held3 (fun W => W.cell? ⟨w.heap.size, 0, none⟩ = some (.int .i64 a.kind) ∧ W.cell? ⟨w.heap.size, 1, none⟩ = some (.string a.text) ∧ W.cell? ⟨w.heap.size, 2, none⟩ = some (.slice A2 a.list.length c2) ∧ W.cell? ⟨w.heap.size, 3, none⟩ = some (.slice A3 a.mem.length c3) ∧
      W.cell? ⟨w.heap.size + 1, 0, none⟩ = some (.int .i64 b.kind) ∧ W.cell? ⟨w.heap.size + 1, 1, none⟩ = some (.string b.text) ∧ W.cell? ⟨w.heap.size + 1, 2, none⟩ = some (.slice B2 b.list.length d2) ∧ W.cell? ⟨w.heap.size + 1, 3, none⟩ = some (.slice B3 b.mem.length d3))
    (first | exact ⟨a0, a1, a2, a3, b0, b1, b2, b3⟩ | exact ⟨cell_below (w := w5) hb9.out a0, cell_below (w := w5) hb9.out a1, cell_below (w := w5) hb9.out a2, cell_below (w := w5) hb9.out a3, cell_below (w := w5) hb9.out b0, cell_below (w := w5) hb9.out b1, cell_below (w := w5) hb9.out b2, cell_below (w := w5) hb9.out b3⟩)
    (first
      | (go_simp; go_at_call 26; (first | with_reducible refine (HXa.out _ ?hb).mono ?_ | with_reducible refine (HXb.out _ ?hb).mono ?_); (case hb => first | exact hb9.out | exact below_drew (Below.refl _ _)); rintro e w9 ⟨rfl, hb9⟩)
      | (go_simp; go_at_call 16; with_reducible refine (HXs.out _ ?hb).mono ?_; (case hb => first | exact hb9.out | exact below_drew (Below.refl _ _)); rintro e w9 ⟨rfl, hb9⟩))
  all_goals
    go_wp2_with fail
    go_ret
    exact ⟨by simp, below_then HBW.out HBW.out.size hb9.out⟩
end Go.Proofs.YtpdpgppaoipnlaaDoor

