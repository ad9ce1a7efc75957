/- What the claim uses of the text E4. -/
import Derived.Test.YtpdpgppaoipnlaaDoorUE3
import Derived.Test.YtpdpgppaoipnlaaDoorUQ6
import Derived.Test.YtpdpgppaoipnlaaDoorUQ3
import Derived.Test.YtpdpgppaoipnlaaDoorUQ2
set_option linter.unusedVariables false
set_option linter.unusedSimpArgs false
namespace Go.Proofs.YtpdpgppaoipnlaaDoor
open Go.RowKit Go.PlainAid
open Go.Proofs.YtpdpgppaoipnlaaDoorW.PrintWords hiding bt
open Go.Proofs.YtpdpgppaoipnlaaDoorW.PrintMore

theorem okV_jz : okV jz 1 = true := by kernel_rfl
theorem okV_got {x : JV} {lev : Int} (n : ByteArray) (h : okV x lev = true) : ∃ l, okV ((getF n x.mem).getD jz) l = true := by
  cases hg : getF n x.mem with
  | none => exact ⟨1, okV_jz⟩
  | some y => exact ⟨_, (okV_parts h).2.2.2.2 (n, y) (getF_some hg)⟩
/-- What the law wants of two members. -/
theorem got_law {a b : JV} {la lb : Int} (n : ByteArray) (ha : okV a la = true) (hb : okV b lb = true) (h : eqV a b = true) : (getF n a.mem).isSome = (getF n b.mem).isSome ∧ eqV ((getF n a.mem).getD jz) ((getF n b.mem).getD jz) = true := by
  obtain ⟨h1, h2⟩ := eq_get n ha hb h
  refine ⟨h1, ?_⟩
  cases hx : getF n a.mem with
  | none =>
    cases hy : getF n b.mem with
    | none => exact eqV_refl jz 1 okV_jz
    | some y => rw [hx, hy] at h1; cases h1
  | some x =>
    cases hy : getF n b.mem with
    | none => rw [hx, hy] at h1; cases h1
    | some y => exact h2 x y hx hy

set_option maxHeartbeats 8000000 in
set_option maxRecDepth 100000 in
theorem jsonvalEquals_walk {E : Nat → Addr} (n : Nat) (a : JV) (cs : List Value) (m : Nat) (b : JV) (ds : List Value) (name : ByteArray) (w : World) (hs : Sents E w) (hka : (jd n).K w a cs) (hza : szV reachBytes a) (hkb : (jd m).K w b ds) (hzb : szV reachBytes b) :
    Calls Tryd.prog 8 #[.agg cs.toArray, .agg ds.toArray, .string name] w fun e w' => e = .returned (.bool true) ∧ Below w.heap.size w w' := by
  have HKa := Lib.hid hka
  have HKb := Lib.hid hkb
  have HS := Lib.hid hs
  have HZa := Lib.hid hza
  have HZb := Lib.hid hzb
  obtain ⟨n', e1⟩ := jd_cells hka
  obtain ⟨m', e2⟩ := jd_cells hkb
  subst e1 e2
  obtain ⟨A2, c2, A3, c3, rfl, l2, g2, l3, g3⟩ := jd_open hka
  obtain ⟨B2, d2, B3, d3, rfl, l4, g4, l5, g5⟩ := jd_open hkb
  have G3 := Lib.hid g3
  have s3 : a.mem.length ≤ 9223372036854775807 := g3.2.1
  clear hka hkb hs hza hzb l2 g2 l3 g3 l4 g4 l5 g5
  change Calls _ _ #[.agg #[.int .i64 a.kind, .string a.text, .slice A2 a.list.length c2, .slice A3 a.mem.length c3], .agg #[.int .i64 b.kind, .string b.text, .slice B2 b.list.length d2, .slice B3 b.mem.length d3], _] _ _
  have HB0 : Hid (Below w.heap.size w ((w.alloc (.cells #[.int .i64 a.kind, .string a.text, .slice A2 a.list.length c2, .slice A3 a.mem.length c3] 26)).alloc (.cells #[.int .i64 b.kind, .string b.text, .slice B2 b.list.length d2, .slice B3 b.mem.length d3] 26))) := by show Below _ _ _; go_grown
  have HRa : Hid (Row 26 w.heap.size #[.int .i64 a.kind, .string a.text, .slice A2 a.list.length c2, .slice A3 a.mem.length c3] ((w.alloc (.cells #[.int .i64 a.kind, .string a.text, .slice A2 a.list.length c2, .slice A3 a.mem.length c3] 26)).alloc (.cells #[.int .i64 b.kind, .string b.text, .slice B2 b.list.length d2, .slice B3 b.mem.length d3] 26))) := (Row.new w _ _ rfl).old _
  have HRb : Hid (Row 26 (w.heap.size + 1) #[.int .i64 b.kind, .string b.text, .slice B2 b.list.length d2, .slice B3 b.mem.length d3] ((w.alloc (.cells #[.int .i64 a.kind, .string a.text, .slice A2 a.list.length c2, .slice A3 a.mem.length c3] 26)).alloc (.cells #[.int .i64 b.kind, .string b.text, .slice B2 b.list.length d2, .slice B3 b.mem.length d3] 26))) := Row.new _ _ _ (by simp)
  go_enter Tryd.func8, Tryd.ntmps8
  go_wp2_with fail
  obtain ⟨w0, hw0⟩ : ∃ w0, (w.alloc (.cells #[.int .i64 a.kind, .string a.text, .slice A2 a.list.length c2, .slice A3 a.mem.length c3] 26)).alloc (.cells #[.int .i64 b.kind, .string b.text, .slice B2 b.list.length d2, .slice B3 b.mem.length d3] 26) = w0 := ⟨_, rfl⟩
  rw [hw0] at HB0 HRa HRb ⊢
  clear hw0
  -- awake
  refine (awake12 (E := E) _ (HS.out.below HB0.out)).mono ?_
  rintro e w1 ⟨rfl, H1⟩
  have c0 := (HRa.out.below H1.out).cell 0 _ rfl
  have c1 := (HRa.out.below H1.out).cell 1 _ rfl
  have c2' := (HRa.out.below H1.out).cell 2 _ rfl
  have c3' := (HRa.out.below H1.out).cell 3 _ rfl
  go_wp2_with fail
  refine (Great_any _ a _ _ ((jd _).K_below (below_then HB0.out HB0.out.size H1.out) HKa.out) HZa.out).mono ?_
  rintro e w2 ⟨g, rfl, hg, h2⟩
  have H2 := Lib.hid (below_then H1.out H1.out.size h2.out)
  clear h2 H1 c0 c1 c2' c3'
  cases g with
  | true =>
    go_wp2_with fail
    go_ret
    exact ⟨rfl, below_then HB0.out HB0.out.size H2.out⟩
  | false =>
  have HTa : Hid (totV a ≤ 2000) := hg.out rfl
  have c0 := (HRb.out.below H2.out).cell 0 _ rfl
  have c1 := (HRb.out.below H2.out).cell 1 _ rfl
  have c2' := (HRb.out.below H2.out).cell 2 _ rfl
  have c3' := (HRb.out.below H2.out).cell 3 _ rfl
  go_wp2_with fail
  refine (Great_any _ b _ _ ((jd _).K_below (below_then HB0.out HB0.out.size H2.out) HKb.out) HZb.out).mono ?_
  rintro e w3 ⟨g, rfl, hg, h2⟩
  have H3 := Lib.hid (below_then H2.out H2.out.size h2.out)
  clear h2 H2 c0 c1 c2' c3'
  cases g with
  | true =>
    go_wp2_with fail
    go_ret
    exact ⟨rfl, below_then HB0.out HB0.out.size H3.out⟩
  | false =>
  have HTb : Hid (totV b ≤ 2000) := hg.out rfl
  have c0 := (HRa.out.below H3.out).cell 0 _ rfl
  have c1 := (HRa.out.below H3.out).cell 1 _ rfl
  have c2' := (HRa.out.below H3.out).cell 2 _ rfl
  have c3' := (HRa.out.below H3.out).cell 3 _ rfl
  go_wp2_with fail
  refine (Right_any _ a _ _ ((jd _).K_below (below_then HB0.out HB0.out.size H3.out) HKa.out) (by have := HTa.out; omega)).mono ?_
  rintro e w4 ⟨rfl, h2⟩
  have H4 := Lib.hid (below_then H3.out H3.out.size h2.out)
  clear h2 H3 c0 c1 c2' c3'
  obtain ⟨oa, hoa⟩ : ∃ o, okV a 1 = o := ⟨_, rfl⟩
  rw [hoa]
  have HOa := Lib.hid hoa
  clear hoa
  cases oa with
  | false =>
    go_wp2_with fail
    go_ret
    exact ⟨rfl, below_then HB0.out HB0.out.size H4.out⟩
  | true =>
  have c0 := (HRb.out.below H4.out).cell 0 _ rfl
  have c1 := (HRb.out.below H4.out).cell 1 _ rfl
  have c2' := (HRb.out.below H4.out).cell 2 _ rfl
  have c3' := (HRb.out.below H4.out).cell 3 _ rfl
  go_wp2_with fail
  refine (Right_any _ b _ _ ((jd _).K_below (below_then HB0.out HB0.out.size H4.out) HKb.out) (by have := HTb.out; omega)).mono ?_
  rintro e w5 ⟨rfl, h2⟩
  have H5 := Lib.hid (below_then H4.out H4.out.size h2.out)
  clear h2 H4 c0 c1 c2' c3'
  obtain ⟨ob, hob⟩ : ∃ o, okV b 1 = o := ⟨_, rfl⟩
  rw [hob]
  have HOb := Lib.hid hob
  clear hob
  cases ob with
  | false =>
    go_wp2_with fail
    go_ret
    exact ⟨rfl, below_then HB0.out HB0.out.size H5.out⟩
  | true =>
  have c0 := (HRa.out.below H5.out).cell 0 _ rfl
  have c1 := (HRa.out.below H5.out).cell 1 _ rfl
  have c2' := (HRa.out.below H5.out).cell 2 _ rfl
  have c3' := (HRa.out.below H5.out).cell 3 _ rfl
  have b0 := (HRb.out.below H5.out).cell 0 _ rfl
  have b1 := (HRb.out.below H5.out).cell 1 _ rfl
  have b2 := (HRb.out.below H5.out).cell 2 _ rfl
  have b3 := (HRb.out.below H5.out).cell 3 _ rfl
  have hbw : Below w.heap.size w w5 := below_then HB0.out HB0.out.size H5.out
  have HKa5 := Lib.hid ((jd _).K_below hbw HKa.out)
  have HKb5 := Lib.hid ((jd _).K_below hbw HKb.out)
  have HB5 := Lib.hid hbw
  clear hbw HTa HTb HZa HZb hg HS
  obtain ⟨z, Hz⟩ : ∃ z, Hid (eqV a b = z) := ⟨_, rfl⟩
  go_wp2_with fail
  refine (req_all _ _ a b _ _ _ _ _ HKa5.out HKb5.out HOa.out HOb.out).mono ?_
  rintro e w6 ⟨rfl, h6⟩
  rw [Hz.out]
  have HB6 := Lib.hid (below_then HB5.out HB5.out.size h6.out)
  have HRa6 := Lib.hid ((HRa.out.below H5.out).below h6.out)
  have HRb6 := Lib.hid ((HRb.out.below H5.out).below h6.out)
  have HKa6 := Lib.hid ((jd _).K_below h6.out HKa5.out)
  have HKb6 := Lib.hid ((jd _).K_below h6.out HKb5.out)
  clear h6 HKa5 HKb5 HB5 H5 HRa HRb HB0 c0 c1 c2' c3' b0 b1 b2 b3
  -- Get(a, name)
  have c0 := HRa6.out.cell 0 _ rfl
  have c1 := HRa6.out.cell 1 _ rfl
  have c2' := HRa6.out.cell 2 _ rfl
  have c3' := HRa6.out.cell 3 _ rfl
  go_wp2_with fail
  refine (Get_any _ a _ name _ HKa6.out (okV_parts HOa.out).2.1).mono ?_
  rintro e w7 ⟨X2, x2, X3, x3, rfl, HKx, h7⟩
  have HPX := Lib.hid (okV_got name HOa.out)
  have HLAW : Hid (z = true → (getF name a.mem).isSome = (getF name b.mem).isSome ∧ eqV ((getF name a.mem).getD jz) ((getF name b.mem).getD jz) = true) := fun h => got_law name HOa.out HOb.out (by rw [Hz.out]; exact h)
  have HFA : Hid (∀ y, getF name a.mem = some y → (getF name a.mem).isSome = true ∧ (getF name a.mem).getD jz = y) := fun y h => by rw [h]; exact ⟨rfl, rfl⟩
  have HFN : Hid ((getF name a.mem).isSome = false → (getF name a.mem).getD jz = jz) := by
    intro h
    cases hg : getF name a.mem with
    | none => rfl
    | some y => rw [hg] at h; cases h
  have HCN : Hid (∀ c, Cnt name a.mem a.mem.length c → decide (0 < c) = (getF name a.mem).isSome) := by
    intro c hc
    have := cnt_all hc
    cases hp : (getF name a.mem).isSome with
    | true => rw [hp] at this; exact decide_eq_true (this.2 rfl)
    | false => rw [hp] at this; exact decide_eq_false fun h => absurd (this.1 h) (by simp)
  obtain ⟨p, hp⟩ : ∃ p, (getF name a.mem).isSome = p := ⟨_, rfl⟩
  obtain ⟨x, hx⟩ : ∃ x, (getF name a.mem).getD jz = x := ⟨_, rfl⟩
  rw [hp, hx] at HLAW HFA
  rw [hp, hx] at HFN
  rw [hp] at HCN
  rw [hx] at HPX HKx
  rw [hp, hx]
  clear hp hx
  have HB7 := Lib.hid (below_then HB6.out HB6.out.size h7.out)
  have HRa7 := Lib.hid (HRa6.out.below h7.out)
  have HRb7 := Lib.hid (HRb6.out.below h7.out)
  have HKa7 := Lib.hid ((jd _).K_below h7.out HKa6.out)
  have HKb7 := Lib.hid ((jd _).K_below h7.out HKb6.out)
  have H1 : Hid (Row 26 w7.heap.size (leafA 0 ⟨#[]⟩) (w7.alloc (.cells (leafA 0 ⟨#[]⟩) 26))) := Row.new w7 _ _ rfl
  have H1B := Lib.hid ((Below.refl w7.heap.size w7).alloc (Nat.le_refl _) (.cells (leafA 0 ⟨#[]⟩) 26))
  clear h7 HB6 HRa6 HRb6 HKa6 HKb6 c0 c1 c2' c3'
  obtain ⟨bx, HBX⟩ : ∃ bx, Hid (w7.heap.size = bx) := ⟨_, rfl⟩
  go_wp2_with (first | ((with_reducible refine wpl_put_val (cs := ?_) H1.out rfl ?hx ?hy ?hs ?hz ?_); (case hx => rfl); (case hy => rfl); (case hs => rfl); (case hz => (simp [Value.oneCell']; done)); intro w8 hr8 hw8; have hb8 := hw8.below H1B.out (Nat.le_refl _); have HX8 := Lib.hid hr8; have HB8 := Lib.hid (below_then HB7.out HB7.out.size hb8); have HRa8 := Lib.hid (HRa7.out.below hb8); have HRb8 := Lib.hid (HRb7.out.below hb8); have HKa8 := Lib.hid ((jd _).K_below hb8 HKa7.out); have HKb8 := Lib.hid ((jd _).K_below hb8 HKb7.out); have HKx8 := Lib.hid ((jd _).K_below hb8 HKx.out); clear hr8 hw8 hb8; have c0 := HRb8.out.cell 0 _ rfl; have c1 := HRb8.out.cell 1 _ rfl; have c2' := HRb8.out.cell 2 _ rfl; have c3' := HRb8.out.cell 3 _ rfl))
  rw [HBX.out] at HX8 ⊢
  clear HBX H1 H1B HB7 HRa7 HRb7 HKa7 HKb7 HKx w7
  refine (Get_any _ b _ name _ HKb8.out (okV_parts HOb.out).2.1).mono ?_
  rintro e w9 ⟨Y2, y2, Y3, y3, rfl, HKy, h9⟩
  have HPY := Lib.hid (okV_got name HOb.out)
  obtain ⟨q, hq⟩ : ∃ q, (getF name b.mem).isSome = q := ⟨_, rfl⟩
  obtain ⟨y, hy⟩ : ∃ y, (getF name b.mem).getD jz = y := ⟨_, rfl⟩
  rw [hq, hy] at HLAW
  rw [hy] at HPY HKy
  rw [hq, hy]
  clear hq hy
  have HB9 := Lib.hid (below_then HB8.out HB8.out.size h9.out)
  have HRa9 := Lib.hid (HRa8.out.below h9.out)
  have HRb9 := Lib.hid (HRb8.out.below h9.out)
  have HX9 := Lib.hid (HX8.out.below h9.out)
  have HKa9 := Lib.hid ((jd _).K_below h9.out HKa8.out)
  have HKb9 := Lib.hid ((jd _).K_below h9.out HKb8.out)
  have HKx9 := Lib.hid ((jd _).K_below h9.out HKx8.out)
  have H2 : Hid (Row 26 w9.heap.size (leafA 0 ⟨#[]⟩) (w9.alloc (.cells (leafA 0 ⟨#[]⟩) 26))) := Row.new w9 _ _ rfl
  have H2B := Lib.hid ((Below.refl w9.heap.size w9).alloc (Nat.le_refl _) (.cells (leafA 0 ⟨#[]⟩) 26))
  clear h9 HB8 HRa8 HRb8 HKa8 HKb8 HKx8 HX8 c0 c1 c2' c3'
  obtain ⟨by_, HBY⟩ : ∃ bx, Hid (w9.heap.size = bx) := ⟨_, rfl⟩
  go_upto_region 8 with (first | ((with_reducible refine wpl_put_val (cs := ?_) H2.out rfl ?hx ?hy ?hs ?hz ?_); (case hx => rfl); (case hy => rfl); (case hs => rfl); (case hz => (simp [Value.oneCell']; done)); intro wa hra hwa; have hba := hwa.below H2B.out (Nat.le_refl _); have HYa := Lib.hid hra; have HBa := Lib.hid (below_then HB9.out HB9.out.size hba); have HRaa := Lib.hid (HRa9.out.below hba); have HRba := Lib.hid (HRb9.out.below hba); have HXa := Lib.hid (HX9.out.below hba); have HKaa := Lib.hid ((jd _).K_below hba HKa9.out); have HKba := Lib.hid ((jd _).K_below hba HKb9.out); have HKxa := Lib.hid ((jd _).K_below hba HKx9.out); have HKya := Lib.hid ((jd _).K_below hba HKy.out); clear hra hwa hba))
  rw [HBY.out] at HYa ⊢
  clear HBY H2 H2B HB9 HRa9 HRb9 HKa9 HKb9 HKx9 HKy HX9 w9
  have HXab : Hid (∀ W, Below wa.heap.size wa W → Calls Tryd.prog 41 #[.agg #[.int .i64 a.kind, .string a.text, .slice A2 a.list.length c2, .slice A3 a.mem.length c3], .agg #[.int .i64 b.kind, .string b.text, .slice B2 b.list.length d2, .slice B3 b.mem.length d3]] W fun e w' => e = .returned (.bool z) ∧ Hid (Below W.heap.size W w')) := fun W hW => by
    rw [← Hz.out]
    exact eq_all _ _ a b _ _ _ _ W ((jd _).K_below hW HKaa.out) ((jd _).K_below hW HKba.out) HOa.out HOb.out
  have HXba : Hid (∀ W, Below wa.heap.size wa W → Calls Tryd.prog 41 #[.agg #[.int .i64 b.kind, .string b.text, .slice B2 b.list.length d2, .slice B3 b.mem.length d3], .agg #[.int .i64 a.kind, .string a.text, .slice A2 a.list.length c2, .slice A3 a.mem.length c3]] W fun e w' => e = .returned (.bool z) ∧ Hid (Below W.heap.size W w')) := fun W hW => by
    rw [← Hz.out, ← eqV_symm HOa.out HOb.out]
    exact eq_all _ _ b a _ _ _ _ W ((jd _).K_below hW HKba.out) ((jd _).K_below hW HKaa.out) HOb.out HOa.out
  have HXaa : Hid (∀ W, Below wa.heap.size wa W → Calls Tryd.prog 41 #[.agg #[.int .i64 a.kind, .string a.text, .slice A2 a.list.length c2, .slice A3 a.mem.length c3], .agg #[.int .i64 a.kind, .string a.text, .slice A2 a.list.length c2, .slice A3 a.mem.length c3]] W fun e w' => e = .returned (.bool true) ∧ Hid (Below W.heap.size W w')) := fun W hW => by
    rw [← eqV_refl a 1 HOa.out]
    exact eq_all _ _ a a _ _ _ _ W ((jd _).K_below hW HKaa.out) ((jd _).K_below hW HKaa.out) HOa.out HOa.out
  have HXxy : Hid (∀ W, z = true → Below wa.heap.size wa W → Calls Tryd.prog 39 #[.agg #[.int .i64 x.kind, .string x.text, .slice X2 x.list.length x2, .slice X3 x.mem.length x3], .agg #[.int .i64 y.kind, .string y.text, .slice Y2 y.list.length y2, .slice Y3 y.mem.length y3]] W fun e w' => e = .returned (.bool true) ∧ Hid (Below W.heap.size W w')) := fun W hz hW => by
    obtain ⟨lx, hlx⟩ := HPX.out
    obtain ⟨ly, hly⟩ := HPY.out
    rw [← (HLAW.out hz).2]
    exact req_all _ _ x y _ _ _ _ W ((jd _).K_below hW HKxa.out) ((jd _).K_below hW HKya.out) hlx hly
  have HUN := Lib.hid (okV_parts HOa.out).2.2.1
  clear HKba HKya HPX HPY
  go_cut [78] (fun v wc => v = .bool false ∧ Hid (Below wa.heap.size wa wc))
  case first =>
    have c0 := HRaa.out.cell 0 _ rfl
    have c1 := HRaa.out.cell 1 _ rfl
    have c2' := HRaa.out.cell 2 _ rfl
    have c3' := HRaa.out.cell 3 _ rfl
    have b0 := HRba.out.cell 0 _ rfl
    have b1 := HRba.out.cell 1 _ rfl
    have b2 := HRba.out.cell 2 _ rfl
    have b3 := HRba.out.cell 3 _ rfl
    have ez : (z != z) = false := by simp
    go_wp2_with fail
    refine (HXab.out _ (Below.refl _ _)).mono ?_
    rintro e w1 ⟨rfl, h1⟩
    have HC1 := h1
    clear c0 c1 c2' c3' b0 b1 b2 b3
    have c0 := (HRaa.out.below h1.out).cell 0 _ rfl
    have c1 := (HRaa.out.below h1.out).cell 1 _ rfl
    have c2' := (HRaa.out.below h1.out).cell 2 _ rfl
    have c3' := (HRaa.out.below h1.out).cell 3 _ rfl
    have b0 := (HRba.out.below h1.out).cell 0 _ rfl
    have b1 := (HRba.out.below h1.out).cell 1 _ rfl
    have b2 := (HRba.out.below h1.out).cell 2 _ rfl
    have b3 := (HRba.out.below h1.out).cell 3 _ rfl
    clear h1
    go_wp2_with fail
    refine (HXba.out _ HC1.out).mono ?_
    rintro e w2 ⟨rfl, h2⟩
    have HC2 := Lib.hid (below_then HC1.out HC1.out.size h2.out)
    clear h2 HC1 c0 c1 c2' c3' b0 b1 b2 b3
    have c0 := (HRaa.out.below HC2.out).cell 0 _ rfl
    have c1 := (HRaa.out.below HC2.out).cell 1 _ rfl
    have c2' := (HRaa.out.below HC2.out).cell 2 _ rfl
    have c3' := (HRaa.out.below HC2.out).cell 3 _ rfl
    go_wp2_with fail
    refine (HXaa.out _ HC2.out).mono ?_
    rintro e w3 ⟨rfl, h3⟩
    have HC3 := Lib.hid (below_then HC2.out HC2.out.size h3.out)
    clear h3 HC2 c0 c1 c2' c3' ez
    cases z with
    | false =>
      go_wp2_with fail
      go_meet
      case rel => exact ⟨rfl, HC3⟩
    | true =>
      obtain rfl : p = q := (HLAW.out rfl).1
      have ep : (p != p) = false := by simp
      have c0 := (HXa.out.below HC3.out).cell 0 _ rfl
      have c1 := (HXa.out.below HC3.out).cell 1 _ rfl
      have c2' := (HXa.out.below HC3.out).cell 2 _ rfl
      have c3' := (HXa.out.below HC3.out).cell 3 _ rfl
      have b0 := (HYa.out.below HC3.out).cell 0 _ rfl
      have b1 := (HYa.out.below HC3.out).cell 1 _ rfl
      have b2 := (HYa.out.below HC3.out).cell 2 _ rfl
      have b3 := (HYa.out.below HC3.out).cell 3 _ rfl
      go_wp2_with fail
      refine (HXxy.out _ (by first | rfl | trivial) HC3.out).mono ?_
      rintro e w4 ⟨rfl, h4⟩
      have HC4 := Lib.hid (below_then HC3.out HC3.out.size h4.out)
      go_wp2_with fail
      go_meet
      case rel => exact ⟨rfl, HC4⟩
  case rest =>
    obtain ⟨rfl, HBc⟩ := hcut
    clear HXab HXba HXaa HXxy HLAW HRba HYa Hz
    go_wp2_with fail
    go_loopg [12, 13] a.mem.length (fun g v12 v13 wi => ∃ c k : Nat, v12 = .int .i64 c ∧ v13 = .int .i64 k ∧ Hid (k + g = a.mem.length) ∧ Hid (Cnt name a.mem k c) ∧ Hid (Below wa.heap.size wa wi))
    case atStart => exact ⟨0, 0, rfl, rfl, by show _ = _; omega, cnt_zero _ _, HBc⟩
    case round =>
      obtain ⟨c, k, rfl, rfl, HK, HC, HB⟩ := hrel
      have ca := (HRaa.out.below HB.out).cell 3 _ rfl
      by_cases hlt : k < a.mem.length
      · have HBw := Lib.hid (below_then HBa.out HBa.out.size HB.out)
        obtain ⟨ad, Z2, z2, Z3, z3, rfl, hKa, qn, q0, q1, q2, q3⟩ := jm_at G3.out k hlt
        replace qn := cell_under HBw.out qn
        replace q0 := cell_under HBw.out q0
        replace q1 := cell_under HBw.out q1
        replace q2 := cell_under HBw.out q2
        replace q3 := cell_under HBw.out q3
        have k0 : (0 : Int) ≤ (k : Int) := by omega
        have k1 : (k : Int) < (a.mem.length : Int) := by omega
        have k3 : decide (k < a.mem.length) = true := by simpa using hlt
        have hck : c ≤ k := HC.out.1
        obtain ⟨g1, rfl⟩ : ∃ g1, gk = g1 + 1 := ⟨gk - 1, by have := HK.out; omega⟩
        have HY := Lib.hid (fun e => cnt_yes HC.out hlt e)
        have HN := Lib.hid (fun e => cnt_no HC.out hlt e)
        have HAT := Lib.hid (fun e => getF_at (n := name) HUN.out hlt e)
        have HKa := Lib.hid hKa
        clear hKa
        generalize a.mem.getD k (⟨#[]⟩, jz) = ea at *
        obtain ⟨nm, ya⟩ := ea
        dsimp only at qn q0 q1 q2 q3 HKa HY HN HAT
        by_cases hn : nm = name
        · have e2 := tl_true hn
          have e3 : nm.toList = name.toList := by rw [hn]
          have HC2 := Lib.hid (HY.out hn)
          obtain ⟨hp1, hx1⟩ := HFA.out ya (HAT.out hn)
          subst hp1 hx1
          have c0 := (HXa.out.below HB.out).cell 0 _ rfl
          have c1 := (HXa.out.below HB.out).cell 1 _ rfl
          have c2' := (HXa.out.below HB.out).cell 2 _ rfl
          have c3' := (HXa.out.below HB.out).cell 3 _ rfl
          have HSM : Hid (∀ W, Below wr.heap.size wr W → Calls Tryd.prog 16 #[.agg #[.int .i64 x.kind, .string x.text, .slice Z2 x.list.length z2, .slice Z3 x.mem.length z3], .agg #[.int .i64 x.kind, .string x.text, .slice X2 x.list.length x2, .slice X3 x.mem.length x3]] W fun e w' => e = .returned (.bool true) ∧ Hid (Below W.heap.size W w')) := fun W hW => by
            rw [← sameV_refl x]
            exact Same_any x x _ _ _ _ W ((jd _).K_below hW ((jd _).K_below HBw.out HKa.out)) ((jd _).K_below hW ((jd _).K_below HB.out HKxa.out))
          have HBd : Hid (Below wr.heap.size wr wr.drew) := below_drew (Below.refl _ _)
          clear hn HY HN HAT HFN HFA HCN
          go_wp2_with fail
          go_still_tail 10, (by kernel_rfl)
          change wpList _ _ _ _ _ wr.drew
          generalize wr.drew = w2 at *
          go_wp2_with (go_at_call 16; refine (HSM.out _ HBd.out).mono ?_; rintro e w4 ⟨rfl, hb4⟩)
          go_roundg g1
          case measure => omega
          case rel => exact ⟨c + 1, k + 1, by go_num, by go_num, by have := HK.out; show _ = _; omega, HC2, below_then HB.out HB.out.size (below_then HBd.out HBd.out.size hb4.out)⟩
        · have e2 := tl_false hn
          have e3 : ¬ nm.toList = name.toList := fun h => by have := tl_false hn; rw [h] at this; simp at this
          have HC2 := Lib.hid (HN.out hn)
          clear hn HY HN HAT
          go_wp2_with fail
          go_roundg g1
          case measure => omega
          case rel => exact ⟨c, k + 1, rfl, by go_num, by have := HK.out; show _ = _; omega, HC2, HB⟩
      · obtain rfl : k = a.mem.length := by have := HK.out; omega
        have k3 : decide (a.mem.length < a.mem.length) = false := by simp
        have hcc := HCN.out c HC.out
        have hcc' : decide ((0 : Int) < (c : Int)) = p := by
          rw [← hcc]
          by_cases h : 0 < c
          · rw [decide_eq_true h, decide_eq_true (by omega)]
          · rw [decide_eq_false h, decide_eq_false (by omega)]
        have c0 := (HXa.out.below HB.out).cell 0 _ rfl
        have c1 := (HXa.out.below HB.out).cell 1 _ rfl
        have c2' := (HXa.out.below HB.out).cell 2 _ rfl
        have c3' := (HXa.out.below HB.out).cell 3 _ rfl
        clear hlt HK HC HCN HFA
        cases p with
        | true =>
          go_wp2_with fail
          go_ret
          exact ⟨rfl, below_then HBa.out HBa.out.size HB.out⟩
        | false =>
          obtain rfl := (HFN.out rfl).symm
          have HSM : Hid (∀ W, Below wr.heap.size wr W → Calls Tryd.prog 16 #[.agg #[.int .i64 jz.kind, .string jz.text, .slice X2 jz.list.length x2, .slice X3 jz.mem.length x3], .agg #[.int .i64 0, .string ⟨#[]⟩, .slice none 0 0, .slice none 0 0]] W fun e w' => e = .returned (.bool true) ∧ Hid (Below W.heap.size W w')) := fun W hW => by
            rw [← sameV_refl jz]
            exact Same_any jz jz _ _ _ _ W ((jd _).K_below hW ((jd _).K_below HB.out HKxa.out)) (K_jz 0 W)
          go_wp2_with fail
          refine (HSM.out _ (Below.refl _ _)).mono ?_
          rintro e w4 ⟨rfl, hb4⟩
          go_wp2_with fail
          go_ret
          exact ⟨rfl, below_then HBa.out HBa.out.size (below_then HB.out HB.out.size hb4.out)⟩
end Go.Proofs.YtpdpgppaoipnlaaDoor

