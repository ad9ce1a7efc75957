/- What the claim uses of the text E2. -/
import Derived.Test.YtpdpgppaoipnlaaDoorUE1
import Derived.Test.YtpdpgppaoipnlaaDoorUK5
import Derived.Deep.RegionHeld3
set_option linter.unusedVariables false
set_option linter.unusedSimpArgs false
namespace Go.Proofs.YtpdpgppaoipnlaaDoor
open Go.RowKit Go.PlainAid
open Go.Proofs.YtpdpgppaoipnlaaDoorW.PrintWords hiding bt
open Go.Proofs.YtpdpgppaoipnlaaDoorW.PrintMore

theorem K_jz (n : Nat) (w : World) : (jd (n + 1)).K w jz (jcells jz none 0 none 0) := jd_mk n w jz (Nat.le_refl _) (C_nil _ _ _) (Nat.le_refl _) (C_nil _ _ _)
/-- What Get gives. -/
def GotV (n : Nat) (w : World) (o : Option JV) (e : Ending) (w' : World) : Prop :=
  ∃ A2 c2 A3 c3, e = .returned (.tuple #[.agg #[.int .i64 (o.getD jz).kind, .string (o.getD jz).text, .slice A2 (o.getD jz).list.length c2, .slice A3 (o.getD jz).mem.length c3], .bool o.isSome]) ∧ Hid ((jd n).K w' (o.getD jz) (jcells (o.getD jz) A2 c2 A3 c3)) ∧ Hid (Below w.heap.size w w')
theorem getD_mem {α : Type} (l : List α) (k : Nat) (d : α) (h : k < l.length) : l.getD k d ∈ l := by
  rw [List.getD_eq_getElem?_getD, List.getElem?_eq_getElem h]
  exact List.getElem_mem h
theorem getF_drop (n : ByteArray) (m : List (ByteArray × JV)) (k : Nat) (h : k < m.length) : getF n (m.drop k) = if (m.getD k (⟨#[]⟩, jz)).1 = n then some (m.getD k (⟨#[]⟩, jz)).2 else getF n (m.drop (k + 1)) := by
  rw [List.drop_eq_getElem_cons h, List.getD_eq_getElem?_getD, List.getElem?_eq_getElem h]
  rfl

theorem results_get (tmps : Array Value) (w : World) (n : Nat) (cs : Array Value) (H : Row 26 n cs w) (hs : cs.size = 4) (v : Value) (h2 : tmps.getD 4 undef = .pointer (some ⟨n, 0, none⟩)) (h3 : tmps.getD 5 undef = v) :
    (results Tryd.f40 tmps).run Tryd.prog w = .ok (.tuple #[.agg cs, v]) w := by
  subst h3
  exact results_ct rfl tmps w n 26 cs (0, 0) _ h2 H Tryd.underlying26 rfl (by rw [hs]; exact info_val)
set_option maxHeartbeats 4000000 in
set_option maxRecDepth 100000 in
theorem Get_any (n : Nat) (x : JV) (cs : List Value) (name : ByteArray) (w : World) (hk : (jd n).K w x cs) (h6 : x.kind ≠ 6 → x.mem = []) :
    Calls Tryd.prog 40 #[.agg cs.toArray, .string name] w (GotV n w (getF name x.mem)) := by
  obtain ⟨n, rfl⟩ := jd_cells hk
  obtain ⟨A2, c2, A3, c3, rfl, l2, g2, l3, g3⟩ := jd_open hk
  change Calls _ _ #[.agg #[.int .i64 x.kind, .string x.text, .slice A2 x.list.length c2, .slice A3 x.mem.length c3], _] _ _
  have HB0 : Hid (Below w.heap.size w ((w.alloc (.cells #[.int .i64 x.kind, .string x.text, .slice A2 x.list.length c2, .slice A3 x.mem.length c3] 26)).alloc (.cells (leafA 0 ⟨#[]⟩) 26))) := by show Below _ _ _; go_grown
  have HRx : Hid (Row 26 w.heap.size #[.int .i64 x.kind, .string x.text, .slice A2 x.list.length c2, .slice A3 x.mem.length c3] ((w.alloc (.cells #[.int .i64 x.kind, .string x.text, .slice A2 x.list.length c2, .slice A3 x.mem.length c3] 26)).alloc (.cells (leafA 0 ⟨#[]⟩) 26))) := (Row.new w _ _ rfl).old _
  have HRr : Hid (Row 26 (w.heap.size + 1) (leafA 0 ⟨#[]⟩) ((w.alloc (.cells #[.int .i64 x.kind, .string x.text, .slice A2 x.list.length c2, .slice A3 x.mem.length c3] 26)).alloc (.cells (leafA 0 ⟨#[]⟩) 26))) := Row.new _ _ _ (by simp)
  have G3 := Lib.hid g3
  have s3 : x.mem.length ≤ 9223372036854775807 := g3.2.1
  clear hk g2 g3 l2 l3
  by_cases hk6 : x.kind = 6
  · have e1 : (x.kind != 6) = false := by rw [bne_eq_false_iff_eq]; exact hk6
    have HX6 := Lib.hid hk6
    clear h6 hk6
    go_enter Tryd.func40, Tryd.ntmps40
    go_wp2_with fail
    change Code.wp _ _ _ _ ((w.alloc (.cells #[.int .i64 x.kind, .string x.text, .slice A2 x.list.length c2, .slice A3 x.mem.length c3] 26)).alloc (.cells (leafA 0 ⟨#[]⟩) 26))
    generalize (w.alloc (.cells #[.int .i64 x.kind, .string x.text, .slice A2 x.list.length c2, .slice A3 x.mem.length c3] 26)).alloc (.cells (leafA 0 ⟨#[]⟩) 26) = w0 at *
    have hr1 := HRr.out.lt
    go_loopg [15] x.mem.length (fun g v15 wi => ∃ k : Nat, v15 = .int .i64 k ∧ Hid (k + g = x.mem.length) ∧ Hid (getF name (x.mem.drop k) = getF name x.mem) ∧ Hid (Below w0.heap.size w0 wi))
    case atStart => exact ⟨0, rfl, by show _ = _; omega, rfl, Below.refl _ _⟩
    case round =>
      obtain ⟨k, rfl, HK, HD, HB⟩ := hrel
      by_cases hlt : k < x.mem.length
      · have hd := HD.out
        rw [getF_drop _ _ _ hlt] at hd
        obtain ⟨ad, X2, x2, X3, x3, rfl, hKa, qn, q0, q1, q2, q3⟩ := jm_at G3.out k hlt
        have HBi : Hid (Below w.heap.size w wr) := below_then HB0.out HB0.out.size HB.out
        replace qn := cell_under HBi.out qn
        replace q0 := cell_under HBi.out q0
        replace q1 := cell_under HBi.out q1
        replace q2 := cell_under HBi.out q2
        replace q3 := cell_under HBi.out q3
        have k0 : (0 : Int) ≤ (k : Int) := by omega
        have k1 : (k : Int) < (x.mem.length : Int) := by omega
        have k3 : decide (k < x.mem.length) = true := by simpa using hlt
        obtain ⟨g1, rfl⟩ : ∃ g1, gk = g1 + 1 := ⟨gk - 1, by have := HK.out; omega⟩
        have HKa := Lib.hid hKa
        clear hKa HD
        generalize x.mem.getD k (⟨#[]⟩, jz) = ea at *
        obtain ⟨nm, ya⟩ := ea
        dsimp only at qn q0 q1 q2 q3 HKa hd
        have HR3 := Lib.hid ((HRr.out.below HB.out).old (.cells #[.string nm, .int .i64 ya.kind, .string ya.text, .slice X2 ya.list.length x2, .slice X3 ya.mem.length x3] 50))
        have HBa : Hid (Below w0.heap.size w0 (wr.alloc (.cells #[.string nm, .int .i64 ya.kind, .string ya.text, .slice X2 ya.list.length x2, .slice X3 ya.mem.length x3] 50))) := HB.out.alloc HB.out.size _
        by_cases hn : nm = name
        · have e2 := tl_true hn
          have e3 : nm.toList = name.toList := by rw [hn]
          rw [if_pos hn] at hd
          have HF := Lib.hid hd.symm
          have HWB : Hid (Below w.heap.size w (wr.alloc (.cells #[.string nm, .int .i64 ya.kind, .string ya.text, .slice X2 ya.list.length x2, .slice X3 ya.mem.length x3] 50))) := below_then HB0.out HB0.out.size HBa.out
          clear hd hn
          go_wp2_with (first | ((with_reducible refine wpl_put_val (cs := ?_) HR3.out rfl ?hx ?hy ?hs ?hz ?_); (case hx => rfl); (case hy => rfl); (case hs => rfl); (case hz => (simp [Value.oneCell']; done)); intro w4 hr4 hw4; have HQ4 := Lib.hid hr4; have HB4 := Lib.hid (hw4.below HWB.out (by omega)); clear hr4 hw4))
          (try simp only [Exit.inBlock, Exit.then])
          rw [HF.out]
          refine bodyPost_ret (v := .tuple #[.agg #[.int .i64 ya.kind, .string ya.text, .slice X2 ya.list.length x2, .slice X3 ya.mem.length x3], .bool true]) (results_get _ _ _ _ HQ4.out rfl _ rfl rfl) rfl ?_
          exact ⟨X2, x2, X3, x3, rfl, jd_le (Nat.le_succ n) ((jd n).K_below HB4.out HKa.out), HB4⟩
        · have e2 := tl_false hn
          have e3 : ¬ nm.toList = name.toList := fun h => by have := tl_false hn; rw [h] at this; simp at this
          rw [if_neg hn] at hd
          have HD2 := Lib.hid hd
          clear hd hn
          go_wp2_with fail
          go_roundg g1
          case measure => omega
          case rel => exact ⟨k + 1, by go_num, by have := HK.out; show _ = _; omega, HD2, HBa⟩
      · obtain rfl : k = x.mem.length := by have := HK.out; omega
        have k3 : decide (x.mem.length < x.mem.length) = false := by simp
        have hd := HD.out
        rw [List.drop_length, getF] at hd
        have HF := Lib.hid hd.symm
        have HR3 := Lib.hid (HRr.out.below HB.out)
        have HWB : Hid (Below w.heap.size w wr) := below_then HB0.out HB0.out.size HB.out
        clear hd hlt HD HK
        go_wp2_with (first | ((with_reducible refine wpl_put_val (cs := ?_) HR3.out rfl ?hx ?hy ?hs ?hz ?_); (case hx => rfl); (case hy => rfl); (case hs => rfl); (case hz => (simp [Value.oneCell']; done)); intro w4 hr4 hw4; have HQ4 := Lib.hid hr4; have HB4 := Lib.hid (hw4.below HWB.out (by omega)); clear hr4 hw4))
        (try simp only [Exit.inBlock, Exit.then])
        rw [HF.out]
        refine bodyPost_ret (v := .tuple #[.agg #[.int .i64 0, .string ⟨#[]⟩, .slice none 0 0, .slice none 0 0], .bool false]) (results_get _ _ _ _ HQ4.out rfl _ rfl rfl) rfl ?_
        exact ⟨none, 0, none, 0, rfl, K_jz n _, HB4⟩
  · have e1 : (x.kind != 6) = true := by rw [bne_iff_ne]; exact hk6
    have HF : Hid (getF name x.mem = none) := by show _ = _; rw [h6 hk6]; rfl
    clear h6 hk6
    go_enter Tryd.func40, Tryd.ntmps40
    go_wp2_with (first | ((with_reducible refine wpl_put_val (cs := ?_) HRr.out rfl ?hx ?hy ?hs ?hz ?_); (case hx => rfl); (case hy => rfl); (case hs => rfl); (case hz => (simp [Value.oneCell']; done)); intro w4 hr4 hw4; have HQ4 := Lib.hid hr4; have HB4 := Lib.hid (hw4.below HB0.out (by omega)); clear hr4 hw4))
    (try simp only [Exit.inBlock, Exit.then])
    rw [HF.out]
    refine bodyPost_ret (v := .tuple #[.agg #[.int .i64 0, .string ⟨#[]⟩, .slice none 0 0, .slice none 0 0], .bool false]) (results_get _ _ _ _ HQ4.out rfl _ rfl rfl) rfl ?_
    exact ⟨none, 0, none, 0, rfl, K_jz n _, HB4⟩

def EqAll (n : Nat) : Prop := ∀ (m : Nat) (a b : JV) (cs ds : List Value) (la lb : Int) (w : World), (jd n).K w a cs → (jd m).K w b ds → okV a la = true → okV b lb = true →
  Calls Tryd.prog 41 #[.agg cs.toArray, .agg ds.toArray] w fun e w' => e = .returned (.bool (eqV a b)) ∧ Hid (Below w.heap.size w w')

set_option maxHeartbeats 8000000 in
set_option maxRecDepth 100000 in
theorem eq_step (n : Nat) (ih : EqAll n) : EqAll (n + 1) := by
  intro m a b cs ds la lb w ha hb hoa hob
  obtain ⟨m, rfl⟩ := jd_cells hb
  have HKb := Lib.hid hb
  obtain ⟨A2, c2, A3, c3, rfl, la2, ga2, la3, ga3⟩ := jd_open ha
  obtain ⟨B2, d2, B3, d3, rfl, lb2, gb2, lb3, gb3⟩ := jd_open hb
  change Calls _ _ #[.agg #[.int .i64 a.kind, .string a.text, .slice A2 a.list.length c2, .slice A3 a.mem.length c3], .agg #[.int .i64 b.kind, .string b.text, .slice B2 b.list.length d2, .slice B3 b.mem.length d3]] _ _
  have HIH := Lib.hid ih
  have HE := Lib.hid (eqV_eq a b)
  have HPa := Lib.hid (okV_parts hoa)
  have HPb := Lib.hid (okV_parts hob)
  have HB0 : Hid (Below w.heap.size w ((w.alloc (.cells #[.int .i64 a.kind, .string a.text, .slice A2 a.list.length c2, .slice A3 a.mem.length c3] 26)).alloc (.cells #[.int .i64 b.kind, .string b.text, .slice B2 b.list.length d2, .slice B3 b.mem.length d3] 26))) := by show Below _ _ _; go_grown
  have HR1 : Hid (Row 26 w.heap.size #[.int .i64 a.kind, .string a.text, .slice A2 a.list.length c2, .slice A3 a.mem.length c3] ((w.alloc (.cells #[.int .i64 a.kind, .string a.text, .slice A2 a.list.length c2, .slice A3 a.mem.length c3] 26)).alloc (.cells #[.int .i64 b.kind, .string b.text, .slice B2 b.list.length d2, .slice B3 b.mem.length d3] 26))) := (Row.new w _ _ rfl).old _
  have HR2 : Hid (Row 26 (w.heap.size + 1) #[.int .i64 b.kind, .string b.text, .slice B2 b.list.length d2, .slice B3 b.mem.length d3] ((w.alloc (.cells #[.int .i64 a.kind, .string a.text, .slice A2 a.list.length c2, .slice A3 a.mem.length c3] 26)).alloc (.cells #[.int .i64 b.kind, .string b.text, .slice B2 b.list.length d2, .slice B3 b.mem.length d3] 26))) := Row.new _ _ _ (by simp)
  have HKb0 := Lib.hid ((jd (m + 1)).K_below HB0.out HKb.out)
  have G2 := Lib.hid (Kd.C_below ga2 HB0.out)
  have G3 := Lib.hid (Kd.C_below ga3 HB0.out)
  have F2 := Lib.hid (Kd.C_below gb2 HB0.out)
  have s2 : a.list.length ≤ 9223372036854775807 := ga2.2.1
  have s3 : a.mem.length ≤ 9223372036854775807 := ga3.2.1
  have s4 : b.list.length ≤ 9223372036854775807 := gb2.2.1
  have s5 : b.mem.length ≤ 9223372036854775807 := gb3.2.1
  clear ha hb ga2 ga3 gb2 gb3 ih hoa hob
  by_cases hk : a.kind = b.kind
  · have e1 : (a.kind != b.kind) = false := by rw [bne_eq_false_iff_eq]; exact hk
    by_cases ht : a.text = b.text
    · have e2 := tn_false ht
      have e2' : a.text.toList = b.text.toList := by rw [ht]
      by_cases hl : a.list.length = b.list.length
      · have e3 : (a.list.length != b.list.length) = false := by rw [bne_eq_false_iff_eq]; exact hl
        have e3' : ((a.list.length : Int) != (b.list.length : Int)) = false := by rw [bne_eq_false_iff_eq]; omega
        by_cases hm : a.mem.length = b.mem.length
        · have e4 : (a.mem.length != b.mem.length) = false := by rw [bne_eq_false_iff_eq]; exact hm
          have e4' : ((a.mem.length : Int) != (b.mem.length : Int)) = false := by rw [bne_eq_false_iff_eq]; omega
          have HE2 : Hid (eqV a b = (eqL a.list b.list && eqM a.mem b.mem)) := by show _ = _; rw [HE.out]; simp [hk, ht, hl, hm]
          have HL := Lib.hid hl
          have HMl := Lib.hid hm
          have HG6 : Hid (b.kind ≠ 6 → b.mem = []) := HPb.out.2.1
          clear hk ht hl hm HE
          go_enter Tryd.func41, Tryd.ntmps41
          go_wp2_with fail
          clear e1 e2 e2' e3 e3' e4 e4'
          change Code.wp _ _ _ _ ((w.alloc (.cells #[.int .i64 a.kind, .string a.text, .slice A2 a.list.length c2, .slice A3 a.mem.length c3] 26)).alloc (.cells #[.int .i64 b.kind, .string b.text, .slice B2 b.list.length d2, .slice B3 b.mem.length d3] 26))
          generalize (w.alloc (.cells #[.int .i64 a.kind, .string a.text, .slice A2 a.list.length c2, .slice A3 a.mem.length c3] 26)).alloc (.cells #[.int .i64 b.kind, .string b.text, .slice B2 b.list.length d2, .slice B3 b.mem.length d3] 26) = w0 at *
          go_loopg [43] a.list.length (fun g v5 wi => ∃ k : Nat, v5 = .int .i64 k ∧ Hid (k + g = a.list.length) ∧ Hid (eqL (a.list.drop k) (b.list.drop k) = eqL a.list b.list) ∧ Hid (Below w0.heap.size w0 wi))
          case atStart => exact ⟨0, rfl, by show _ = _; omega, rfl, Below.refl _ _⟩
          case round =>
            obtain ⟨k, rfl, HK, HD, HB⟩ := hrel
            have ca := (HR1.out.below HB.out).cell 2 _ rfl
            have cb := (HR2.out.below HB.out).cell 2 _ rfl
            by_cases hlt : k < a.list.length
            · have hlt2 : k < b.list.length := by rw [← HL.out]; exact hlt
              have hd := HD.out
              rw [eqL_drop _ _ _ hlt hlt2] at hd
              obtain ⟨ad, X2, x2, X3, x3, hA, hKa, q0, q1, q2, q3⟩ := jv_at (Kd.C_below G2.out HB.out) k hlt
              obtain ⟨bd, Y2, y2, Y3, y3, hB, hKb, p0, p1, p2, p3⟩ := jv_at (Kd.C_below F2.out HB.out) k hlt2
              rw [hA] at ca
              rw [hB] at cb
              have k0 : (0 : Int) ≤ (k : Int) := by omega
              have k1 : (k : Int) < (a.list.length : Int) := by omega
              have k2 : (k : Int) < (b.list.length : Int) := by omega
              have k3 : decide (k < a.list.length) = true := by simpa using hlt
              obtain ⟨g1, rfl⟩ : ∃ g1, gk = g1 + 1 := ⟨gk - 1, by have := HK.out; omega⟩
              have HKa := Lib.hid hKa
              have HKb := Lib.hid hKb
              have HOa := Lib.hid (HPa.out.2.2.2.1 (a.list.getD k jz) (getD_mem _ _ _ hlt))
              have HOb := Lib.hid (HPb.out.2.2.2.1 (b.list.getD k jz) (getD_mem _ _ _ hlt2))
              clear hA hB hKa hKb HD
              generalize a.list.getD k jz = xa at *
              generalize b.list.getD k jz = xb at *
              obtain ⟨z, Hz⟩ : ∃ z, Hid (eqV xa xb = z) := ⟨_, rfl⟩
              rw [Hz.out] at hd
              replace HD := Lib.hid hd
              clear hd
              have HCC : Hid (∀ W, Below wr.heap.size wr W → Calls Tryd.prog 41 #[.agg #[.int .i64 xa.kind, .string xa.text, .slice X2 xa.list.length x2, .slice X3 xa.mem.length x3], .agg #[.int .i64 xb.kind, .string xb.text, .slice Y2 xb.list.length y2, .slice Y3 xb.mem.length y3]] W fun e w' => e = .returned (.bool z) ∧ Hid (Below W.heap.size W w')) := fun W hW => by
                rw [← Hz.out]
                exact HIH.out m xa xb _ _ _ _ W ((jd n).K_below hW HKa.out) ((jd m).K_below hW HKb.out) HOa.out HOb.out
              have HBd : Hid (Below wr.heap.size wr wr.drew) := below_drew (Below.refl _ _)
              go_wp2_with fail
              go_still_tail 10, (by kernel_rfl)
              change wpList _ _ _ _ _ wr.drew
              generalize wr.drew = w2 at *
              cases z with
              | true =>
                go_wp2_with (go_at_call 41; refine (HCC.out _ HBd.out).mono ?_; rintro e w4 ⟨rfl, hb4⟩)
                go_roundg g1
                case measure => omega
                case rel => exact ⟨k + 1, by go_num, by have := HK.out; show _ = _; omega, by show _ = _; rw [← HD.out]; simp, below_then HB.out HB.out.size (below_then HBd.out HBd.out.size hb4.out)⟩
              | false =>
                have HE3 : Hid (eqV a b = false) := by show _ = _; rw [HE2.out, ← HD.out]; simp
                clear HD HE2
                go_wp2_with (go_at_call 41; refine (HCC.out _ HBd.out).mono ?_; rintro e w4 ⟨rfl, hb4⟩)
                go_ret
                exact ⟨by rw [HE3.out]; rfl, below_then HB0.out HB0.out.size (below_then HB.out HB.out.size (below_then HBd.out HBd.out.size hb4.out))⟩
            · obtain rfl : k = a.list.length := by have := HK.out; omega
              have HE3 : Hid (eqV a b = eqM a.mem b.mem) := by
                show _ = _
                rw [HE2.out, ← HD.out, List.drop_length]
                simp [eqL]
              have k3 : decide (a.list.length < a.list.length) = false := by simp
              have c33 := (HR1.out.below HB.out).cell 3 _ rfl
              clear HD HK HE2 hlt
              go_wp2_with fail
              obtain ⟨wm, hwm⟩ : ∃ wm : World, wm = wr := ⟨_, rfl⟩
              rw [← hwm] at HB ⊢
              clear hwm ca cb c33 wr
              go_loopg [62] a.mem.length (fun g v6 wi => ∃ k : Nat, v6 = .int .i64 k ∧ Hid (k + g = a.mem.length) ∧ Hid (eqM (a.mem.drop k) b.mem = eqM a.mem b.mem) ∧ Hid (Below w0.heap.size w0 wi))
              case atStart => exact ⟨0, rfl, by show _ = _; omega, rfl, HB.out⟩
              case round =>
                obtain ⟨k, rfl, HK, HD, HB⟩ := hrel
                by_cases hlt : k < a.mem.length
                · have hd := HD.out
                  rw [eqM_drop _ _ _ hlt] at hd
                  obtain ⟨ad, X2, x2, X3, x3, rfl, hKa, qn, q0, q1, q2, q3⟩ := jm_at (Kd.C_below G3.out HB.out) k hlt
                  have k0 : (0 : Int) ≤ (k : Int) := by omega
                  have k1 : (k : Int) < (a.mem.length : Int) := by omega
                  have k3 : decide (k < a.mem.length) = true := by simpa using hlt
                  obtain ⟨g1, rfl⟩ : ∃ g1, gk = g1 + 1 := ⟨gk - 1, by have := HK.out; omega⟩
                  have HKa := Lib.hid hKa
                  have HOa := Lib.hid (HPa.out.2.2.2.2 (a.mem.getD k (⟨#[]⟩, jz)) (getD_mem _ _ _ hlt))
                  clear hKa HD
                  generalize a.mem.getD k (⟨#[]⟩, jz) = ea at *
                  obtain ⟨na, xa⟩ := ea
                  dsimp only at qn q0 q1 q2 q3 HKa hd HOa
                  replace HD := Lib.hid hd
                  clear hd
                  have HRm := Lib.hid (Row.new wr 50 #[.string na, .int .i64 xa.kind, .string xa.text, .slice X2 xa.list.length x2, .slice X3 xa.mem.length x3] rfl)
                  have HBm : Hid (Below w0.heap.size w0 (wr.alloc (.cells #[.string na, .int .i64 xa.kind, .string xa.text, .slice X2 xa.list.length x2, .slice X3 xa.mem.length x3] 50))) := HB.out.alloc HB.out.size _
                  have HKm : Hid ((jd n).K (wr.alloc (.cells #[.string na, .int .i64 xa.kind, .string xa.text, .slice X2 xa.list.length x2, .slice X3 xa.mem.length x3] 50)) xa _) := (jd n).K_below ((Below.refl wr.heap.size wr).alloc (Nat.le_refl _) _) HKa.out
                  have HGc := Lib.hid (Get_any (m + 1) b _ na _ ((jd (m + 1)).K_below HBm.out HKb0.out) HG6.out)
                  have b0 := (HR2.out.below HBm.out).cell 0 _ rfl
                  have b1 := (HR2.out.below HBm.out).cell 1 _ rfl
                  have b2 := (HR2.out.below HBm.out).cell 2 _ rfl
                  have b3 := (HR2.out.below HBm.out).cell 3 _ rfl
                  go_wp2_with fail
                  refine HGc.out.mono ?_
                  rintro e w5 ⟨Y2, y2, Y3, y3, rfl, HKy, h5⟩
                  have HB5 := Lib.hid (below_then HBm.out HBm.out.size h5.out)
                  have HRm5 := Lib.hid (HRm.out.below h5.out)
                  have HKm5 := Lib.hid ((jd n).K_below h5.out HKm.out)
                  have HV : Hid (Row 26 w5.heap.size (leafA 0 ⟨#[]⟩) (w5.alloc (.cells (leafA 0 ⟨#[]⟩) 26))) := Row.new w5 _ _ rfl
                  have HRm6 := Lib.hid (HRm5.out.old (.cells (leafA 0 ⟨#[]⟩) 26))
                  have HVB := Lib.hid ((Below.refl w5.heap.size w5).alloc (Nat.le_refl _) (.cells (leafA 0 ⟨#[]⟩) 26))
                  have hlt5 := HRm5.out.lt
                  have HU := HPb.out.2.2.1
                  have HOb : Hid (∀ y, getF na b.mem = some y → okV y (lb + 1) = true) := fun y hy => HPb.out.2.2.2.2 (na, y) (getF_some hy)
                  clear h5 HGc b0 b1 b2 b3 HRm HKm HRm5 HU q0 q1 q2 q3 qn
                  obtain ⟨o, Ho⟩ : ∃ o, Hid (getF na b.mem = o) := ⟨_, rfl⟩
                  rw [Ho.out] at HD HKy HOb ⊢
                  cases o with
                  | none =>
                    have HE4 : Hid (eqV a b = false) := by show _ = _; rw [HE3.out, ← HD.out]; simp [eqO]
                    clear HD HE3 HOb Ho
                    dsimp only [Option.getD, Option.isSome] at HKy ⊢
                    go_wp2_with (first | ((with_reducible refine wpl_put_val (cs := ?_) HV.out rfl ?hx ?hy ?hs ?hz ?_); (case hx => rfl); (case hy => rfl); (case hs => rfl); (case hz => (simp [Value.oneCell']; done)); intro w7 hr7 hw7; have hb7 := hw7.below HVB.out (Nat.le_refl _); have HB7 := Lib.hid (below_then HB5.out HB5.out.size hb7); clear hr7 hw7 hb7))
                    go_ret
                    exact ⟨by rw [HE4.out]; rfl, below_then HB0.out HB0.out.size HB7.out⟩
                  | some yb =>
                    dsimp only [Option.getD, Option.isSome] at HKy ⊢
                    obtain ⟨z, Hz⟩ : ∃ z, Hid (eqV xa yb = z) := ⟨_, rfl⟩
                    have HD2 : Hid ((z && eqM (a.mem.drop (k + 1)) b.mem) = eqM a.mem b.mem) := by show _ = _; rw [← Hz.out]; exact HD.out
                    have HO := Lib.hid (HOb.out yb rfl)
                    clear HD HOb Ho
                    go_wp2_with (first | ((with_reducible refine wpl_put_val (cs := ?_) HV.out rfl ?hx ?hy ?hs ?hz ?_); (case hx => rfl); (case hy => rfl); (case hs => rfl); (case hz => (simp [Value.oneCell']; done)); intro w7 hr7 hw7; have hb7 := hw7.below HVB.out (Nat.le_refl _); have hm7 := hw7.row HRm6.out (by omega); have HB7 := Lib.hid (below_then HB5.out HB5.out.size hb7); have d0 := hr7.cell 0 _ rfl; have d1 := hr7.cell 1 _ rfl; have d2 := hr7.cell 2 _ rfl; have d3 := hr7.cell 3 _ rfl; have f0 := hm7.cell 1 _ rfl; have f1 := hm7.cell 2 _ rfl; have f2 := hm7.cell 3 _ rfl; have f3 := hm7.cell 4 _ rfl; have HK7 := Lib.hid ((jd n).K_below hb7 HKm5.out); have HY7 := Lib.hid ((jd (m + 1)).K_below hb7 HKy.out); clear hr7 hw7 hb7 hm7))
                    refine (HIH.out (m + 1) xa yb _ _ _ _ _ HK7.out HY7.out HOa.out HO.out).mono ?_
                    rintro e w8 ⟨rfl, h8⟩
                    rw [Hz.out]
                    have HB8 := Lib.hid (below_then HB7.out HB7.out.size h8.out)
                    clear h8 d0 d1 d2 d3 f0 f1 f2 f3
                    cases z with
                    | true =>
                      go_wp2_with fail
                      go_roundg g1
                      case measure => omega
                      case rel => exact ⟨k + 1, by go_num, by have := HK.out; show _ = _; omega, by show _ = _; rw [← HD2.out]; simp, HB8⟩
                    | false =>
                      have HE4 : Hid (eqV a b = false) := by show _ = _; rw [HE3.out, ← HD2.out]; simp
                      go_wp2_with fail
                      go_ret
                      exact ⟨by rw [HE4.out]; rfl, below_then HB0.out HB0.out.size HB8.out⟩
                · obtain rfl : k = a.mem.length := by have := HK.out; omega
                  have HE4 : Hid (eqV a b = true) := by
                    show _ = _
                    rw [HE3.out, ← HD.out, List.drop_length]
                    simp [eqM]
                  have k3 : decide (a.mem.length < a.mem.length) = false := by simp
                  clear HD HK HE3 hlt
                  go_wp2_with fail
                  go_ret
                  exact ⟨by rw [HE4.out]; rfl, below_then HB0.out HB0.out.size HB.out⟩
        · have e4 : (a.mem.length != b.mem.length) = true := by rw [bne_iff_ne]; exact hm
          have e4' : ((a.mem.length : Int) != (b.mem.length : Int)) = true := by rw [bne_iff_ne]; omega
          have HE2 : Hid (eqV a b = false) := by show _ = _; rw [HE.out]; simp [hm]
          clear hk ht hl hm HE
          go_enter Tryd.func41, Tryd.ntmps41
          go_wp2
          all_goals (go_ret; exact ⟨by rw [HE2.out]; rfl, HB0.out⟩)
      · have e3 : (a.list.length != b.list.length) = true := by rw [bne_iff_ne]; exact hl
        have e3' : ((a.list.length : Int) != (b.list.length : Int)) = true := by rw [bne_iff_ne]; omega
        have HE2 : Hid (eqV a b = false) := by show _ = _; rw [HE.out]; simp [hl]
        clear hk ht hl HE
        go_enter Tryd.func41, Tryd.ntmps41
        go_wp2
        all_goals (go_ret; exact ⟨by rw [HE2.out]; rfl, HB0.out⟩)
    · have e2 := tn_true ht
      have e2' : ¬ a.text.toList = b.text.toList := fun h => by have := tl_false ht; rw [h] at this; simp at this
      have HE2 : Hid (eqV a b = false) := by show _ = _; rw [HE.out]; simp [ht]
      clear hk ht HE
      go_enter Tryd.func41, Tryd.ntmps41
      go_wp2
      all_goals (go_ret; exact ⟨by rw [HE2.out]; rfl, HB0.out⟩)
  · have e1 : (a.kind != b.kind) = true := by rw [bne_iff_ne]; exact hk
    have HE2 : Hid (eqV a b = false) := by show _ = _; rw [HE.out]; simp [hk]
    clear hk HE
    go_enter Tryd.func41, Tryd.ntmps41
    go_wp2
    all_goals (go_ret; exact ⟨by rw [HE2.out]; rfl, HB0.out⟩)
theorem eq_all : ∀ n, EqAll n
  | 0 => fun _ _ _ _ _ _ _ _ ha _ _ _ => (jd_zero ha).elim
  | n + 1 => eq_step n (eq_all n)
end Go.Proofs.YtpdpgppaoipnlaaDoor

