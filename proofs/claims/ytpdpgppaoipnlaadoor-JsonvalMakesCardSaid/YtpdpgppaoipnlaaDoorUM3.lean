/- What the claim uses of the text M3. -/
import Derived.Test.YtpdpgppaoipnlaaDoorUM2
import Derived.Test.YtpdpgppaoipnlaaDoorUQ2
import Derived.Deep.RegionHeld3
import Derived.Lib.ItoaLen
set_option linter.unusedVariables false
set_option linter.unusedSimpArgs false
namespace Go.Proofs.YtpdpgppaoipnlaaDoor
open Go.RowKit Go.PlainAid
open Go.Proofs.YtpdpgppaoipnlaaDoorW.PrintWords hiding bt
open Go.Proofs.YtpdpgppaoipnlaaDoorW.PrintMore

theorem dgt_size (u : Nat) (h : u ≤ 9223372036854775807) : (dgt u).size ≤ 21 := by
  have h1 := Lib.itoa_length_le (u : Int) (by omega) (by omega)
  rw [Lib.itoa_nonneg] at h1
  simpa [dgt, ByteArray.size] using h1
theorem K_list {n : Nat} {w : World} {k : Int} {t : ByteArray} {xs : List JV} {ms : List (ByteArray × JV)} {A2 A3 : Option Addr} {c2 c3 : Nat} (h : (jd (n + 1)).K w ⟨k, t, xs, ms⟩ (jcells ⟨k, t, xs, ms⟩ A2 c2 A3 c3)) : (jd n).C w A2 xs.length xs ∧ (jm n).C w A3 ms.length ms := by
  obtain ⟨A2', c2', A3', c3', he, _, g2, _, g3⟩ := jd_open h
  simp only [jcells, List.cons.injEq, Value.slice.injEq, and_true, true_and] at he
  obtain ⟨⟨rfl, rfl⟩, rfl, rfl⟩ := he
  exact ⟨g2, g3⟩
theorem own_reads0 {α : Type} {R : α → List Value → Prop} {e : TypeId} {size : Nat} {w : World} {base : Nat} {v : Value} {ps : List α} (h : OwnRow R e size w base v ps) : ∃ A c, v = .slice A ps.length c ∧ ps.length ≤ c ∧ (A = none → c = 0) ∧ ReadsRow R size w A ps.length ps := by
  obtain ⟨A, c, rfl, h1, h2⟩ := OwnRow.reads h
  refine ⟨A, c, rfl, h1, ?_, h2⟩
  rintro rfl
  obtain ⟨inner, ho, _⟩ := h
  rcases ho.2 with ⟨e1, _⟩ | ⟨g, cap, cur, e1, _⟩
  · injection e1
  · injection e1 with e1
    cases e1
theorem mk_take (s : ByteArray) (xs : List JV) (k : Nat) (h : k < xs.length) : ((xs.take (k + 1)).map fun x => (s, x)) = ((xs.take k).map fun x => (s, x)) ++ [(s, xs.getD k jz)] := by
  rw [List.take_succ_eq_append_getElem h, List.map_append, List.getD_eq_getElem?_getD, List.getElem?_eq_getElem h]
  rfl
theorem mk_at (s : ByteArray) (xs : List JV) (k : Nat) (h : k < xs.length) : (xs.map fun x => (s, x)).getD k (⟨#[]⟩, jz) = (s, xs.getD k jz) := by
  rw [List.getD_eq_getElem?_getD, List.getD_eq_getElem?_getD, List.getElem?_map, List.getElem?_eq_getElem h]
  rfl

set_option maxHeartbeats 8000000 in
set_option maxRecDepth 100000 in
theorem jsonvalMakes_walk {E : Nat → Addr} (s : ByteArray) (n : Int) (N : Nat) (A : Option Addr) (c : Nat) (xs : List JV) (w : World) (hs : Sents E w) (ht : Tab w) (hn0 : -9223372036854775808 ≤ n) (hn1 : n ≤ 9223372036854775807) (hC : (jd N).C w A xs.length xs) (hc : xs.length ≤ c) (ha : A = none → c = 0) (hz : szL reachBytes xs) :
    Calls Tryd.prog 6 #[.string s, .int .i64 n, .slice A xs.length c] w fun e w' => e = .returned (.bool true) ∧ Below w.heap.size w w' := by
  have HS := Lib.hid hs
  have HT := Lib.hid ht
  have HC := Lib.hid hC
  have HZ := Lib.hid hz
  have HA := Lib.hid ha
  have HN := Lib.hid (And.intro hn0 hn1)
  have s1 : xs.length ≤ 9223372036854775807 := hC.2.1
  clear hs ht hC hz ha hn0 hn1
  go_enter Tryd.func6, Tryd.ntmps6
  go_wp2_with fail
  refine (awake12 (E := E) _ HS.out).mono ?_
  rintro e w1 ⟨rfl, H1⟩
  by_cases hs1 : 2000 < s.size
  · have d1 : decide ((2000 : Int) < (s.size : Int)) = true := decide_eq_true (by omega)
    have d2 : decide (2000 < s.size) = true := decide_eq_true hs1
    go_wp2_with fail
    go_ret
    exact ⟨rfl, H1.out⟩
  have d1 : decide ((2000 : Int) < (s.size : Int)) = false := decide_eq_false (by omega)
  have d2 : decide (2000 < s.size) = false := decide_eq_false hs1
  by_cases hl1 : 100 < xs.length
  · have d3 : decide ((100 : Int) < (xs.length : Int)) = true := decide_eq_true (by omega)
    have d4 : decide (100 < xs.length) = true := decide_eq_true hl1
    go_wp2_with fail
    go_ret
    exact ⟨rfl, H1.out⟩
  have d3 : decide ((100 : Int) < (xs.length : Int)) = false := decide_eq_false (by omega)
  have d4 : decide (100 < xs.length) = false := decide_eq_false hl1
  have HX : Hid (xs.length ≤ 100) := by show _ ≤ _; omega
  go_wp2_with fail
  clear d1 d2 d3 d4 hs1 hl1
  go_loopg [7, 8] xs.length (fun g v7 v8 wi => ∃ (k : Nat) (lv : Value), lv = v7 ∧ v8 = .int .i64 k ∧ Hid (k + g = xs.length) ∧ Hid (OwnRow ((jm N).K w) 50 5 wi w.heap.size lv ((xs.take k).map fun x => (s, x))) ∧ Hid (Below w.heap.size w wi))
  case atStart => exact ⟨0, _, rfl, rfl, by show _ = _; omega, OwnRow.none_ _ _ _ _ _, H1⟩
  case round =>
    obtain ⟨k, lv, rfl, rfl, HK, HO, HB⟩ := hrel
    by_cases hlt : k < xs.length
    · obtain ⟨ad, X2, x2, X3, x3, rfl, hKa, q0, q1, q2, q3⟩ := jv_at HC.out k hlt
      replace q0 := cell_under HB.out q0
      replace q1 := cell_under HB.out q1
      replace q2 := cell_under HB.out q2
      replace q3 := cell_under HB.out q3
      have k0 : (0 : Int) ≤ (k : Int) := by omega
      have k1 : (k : Int) < (xs.length : Int) := by omega
      have k3 : decide (k < xs.length) = true := by simpa using hlt
      obtain ⟨g1, rfl⟩ : ∃ g1, gk = g1 + 1 := ⟨gk - 1, by have := HK.out; omega⟩
      have HKa := Lib.hid hKa
      have HSz := Lib.hid (szL_at HZ.out _ (getD_mem' xs k jz hlt))
      have HTk := Lib.hid (mk_take s xs k hlt)
      have HLn : Hid ((((xs.take k).map fun x => (s, x)).length + 1) * 88 ≤ 140737488355328) := by show _ ≤ _; rw [List.length_map, List.length_take]; have := HX.out; omega
      clear hKa
      generalize xs.getD k jz = xa at *
      have HCt := Lib.hid (count_all N xa _ 20 wr ((jd N).K_below HB.out HKa.out) HSz.out (by omega))
      go_wp2_with fail
      refine HCt.out.mono ?_
      rintro e w5 ⟨r, rfl, _, h5⟩
      have HB5 := Lib.hid (below_then HB.out HB.out.size h5.out)
      have HO5 := Lib.hid (HO.out.below h5.out)
      replace q0 := cell_under h5.out q0
      replace q1 := cell_under h5.out q1
      replace q2 := cell_under h5.out q2
      replace q3 := cell_under h5.out q3
      clear HCt
      by_cases hr : 20 < r
      · have r1 : decide ((20 : Int) < (r : Int)) = true := decide_eq_true (by omega)
        have r2 : decide (20 < r) = true := decide_eq_true hr
        go_wp2_with fail
        go_ret
        exact ⟨rfl, HB5.out⟩
      · have r1 : decide ((20 : Int) < (r : Int)) = false := decide_eq_false (by omega)
        have r2 : decide (20 < r) = false := decide_eq_false hr
        have HP : Hid ((jm N).K w (s, xa) (.string s :: jcells xa X2 x2 X3 x3)) := ⟨[.string s], _, rfl, rfl, HKa.out⟩
        have H1c : Hid (∀ u ∈ (.string s :: jcells xa X2 x2 X3 x3), Value.oneCell' u = true) := (jm N).K_one HP.out
        clear hr
        go_wp2_with (at_builtin; go_must (refine OwnRow.append (w0 := w) (W := w5) w.heap.size rfl _ _ 24 50 _ 5 88 rfl Tryd.underlying24 info_m5 rfl (by omega) (by omega) lv _ (s, xa) (.string s :: jcells xa X2 x2 X3 x3) rfl rfl HP.out rfl H1c.out HO5.out HB5.out HB5.out.size HLn.out ?_); intro v1 w6 ho hb hg hat; have HO6 := Lib.hid ho; have HB6 := Lib.hid hb; clear ho hb hg hat)
        go_roundg g1
        case measure => omega
        case rel => exact ⟨k + 1, v1, rfl, by go_num, by have := HK.out; show _ = _; omega, by show OwnRow _ _ _ _ _ _ _; rw [HTk.out]; exact HO6.out, HB6⟩
    · obtain rfl : k = xs.length := by have := HK.out; omega
      have k3 : decide (xs.length < xs.length) = false := by simp
      obtain ⟨M3, m3, hlv, _, hm0, hrow⟩ := own_reads0 HO.out
      rw [List.take_length] at hlv hrow
      have hml : (xs.map fun x => (s, x)).length = xs.length := List.length_map _
      rw [hml] at hlv
      subst hlv
      have HM : Hid ((jm N).C wr M3 (xs.map fun x => (s, x)).length (xs.map fun x => (s, x))) := by
        obtain ⟨a1, a2, a3⟩ := hrow
        refine ⟨a1, a2, fun hn => ?_⟩
        obtain ⟨ad, e1, e2⟩ := a3 hn
        refine ⟨ad, e1, fun j p hj => ?_⟩
        obtain ⟨cc, b1, b2, b3⟩ := e2 j p hj
        exact ⟨cc, by rw [jm_sz']; exact b1, (jm N).K_below HB.out b2, by rw [jm_sz']; exact b3⟩
      have HM0 := Lib.hid hm0
      have HML := Lib.hid hml
      clear hm0 hrow hml HO hlt HK
      obtain ⟨tn, Htn⟩ : ∃ t, Hid (numT n = t) := ⟨_, rfl⟩
      go_upto_if 45 with (fail)
      go_cut [9] (fun v wc => v = .string tn ∧ Hid (Below wr.heap.size wr wc))
      case first =>
        clear k3
        have hn := HN.out
        by_cases h0 : 0 ≤ n
        · obtain ⟨u, rfl⟩ : ∃ u : Nat, n = u := ⟨n.toNat, by omega⟩
          have d0 : decide ((0 : Int) ≤ (u : Int)) = true := decide_eq_true (by omega)
          have HD := Lib.hid (Digits_any u wr (by omega))
          have HE : Hid (dgt u = tn) := by show _ = _; rw [← Htn.out, numT_pos _ (by omega), Int.toNat_natCast]
          rw [HE.out] at HD
          clear hn
          go_wp2_with (go_at_call 28; refine HD.out.mono ?_; rintro e w2 ⟨rfl, h2⟩)
          go_meet
          case rel => exact ⟨rfl, h2⟩
        · obtain ⟨u, hu⟩ : ∃ u : Nat, n = -(u : Int) := ⟨n.natAbs, by omega⟩
          have d0 : decide (0 ≤ n) = false := decide_eq_false h0
          have t1 : n.tdiv 10 = -((u / 10 : Nat) : Int) := by rw [hu, Int.neg_tdiv, Int.tdiv_eq_ediv_of_nonneg (by omega)]; omega
          have t2 : n.tmod 10 = -((u % 10 : Nat) : Int) := by rw [hu, Int.neg_tmod, Int.tmod_eq_emod_of_nonneg (by omega)]; omega
          have HDq : Hid (∀ W, Calls Tryd.prog 28 #[.int .i64 ((u / 10 : Nat) : Int), .int .i64 10] W fun e w' => e = .returned (.string (dgt (u / 10))) ∧ Hid (Below W.heap.size W w')) := fun W => Digits_any (u / 10) W (by omega)
          have HDr : Hid (∀ W, Calls Tryd.prog 28 #[.int .i64 ((u % 10 : Nat) : Int), .int .i64 10] W fun e w' => e = .returned (.string (dgt (u % 10))) ∧ Hid (Below W.heap.size W w')) := fun W => Digits_any (u % 10) W (by omega)
          have z1 := dgt_size (u / 10) (by omega)
          have z2 := dgt_size (u % 10) (by omega)
          have HES : Hid (u < 10 → (⟨#[45]⟩ : ByteArray) ++ dgt (u % 10) = tn) := fun h => by rw [← Htn.out, hu, numT_small u (by omega) h]
          have HEG : Hid (10 ≤ u → (⟨#[45]⟩ : ByteArray) ++ dgt (u / 10) ++ dgt (u % 10) = tn) := fun h => by rw [← Htn.out, hu, numT_great u h]
          have hq : u / 10 ≤ 1000000000000000000 := by omega
          have hr : u % 10 ≤ 9 := by omega
          have hu10 : u < 10 ↔ -10 < n := by omega
          have HU := Lib.hid hu10
          clear hn hu10 hu
          generalize u / 10 = q at *
          generalize u % 10 = r at *
          generalize dgt q = tq at *
          generalize dgt r = tr at *
          by_cases h10 : u < 10
          · have d3 : decide (-10 < n) = true := decide_eq_true (HU.out.1 h10)
            have HE := Lib.hid (HES.out h10)
            clear HES HEG
            go_wp2_with fail
            refine (HDq.out _).mono ?_
            rintro e w2 ⟨rfl, h2⟩
            go_wp2_with fail
            refine (HDr.out _).mono ?_
            rintro e w3 ⟨rfl, h3⟩
            go_wp2_with fail
            go_meet
            case rel => exact ⟨by rw [← HE.out], below_then h2.out h2.out.size h3.out⟩
          · have d3 : decide (-10 < n) = false := decide_eq_false (fun h => h10 (HU.out.2 h))
            have HE := Lib.hid (HEG.out (by omega))
            clear HES HEG
            go_wp2_with fail
            refine (HDq.out _).mono ?_
            rintro e w2 ⟨rfl, h2⟩
            go_wp2_with fail
            refine (HDr.out _).mono ?_
            rintro e w3 ⟨rfl, h3⟩
            go_wp2_with fail
            go_meet
            case rel => exact ⟨by rw [← HE.out], below_then h2.out h2.out.size h3.out⟩
      case rest =>
        obtain ⟨rfl, HBc⟩ := hcut
        have HBw := Lib.hid (below_then HB.out HB.out.size HBc.out)
        have HLi := Lib.hid (List_any N A c xs wc (Kd.C_below HC.out HBw.out) HA.out (by have := HX.out; omega))
        clear k3
        go_wp2_with fail
        refine HLi.out.mono ?_
        rintro e w2 ⟨L2, l2, rfl, HKl, h2⟩
        have HB2 := Lib.hid (below_then HBw.out HBw.out.size h2.out)
        have hob := Obj_any N M3 m3 (xs.map fun x => (s, x)) w2 (Kd.C_below (Kd.C_below HM.out HBc.out) h2.out) HM0.out (by rw [HML.out]; have := HX.out; omega)
        rw [HML.out] at hob
        have HOb := Lib.hid hob
        clear hob HLi h2
        go_wp2_with fail
        refine HOb.out.mono ?_
        rintro e w3 ⟨O2, o2, rfl, HKo, h3⟩
        have HB3 := Lib.hid (below_then HB2.out HB2.out.size h3.out)
        have HKl3 := Lib.hid ((jd (N + 1)).K_below h3.out HKl.out)
        have R1 : Hid (Row 26 w3.heap.size (leafA 0 ⟨#[]⟩) ((w3.alloc (.cells (leafA 0 ⟨#[]⟩) 26)).alloc (.cells (leafA 0 ⟨#[]⟩) 26))) := (Row.new w3 _ _ rfl).old _
        have R2 : Hid (Row 26 (w3.heap.size + 1) (leafA 0 ⟨#[]⟩) ((w3.alloc (.cells (leafA 0 ⟨#[]⟩) 26)).alloc (.cells (leafA 0 ⟨#[]⟩) 26))) := Row.new _ _ _ (by simp)
        have RB : Hid (Below w3.heap.size w3 ((w3.alloc (.cells (leafA 0 ⟨#[]⟩) 26)).alloc (.cells (leafA 0 ⟨#[]⟩) 26))) := by show Below _ _ _; go_grown
        clear HOb h3 HKl
        go_wp2_with (first
          | ((with_reducible refine wpl_put_val (cs := ?_) R1.out rfl ?hx ?hy ?hs ?hz ?_); (case hx => rfl); (case hy => rfl); (case hs => rfl); (case hz => (simp [Value.oneCell']; done)); intro w4 hr4 hw4; have P1 := Lib.hid hr4; have P2 := Lib.hid (hw4.row R2.out (by omega)); have PB := Lib.hid (hw4.below RB.out (Nat.le_refl _)); clear hr4 hw4)
          | ((with_reducible refine wpl_put_val (cs := ?_) P2.out rfl ?hx ?hy ?hs ?hz ?_); (case hx => rfl); (case hy => rfl); (case hs => rfl); (case hz => (simp [Value.oneCell']; done)); intro w5 hr5 hw5; have T1 := Lib.hid (hw5.row P1.out (by omega)); have T2 := Lib.hid hr5; have TB := Lib.hid (hw5.below PB.out (by omega)); have d0 := T1.out.cell 0 _ rfl; have d2 := T1.out.cell 2 _ rfl; have f0 := T2.out.cell 0 _ rfl; have f3 := T2.out.cell 3 _ rfl; clear hr5 hw5))
        obtain ⟨gl, _⟩ := K_list ((jd (N + 1)).K_below TB.out HKl3.out)
        obtain ⟨_, go⟩ := K_list ((jd (N + 1)).K_below TB.out HKo.out)
        have GL := Lib.hid gl
        have GO := Lib.hid go
        have HBz := Lib.hid (below_then HB3.out HB3.out.size TB.out)
        clear d0 d2 f0 f3 gl go R1 R2 RB P1 P2 PB HKl3 HKo HB3 TB HB2 HM HM0
        go_loopg [12] xs.length (fun g v12 wi => ∃ k : Nat, v12 = .int .i64 k ∧ Hid (k + g = xs.length) ∧ Hid (Below w5.heap.size w5 wi))
        case atStart => exact ⟨0, rfl, by show _ = _; omega, Below.refl _ _⟩
        case round =>
          obtain ⟨k, rfl, HK, HBi⟩ := hrel
          by_cases hlt : k < xs.length
          · have ca := (T1.out.below HBi.out).cell 2 _ rfl
            have cb := (T2.out.below HBi.out).cell 3 _ rfl
            have HBn := Lib.hid (below_then HBz.out HBz.out.size HBi.out)
            obtain ⟨ad, X2, x2, X3, x3, rfl, hKx, q0, q1, q2, q3⟩ := jv_at HC.out k hlt
            replace q0 := cell_under HBn.out q0
            replace q1 := cell_under HBn.out q1
            replace q2 := cell_under HBn.out q2
            replace q3 := cell_under HBn.out q3
            obtain ⟨bd, Y2, y2, Y3, y3, hA, hKy, p0, p1, p2, p3⟩ := jv_at (Kd.C_below GL.out HBi.out) k hlt
            obtain ⟨cd, Z2, z2, Z3, z3, hB, hKz, rn, r0, r1, r2, r3⟩ := jm_at (Kd.C_below GO.out HBi.out) k (by rw [HML.out]; exact hlt)
            rw [hA] at ca
            rw [hB] at cb
            rw [mk_at s xs k hlt] at hKz rn r0 r1 r2 r3
            dsimp only at hKz rn r0 r1 r2 r3
            have k0 : (0 : Int) ≤ (k : Int) := by omega
            have k1 : (k : Int) < (xs.length : Int) := by omega
            have k3 : decide (k < xs.length) = true := by simpa using hlt
            obtain ⟨g1, rfl⟩ : ∃ g1, gk = g1 + 1 := ⟨gk - 1, by have := HK.out; omega⟩
            have HKx := Lib.hid hKx
            have HKy := Lib.hid hKy
            have HKz := Lib.hid hKz
            clear hKx hKy hKz hA hB
            generalize xs.getD k jz = xa at *
            have HX1 : Hid (∀ W, Below wr.heap.size wr W → Calls Tryd.prog 16 #[.agg #[.int .i64 xa.kind, .string xa.text, .slice Y2 xa.list.length y2, .slice Y3 xa.mem.length y3], .agg #[.int .i64 xa.kind, .string xa.text, .slice X2 xa.list.length x2, .slice X3 xa.mem.length x3]] W fun e w' => e = .returned (.bool true) ∧ Hid (Below wr.heap.size wr w')) := fun W hW => by
              rw [← sameV_refl xa]
              refine (Same_any xa xa _ _ _ _ W ((jd _).K_below hW HKy.out) ((jd _).K_below hW ((jd _).K_below HBn.out HKx.out))).mono ?_
              rintro e w' ⟨rfl, h⟩
              exact ⟨rfl, below_then hW hW.size h.out⟩
            have HX2 : Hid (∀ W, Below wr.heap.size wr W → Calls Tryd.prog 16 #[.agg #[.int .i64 xa.kind, .string xa.text, .slice Z2 xa.list.length z2, .slice Z3 xa.mem.length z3], .agg #[.int .i64 xa.kind, .string xa.text, .slice X2 xa.list.length x2, .slice X3 xa.mem.length x3]] W fun e w' => e = .returned (.bool true) ∧ Hid (Below wr.heap.size wr w')) := fun W hW => by
              rw [← sameV_refl xa]
              refine (Same_any xa xa _ _ _ _ W ((jd _).K_below hW HKz.out) ((jd _).K_below hW ((jd _).K_below HBn.out HKx.out))).mono ?_
              rintro e w' ⟨rfl, h⟩
              exact ⟨rfl, below_then hW hW.size h.out⟩
            have e1 := tn_false (show s = s from rfl)
            clear HKx HKy HKz
            go_wp2_with fail
            go_region_held3? (fun W => W.cell? ⟨w3.heap.size, 2, none⟩ = some (.slice (some bd) xs.length l2) ∧ W.cell? ⟨w3.heap.size + 1, 3, none⟩ = some (.slice (some cd) xs.length o2) ∧
                W.cell? (ad.add (k * 4)) = some (.int .i64 xa.kind) ∧ W.cell? ⟨(ad.add (k * 4)).block, (ad.add (k * 4)).off + 1, none⟩ = some (.string xa.text) ∧ W.cell? ⟨(ad.add (k * 4)).block, (ad.add (k * 4)).off + 2, none⟩ = some (.slice X2 xa.list.length x2) ∧ W.cell? ⟨(ad.add (k * 4)).block, (ad.add (k * 4)).off + 3, none⟩ = some (.slice X3 xa.mem.length x3) ∧
                W.cell? (bd.add (k * 4)) = some (.int .i64 xa.kind) ∧ W.cell? ⟨(bd.add (k * 4)).block, (bd.add (k * 4)).off + 1, none⟩ = some (.string xa.text) ∧ W.cell? ⟨(bd.add (k * 4)).block, (bd.add (k * 4)).off + 2, none⟩ = some (.slice Y2 xa.list.length y2) ∧ W.cell? ⟨(bd.add (k * 4)).block, (bd.add (k * 4)).off + 3, none⟩ = some (.slice Y3 xa.mem.length y3) ∧
                W.cell? (cd.add (k * 5)) = some (.string s) ∧ W.cell? ⟨(cd.add (k * 5)).block, (cd.add (k * 5)).off + 1, none⟩ = some (.int .i64 xa.kind) ∧ W.cell? ⟨(cd.add (k * 5)).block, (cd.add (k * 5)).off + 2, none⟩ = some (.string xa.text) ∧ W.cell? ⟨(cd.add (k * 5)).block, (cd.add (k * 5)).off + 3, none⟩ = some (.slice Z2 xa.list.length z2) ∧ W.cell? ⟨(cd.add (k * 5)).block, (cd.add (k * 5)).off + 4, none⟩ = some (.slice Z3 xa.mem.length z3))
              (first | exact ⟨ca, cb, q0, q1, q2, q3, p0, p1, p2, p3, rn, r0, r1, r2, r3⟩ | exact ⟨cell_below (w := wr) hb9.out ca, cell_below (w := wr) hb9.out cb, cell_below (w := wr) hb9.out q0, cell_below (w := wr) hb9.out q1, cell_below (w := wr) hb9.out q2, cell_below (w := wr) hb9.out q3, cell_below (w := wr) hb9.out p0, cell_below (w := wr) hb9.out p1, cell_below (w := wr) hb9.out p2, cell_below (w := wr) hb9.out p3, cell_below (w := wr) hb9.out rn, cell_below (w := wr) hb9.out r0, cell_below (w := wr) hb9.out r1, cell_below (w := wr) hb9.out r2, cell_below (w := wr) hb9.out r3⟩)
              (first
                | (go_simp; go_at_call 16; (first | with_reducible refine (HX1.out _ (by first | exact hb9.out | exact below_drew (Below.refl _ _))).mono ?_ | with_reducible refine (HX2.out _ (by first | exact hb9.out | exact below_drew (Below.refl _ _))).mono ?_); rintro e w9 ⟨rfl, hb9⟩))
            all_goals
              go_wp2_with fail
              go_roundg g1
              case measure => omega
              case rel => exact ⟨k + 1, by go_num, by have := HK.out; show _ = _; omega, below_then HBi.out HBi.out.size hb9.out⟩
          · obtain rfl : k = xs.length := by have := HK.out; omega
            have k3 : decide (xs.length < xs.length) = false := by simp
            have HBn := Lib.hid (below_then HBz.out HBz.out.size HBi.out)
            clear HK hlt
            go_wp2_with fail
            refine (Str_val s wr).mono ?_
            rintro e w6 ⟨rfl, h6⟩
            have HB6 := Lib.hid (below_then HBn.out HBn.out.size h6.out)
            go_wp2_with fail
            refine (Same_any ⟨4, s, [], []⟩ ⟨4, s, [], []⟩ [.int .i64 4, .string s, .slice none 0 0, .slice none 0 0] [.int .i64 4, .string s, .slice none 0 0, .slice none 0 0] 1 1 _ (jd_leaf 0 _ 4 s) (jd_leaf 0 _ 4 s)).mono ?_
            rintro e w7 ⟨rfl, h7⟩
            rw [sameV_refl]
            have HB7 := Lib.hid (below_then HB6.out HB6.out.size h7.out)
            have HI := Lib.hid (Int_val n HN.out.1 HN.out.2 w7 (tab_below HT.out HB7.out))
            rw [Htn.out] at HI
            go_wp2_with fail
            refine HI.out.mono ?_
            rintro e w8 ⟨rfl, h8⟩
            have HB8 := Lib.hid (below_then HB7.out HB7.out.size h8.out)
            go_wp2_with fail
            refine (Same_any ⟨3, tn, [], []⟩ ⟨3, tn, [], []⟩ [.int .i64 3, .string tn, .slice none 0 0, .slice none 0 0] [.int .i64 3, .string tn, .slice none 0 0, .slice none 0 0] 1 1 _ (jd_leaf 0 _ 3 tn) (jd_leaf 0 _ 3 tn)).mono ?_
            rintro e w9 ⟨rfl, h9⟩
            rw [sameV_refl]
            have HB9 := Lib.hid (below_then HB8.out HB8.out.size h9.out)
            go_wp2_with fail
            go_ret
            exact ⟨rfl, HB9.out⟩
end Go.Proofs.YtpdpgppaoipnlaaDoor

