/- What the claim uses of the text E3. -/
import Derived.Test.YtpdpgppaoipnlaaDoorUE2
set_option linter.unusedVariables false
set_option linter.unusedSimpArgs false
namespace Go.Proofs.YtpdpgppaoipnlaaDoor
open Go.RowKit Go.PlainAid
open Go.Proofs.YtpdpgppaoipnlaaDoorW.PrintWords hiding bt
open Go.Proofs.YtpdpgppaoipnlaaDoorW.PrintMore

def REqAll (n : Nat) : Prop := ∀ (m : Nat) (a b : JV) (cs ds : List Value) (la lb : Int) (w : World), (jd n).K w a cs → (jd m).K w b ds → okV a la = true → okV b lb = true →
  Calls Tryd.prog 39 #[.agg cs.toArray, .agg ds.toArray] w fun e w' => e = .returned (.bool (eqV a b)) ∧ Hid (Below w.heap.size w w')

set_option maxHeartbeats 8000000 in
set_option maxRecDepth 100000 in
theorem req_step (n : Nat) (ih : REqAll n) : REqAll (n + 1) := by
  intro m a b cs ds la lb w ha hb hoa hob
  obtain ⟨m, rfl⟩ := jd_cells hb
  have HKb := Lib.hid hb
  obtain ⟨A2, c2, A3, c3, rfl, la2, ga2, la3, ga3⟩ := jd_open ha
  obtain ⟨B2, d2, B3, d3, rfl, lb2, gb2, lb3, gb3⟩ := jd_open hb
  change Calls _ _ #[.agg #[.int .i64 a.kind, .string a.text, .slice A2 a.list.length c2, .slice A3 a.mem.length c3], .agg #[.int .i64 b.kind, .string b.text, .slice B2 b.list.length d2, .slice B3 b.mem.length d3]] _ _
  have HIH := Lib.hid ih
  have HE := Lib.hid (eqV_eq a b)
  have HPa := Lib.hid (okV_parts hoa)
  have HPb := Lib.hid (okV_parts hob)
  have HB0 : Hid (Below w.heap.size w ((w.alloc (.cells #[.int .i64 a.kind, .string a.text, .slice A2 a.list.length c2, .slice A3 a.mem.length c3] 26)).alloc (.cells #[.int .i64 b.kind, .string b.text, .slice B2 b.list.length d2, .slice B3 b.mem.length d3] 26))) := by show Below _ _ _; go_grown
  have HR1 : Hid (Row 26 w.heap.size #[.int .i64 a.kind, .string a.text, .slice A2 a.list.length c2, .slice A3 a.mem.length c3] ((w.alloc (.cells #[.int .i64 a.kind, .string a.text, .slice A2 a.list.length c2, .slice A3 a.mem.length c3] 26)).alloc (.cells #[.int .i64 b.kind, .string b.text, .slice B2 b.list.length d2, .slice B3 b.mem.length d3] 26))) := (Row.new w _ _ rfl).old _
  have HR2 : Hid (Row 26 (w.heap.size + 1) #[.int .i64 b.kind, .string b.text, .slice B2 b.list.length d2, .slice B3 b.mem.length d3] ((w.alloc (.cells #[.int .i64 a.kind, .string a.text, .slice A2 a.list.length c2, .slice A3 a.mem.length c3] 26)).alloc (.cells #[.int .i64 b.kind, .string b.text, .slice B2 b.list.length d2, .slice B3 b.mem.length d3] 26))) := Row.new _ _ _ (by simp)
  have HKb0 := Lib.hid ((jd (m + 1)).K_below HB0.out HKb.out)
  have G2 := Lib.hid (Kd.C_below ga2 HB0.out)
  have G3 := Lib.hid (Kd.C_below ga3 HB0.out)
  have F2 := Lib.hid (Kd.C_below gb2 HB0.out)
  have F3 := Lib.hid (Kd.C_below gb3 HB0.out)
  have s2 : a.list.length ≤ 9223372036854775807 := ga2.2.1
  have s3 : a.mem.length ≤ 9223372036854775807 := ga3.2.1
  have s4 : b.list.length ≤ 9223372036854775807 := gb2.2.1
  have s5 : b.mem.length ≤ 9223372036854775807 := gb3.2.1
  clear ha hb ga2 ga3 gb2 gb3 ih hoa hob
  by_cases hk : a.kind = b.kind
  · have e1 : (a.kind != b.kind) = false := by rw [bne_eq_false_iff_eq]; exact hk
    by_cases ht : a.text = b.text
    · have e2 := tn_false ht
      have e2' : a.text.toList = b.text.toList := by rw [ht]
      by_cases hl : a.list.length = b.list.length
      · have e3 : (a.list.length != b.list.length) = false := by rw [bne_eq_false_iff_eq]; exact hl
        have e3' : ((a.list.length : Int) != (b.list.length : Int)) = false := by rw [bne_eq_false_iff_eq]; omega
        by_cases hm : a.mem.length = b.mem.length
        · have e4 : (a.mem.length != b.mem.length) = false := by rw [bne_eq_false_iff_eq]; exact hm
          have e4' : ((a.mem.length : Int) != (b.mem.length : Int)) = false := by rw [bne_eq_false_iff_eq]; omega
          have HE2 : Hid (eqV a b = (eqL a.list b.list && eqM a.mem b.mem)) := by show _ = _; rw [HE.out]; simp [hk, ht, hl, hm]
          have HL := Lib.hid hl
          have HMl := Lib.hid hm
          have HG6 : Hid (b.kind ≠ 6 → b.mem = []) := HPb.out.2.1
          clear hk ht hl hm HE
          go_enter Tryd.func39, Tryd.ntmps39
          go_wp2_with fail
          clear e1 e2 e2' e3 e3' e4 e4'
          change Code.wp _ _ _ _ ((w.alloc (.cells #[.int .i64 a.kind, .string a.text, .slice A2 a.list.length c2, .slice A3 a.mem.length c3] 26)).alloc (.cells #[.int .i64 b.kind, .string b.text, .slice B2 b.list.length d2, .slice B3 b.mem.length d3] 26))
          generalize (w.alloc (.cells #[.int .i64 a.kind, .string a.text, .slice A2 a.list.length c2, .slice A3 a.mem.length c3] 26)).alloc (.cells #[.int .i64 b.kind, .string b.text, .slice B2 b.list.length d2, .slice B3 b.mem.length d3] 26) = w0 at *
          go_loopg [5] a.list.length (fun g v5 wi => ∃ k : Nat, v5 = .int .i64 k ∧ Hid (k + g = a.list.length) ∧ Hid (eqL (a.list.drop k) (b.list.drop k) = eqL a.list b.list) ∧ Hid (Below w0.heap.size w0 wi))
          case atStart => exact ⟨0, rfl, by show _ = _; omega, rfl, Below.refl _ _⟩
          case round =>
            obtain ⟨k, rfl, HK, HD, HB⟩ := hrel
            have ca := (HR1.out.below HB.out).cell 2 _ rfl
            have cb := (HR2.out.below HB.out).cell 2 _ rfl
            by_cases hlt : k < a.list.length
            · have hlt2 : k < b.list.length := by rw [← HL.out]; exact hlt
              have hd := HD.out
              rw [eqL_drop _ _ _ hlt hlt2] at hd
              obtain ⟨ad, X2, x2, X3, x3, hA, hKa, q0, q1, q2, q3⟩ := jv_at (Kd.C_below G2.out HB.out) k hlt
              obtain ⟨bd, Y2, y2, Y3, y3, hB, hKb, p0, p1, p2, p3⟩ := jv_at (Kd.C_below F2.out HB.out) k hlt2
              rw [hA] at ca
              rw [hB] at cb
              have k0 : (0 : Int) ≤ (k : Int) := by omega
              have k1 : (k : Int) < (a.list.length : Int) := by omega
              have k2 : (k : Int) < (b.list.length : Int) := by omega
              have k3 : decide (k < a.list.length) = true := by simpa using hlt
              obtain ⟨g1, rfl⟩ : ∃ g1, gk = g1 + 1 := ⟨gk - 1, by have := HK.out; omega⟩
              have HKa := Lib.hid hKa
              have HKb := Lib.hid hKb
              have HOa := Lib.hid (HPa.out.2.2.2.1 (a.list.getD k jz) (getD_mem _ _ _ hlt))
              have HOb := Lib.hid (HPb.out.2.2.2.1 (b.list.getD k jz) (getD_mem _ _ _ hlt2))
              clear hA hB hKa hKb HD
              generalize a.list.getD k jz = xa at *
              generalize b.list.getD k jz = xb at *
              obtain ⟨z, Hz⟩ : ∃ z, Hid (eqV xa xb = z) := ⟨_, rfl⟩
              rw [Hz.out] at hd
              replace HD := Lib.hid hd
              clear hd
              have HCC : Hid (∀ W, Below wr.heap.size wr W → Calls Tryd.prog 39 #[.agg #[.int .i64 xa.kind, .string xa.text, .slice X2 xa.list.length x2, .slice X3 xa.mem.length x3], .agg #[.int .i64 xb.kind, .string xb.text, .slice Y2 xb.list.length y2, .slice Y3 xb.mem.length y3]] W fun e w' => e = .returned (.bool z) ∧ Hid (Below W.heap.size W w')) := fun W hW => by
                rw [← Hz.out]
                exact HIH.out m xa xb _ _ _ _ W ((jd n).K_below hW HKa.out) ((jd m).K_below hW HKb.out) HOa.out HOb.out
              have HBd : Hid (Below wr.heap.size wr wr.drew) := below_drew (Below.refl _ _)
              go_wp2_with fail
              go_still_tail 10, (by kernel_rfl)
              change wpList _ _ _ _ _ wr.drew
              generalize wr.drew = w2 at *
              cases z with
              | true =>
                go_wp2_with (go_at_call 39; refine (HCC.out _ HBd.out).mono ?_; rintro e w4 ⟨rfl, hb4⟩)
                go_roundg g1
                case measure => omega
                case rel => exact ⟨k + 1, by go_num, by have := HK.out; show _ = _; omega, by show _ = _; rw [← HD.out]; simp, below_then HB.out HB.out.size (below_then HBd.out HBd.out.size hb4.out)⟩
              | false =>
                have HE3 : Hid (eqV a b = false) := by show _ = _; rw [HE2.out, ← HD.out]; simp
                clear HD HE2
                go_wp2_with (go_at_call 39; refine (HCC.out _ HBd.out).mono ?_; rintro e w4 ⟨rfl, hb4⟩)
                go_ret
                exact ⟨by rw [HE3.out]; rfl, below_then HB0.out HB0.out.size (below_then HB.out HB.out.size (below_then HBd.out HBd.out.size hb4.out))⟩
            · obtain rfl : k = a.list.length := by have := HK.out; omega
              have HE3 : Hid (eqV a b = eqM a.mem b.mem) := by
                show _ = _
                rw [HE2.out, ← HD.out, List.drop_length]
                simp [eqL]
              have k3 : decide (a.list.length < a.list.length) = false := by simp
              have c33 := (HR1.out.below HB.out).cell 3 _ rfl
              clear HD HK HE2 hlt
              go_wp2_with fail
              obtain ⟨wm, hwm⟩ : ∃ wm : World, wm = wr := ⟨_, rfl⟩
              rw [← hwm] at HB ⊢
              clear hwm ca cb c33 wr
              go_loopg [6] a.mem.length (fun g v6 wi => ∃ k : Nat, v6 = .int .i64 k ∧ Hid (k + g = a.mem.length) ∧ Hid (eqM (a.mem.drop k) b.mem = eqM a.mem b.mem) ∧ Hid (Below w0.heap.size w0 wi))
              case atStart => exact ⟨0, rfl, by show _ = _; omega, rfl, HB.out⟩
              case round =>
                obtain ⟨k, rfl, HK, HD, HB⟩ := hrel
                have ca := (HR1.out.below HB.out).cell 3 _ rfl
                by_cases hlt : k < a.mem.length
                · have hd := HD.out
                  rw [eqM_drop _ _ _ hlt] at hd
                  have k3 : decide (k < a.mem.length) = true := by simpa using hlt
                  have HLT := Lib.hid hlt
                  obtain ⟨g1, rfl⟩ : ∃ g1, gk = g1 + 1 := ⟨gk - 1, by have := HK.out; omega⟩
                  have HOa := Lib.hid (HPa.out.2.2.2.2 (a.mem.getD k (⟨#[]⟩, jz)) (getD_mem _ _ _ hlt))
                  obtain ⟨na, xa, hea⟩ : ∃ na xa, a.mem.getD k (⟨#[]⟩, jz) = (na, xa) := ⟨_, _, rfl⟩
                  have HEA := Lib.hid hea
                  rw [hea] at hd HOa
                  dsimp only at hd HOa
                  replace HD := Lib.hid hd
                  clear hd hea
                  go_wp2_with fail
                  obtain ⟨wn, hwn⟩ : ∃ wn : World, wn = wr := ⟨_, rfl⟩
                  rw [← hwn] at HB ⊢
                  clear hwn ca k3 wr
                  go_loopg [7, 8] b.mem.length (fun g v7 v8 wi => ∃ j : Nat, v7 = .bool (eqO xa (getF na (b.mem.take j))) ∧ v8 = .int .i64 j ∧ Hid (j + g = b.mem.length) ∧ Hid (Below w0.heap.size w0 wi))
                  case atStart => exact ⟨0, by simp [getF, eqO], rfl, by show _ = _; omega, HB.out⟩
                  case round =>
                    obtain ⟨j, rfl, rfl, HJ, HBj⟩ := hrel
                    have cb := (HR2.out.below HBj.out).cell 3 _ rfl
                    by_cases hjt : j < b.mem.length
                    · have ca := (HR1.out.below HBj.out).cell 3 _ rfl
                      obtain ⟨ad, X2, x2, X3, x3, hA, hKa, qn, q0, q1, q2, q3⟩ := jm_at (Kd.C_below G3.out HBj.out) k hlt
                      obtain ⟨bd, Y2, y2, Y3, y3, hB, hKb, pn, p0, p1, p2, p3⟩ := jm_at (Kd.C_below F3.out HBj.out) j hjt
                      rw [hA] at ca
                      rw [hB] at cb
                      rw [HEA.out] at hKa qn q0 q1 q2 q3
                      dsimp only at hKa qn q0 q1 q2 q3
                      have k0 : (0 : Int) ≤ (k : Int) := by omega
                      have k1 : (k : Int) < (a.mem.length : Int) := by omega
                      have k4 : (0 : Int) ≤ (j : Int) := by omega
                      have k2 : (j : Int) < (b.mem.length : Int) := by omega
                      have k3 : decide (j < b.mem.length) = true := by simpa using hjt
                      obtain ⟨g2, rfl⟩ : ∃ g2, gk = g2 + 1 := ⟨gk - 1, by have := HJ.out; omega⟩
                      have HT := Lib.hid (getF_take na b.mem j hjt)
                      have HOb := Lib.hid (HPb.out.2.2.2.2 (b.mem.getD j (⟨#[]⟩, jz)) (getD_mem _ _ _ hjt))
                      have HTN := Lib.hid (fun e => getF_take_none (n := na) HPb.out.2.2.1 hjt e)
                      have HKa := Lib.hid hKa
                      have HKb := Lib.hid hKb
                      clear hKa hKb hA hB
                      obtain ⟨⟨nb, yb⟩, hyb⟩ : ∃ q, b.mem.getD j (⟨#[]⟩, jz) = q := ⟨_, rfl⟩
                      rw [hyb] at HT HOb HTN HKb pn p0 p1 p2 p3
                      clear hyb
                      dsimp only at HT HOb HTN HKb pn p0 p1 p2 p3
                      obtain ⟨f, hf⟩ : ∃ f, eqO xa (getF na (b.mem.take j)) = f := ⟨_, rfl⟩
                      rw [hf]
                      have HF := Lib.hid hf
                      clear hf
                      have HBd : Hid (Below wr.heap.size wr wr.drew) := below_drew (Below.refl _ _)
                      have HBd2 : Hid (Below wr.heap.size wr wr.drew.drew) := below_drew (below_drew (Below.refl _ _))
                      by_cases hn : na = nb
                      · have e2 := tl_true hn
                        have e2' : na.toList = nb.toList := by rw [hn]
                        have HN := Lib.hid hn
                        clear hn
                        obtain ⟨z, Hz⟩ : ∃ z, Hid (eqV xa yb = z) := ⟨_, rfl⟩
                        have HF2 : Hid (eqO xa (getF na (b.mem.take (j + 1))) = z) := by
                          show _ = _
                          rw [HT.out, HTN.out HN.out.symm, if_pos HN.out.symm]
                          exact Hz.out
                        have HCC : Hid (∀ W, Below wr.heap.size wr W → Calls Tryd.prog 39 #[.agg #[.int .i64 xa.kind, .string xa.text, .slice X2 xa.list.length x2, .slice X3 xa.mem.length x3], .agg #[.int .i64 yb.kind, .string yb.text, .slice Y2 yb.list.length y2, .slice Y3 yb.mem.length y3]] W fun e w' => e = .returned (.bool z) ∧ Hid (Below W.heap.size W w')) := fun W hW => by
                          rw [← Hz.out]
                          exact HIH.out m xa yb _ _ _ _ W ((jd n).K_below hW HKa.out) ((jd m).K_below hW HKb.out) HOa.out HOb.out
                        clear HT HTN HF
                        go_wp2_with fail
                        go_quiet (fail)
                        go_wp2_with fail
                        have HBq : Hid (Below wr.heap.size wr (wr.drewN nq)) := pw_below_drewN (Below.refl _ _) _
                        generalize wr.drewN nq = wq at *
                        replace ca := cell_below HBq.out ca
                        replace cb := cell_below HBq.out cb
                        replace q0 := cell_below HBq.out q0
                        replace q1 := cell_below HBq.out q1
                        replace q2 := cell_below HBq.out q2
                        replace q3 := cell_below HBq.out q3
                        replace p0 := cell_below HBq.out p0
                        replace p1 := cell_below HBq.out p1
                        replace p2 := cell_below HBq.out p2
                        replace p3 := cell_below HBq.out p3
                        have HBe : Hid (Below wr.heap.size wr wq.drew) := below_drew HBq.out
                        go_still_tail 12, (by kernel_rfl)
                        change wpList _ _ _ _ _ wq.drew
                        generalize wq.drew = w2 at *
                        go_wp2_with (go_at_call 39; refine (HCC.out _ HBe.out).mono ?_; rintro e w4 ⟨rfl, hb4⟩)
                        go_roundg g2
                        case measure => omega
                        case rel => exact ⟨j + 1, by rw [HF2.out], by go_num, by have := HJ.out; show _ = _; omega, below_then HBj.out HBj.out.size (below_then HBe.out HBe.out.size hb4.out)⟩
                      · have e2 := tl_false hn
                        have e2' : ¬ na.toList = nb.toList := fun h => by have := tl_false hn; rw [h] at this; simp at this
                        have HF2 : Hid (eqO xa (getF na (b.mem.take (j + 1))) = f) := by
                          show _ = _
                          rw [HT.out, ← HF.out, if_neg (fun h => hn h.symm)]
                          cases getF na (b.mem.take j) <;> rfl
                        clear HT HTN HF hn
                        go_wp2_with fail
                        go_quiet (fail)
                        go_wp2_with fail
                        go_roundg g2
                        case measure => omega
                        case rel => exact ⟨j + 1, by rw [HF2.out], by go_num, by have := HJ.out; show _ = _; omega, pw_below_drewN HBj.out _⟩
                    · obtain rfl : j = b.mem.length := by have := HJ.out; omega
                      have k3 : decide (b.mem.length < b.mem.length) = false := by simp
                      obtain ⟨z, Hz⟩ : ∃ z, Hid (eqO xa (getF na b.mem) = z) := ⟨_, rfl⟩
                      rw [List.take_length, Hz.out]
                      rw [Hz.out] at HD
                      clear hjt HJ
                      cases z with
                      | true =>
                        go_wp2_with fail
                        go_roundg g1
                        case measure => omega
                        case rel => exact ⟨k + 1, by go_num, by have := HK.out; show _ = _; omega, by show _ = _; rw [← HD.out]; simp, HBj⟩
                      | false =>
                        have HE4 : Hid (eqV a b = false) := by show _ = _; rw [HE3.out, ← HD.out]; simp
                        go_wp2_with fail
                        go_ret
                        exact ⟨by rw [HE4.out]; rfl, below_then HB0.out HB0.out.size HBj.out⟩
                · obtain rfl : k = a.mem.length := by have := HK.out; omega
                  have HE4 : Hid (eqV a b = true) := by
                    show _ = _
                    rw [HE3.out, ← HD.out, List.drop_length]
                    simp [eqM]
                  have k3 : decide (a.mem.length < a.mem.length) = false := by simp
                  clear HD HK HE3 hlt
                  go_wp2_with fail
                  go_ret
                  exact ⟨by rw [HE4.out]; rfl, below_then HB0.out HB0.out.size HB.out⟩
        · have e4 : (a.mem.length != b.mem.length) = true := by rw [bne_iff_ne]; exact hm
          have e4' : ((a.mem.length : Int) != (b.mem.length : Int)) = true := by rw [bne_iff_ne]; omega
          have HE2 : Hid (eqV a b = false) := by show _ = _; rw [HE.out]; simp [hm]
          clear hk ht hl hm HE
          go_enter Tryd.func39, Tryd.ntmps39
          go_wp2
          all_goals (go_ret; exact ⟨by rw [HE2.out]; rfl, HB0.out⟩)
      · have e3 : (a.list.length != b.list.length) = true := by rw [bne_iff_ne]; exact hl
        have e3' : ((a.list.length : Int) != (b.list.length : Int)) = true := by rw [bne_iff_ne]; omega
        have HE2 : Hid (eqV a b = false) := by show _ = _; rw [HE.out]; simp [hl]
        clear hk ht hl HE
        go_enter Tryd.func39, Tryd.ntmps39
        go_wp2
        all_goals (go_ret; exact ⟨by rw [HE2.out]; rfl, HB0.out⟩)
    · have e2 := tn_true ht
      have e2' : ¬ a.text.toList = b.text.toList := fun h => by have := tl_false ht; rw [h] at this; simp at this
      have HE2 : Hid (eqV a b = false) := by show _ = _; rw [HE.out]; simp [ht]
      clear hk ht HE
      go_enter Tryd.func39, Tryd.ntmps39
      go_wp2
      all_goals (go_ret; exact ⟨by rw [HE2.out]; rfl, HB0.out⟩)
  · have e1 : (a.kind != b.kind) = true := by rw [bne_iff_ne]; exact hk
    have HE2 : Hid (eqV a b = false) := by show _ = _; rw [HE.out]; simp [hk]
    clear hk HE
    go_enter Tryd.func39, Tryd.ntmps39
    go_wp2
    all_goals (go_ret; exact ⟨by rw [HE2.out]; rfl, HB0.out⟩)
theorem req_all : ∀ n, REqAll n
  | 0 => fun _ _ _ _ _ _ _ _ ha _ _ _ => (jd_zero ha).elim
  | n + 1 => req_step n (req_all n)
end Go.Proofs.YtpdpgppaoipnlaaDoor

