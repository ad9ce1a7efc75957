/- What the claim uses of the text K5. -/
import Derived.Test.YtpdpgppaoipnlaaDoorUK4
import Derived.StillTailTactics
import Derived.Test.YtpdpgppaoipnlaaDoorUUtfLaw
set_option linter.unusedVariables false
set_option linter.unusedSimpArgs false
namespace Go.Proofs.YtpdpgppaoipnlaaDoor
section
open Go.RowKit Go.PlainAid
open Go.Proofs.YtpdpgppaoipnlaaDoorW.PrintWords hiding bt
open Go.Proofs.YtpdpgppaoipnlaaDoorW.PrintMore

theorem sameV_eq (a b : JV) : sameV a b = (decide (a.kind = b.kind) && (decide (a.text = b.text) && (sameL a.list b.list && sameM a.mem b.mem))) := by cases a; rfl
theorem sameL_len : ∀ (l r : List JV), l.length ≠ r.length → sameL l r = false
  | [], [], h => absurd rfl h
  | [], _ :: _, _ => by simp [sameL]
  | _ :: _, [], _ => by simp [sameL]
  | x :: l, y :: r, h => by
    have := sameL_len l r (by simpa using h)
    simp [sameL, this]
theorem sameM_len : ∀ (l r : List (ByteArray × JV)), l.length ≠ r.length → sameM l r = false
  | [], [], h => absurd rfl h
  | [], _ :: _, _ => by simp [sameM]
  | _ :: _, [], _ => by simp [sameM]
  | (_, x) :: l, (_, y) :: r, h => by
    have := sameM_len l r (by simpa using h)
    simp [sameM, this]
theorem sameL_drop (l r : List JV) (k : Nat) (h : k < l.length) (h' : k < r.length) : sameL (l.drop k) (r.drop k) = (sameV (l.getD k jz) (r.getD k jz) && sameL (l.drop (k + 1)) (r.drop (k + 1))) := by
  rw [List.drop_eq_getElem_cons h, List.drop_eq_getElem_cons h', List.getD_eq_getElem?_getD, List.getD_eq_getElem?_getD, List.getElem?_eq_getElem h, List.getElem?_eq_getElem h']
  simp [sameL]
theorem sameM_drop (l r : List (ByteArray × JV)) (k : Nat) (h : k < l.length) (h' : k < r.length) : sameM (l.drop k) (r.drop k) = (decide ((l.getD k (⟨#[]⟩, jz)).1 = (r.getD k (⟨#[]⟩, jz)).1) && (sameV (l.getD k (⟨#[]⟩, jz)).2 (r.getD k (⟨#[]⟩, jz)).2 && sameM (l.drop (k + 1)) (r.drop (k + 1)))) := by
  rw [List.drop_eq_getElem_cons h, List.drop_eq_getElem_cons h', List.getD_eq_getElem?_getD, List.getD_eq_getElem?_getD, List.getElem?_eq_getElem h, List.getElem?_eq_getElem h']
  simp [sameM]
theorem tn_true {a b : ByteArray} (h : ¬ a = b) : (a.toList != b.toList) = true := by rw [bne, tl_false h]; rfl
theorem tn_false {a b : ByteArray} (h : a = b) : (a.toList != b.toList) = false := by rw [bne, tl_true h]; rfl

def SameAll (n : Nat) : Prop := ∀ (m : Nat) (a b : JV) (cs ds : List Value) (w : World), (jd n).K w a cs → (jd m).K w b ds →
  Calls Tryd.prog 16 #[.agg cs.toArray, .agg ds.toArray] w fun e w' => e = .returned (.bool (sameV a b)) ∧ Hid (Below w.heap.size w w')

set_option maxHeartbeats 4000000 in
set_option maxRecDepth 100000 in
theorem same_step (n : Nat) (ih : SameAll n) : SameAll (n + 1) := by
  intro m a b cs ds w ha hb
  obtain ⟨m, rfl⟩ := jd_cells hb
  obtain ⟨A2, c2, A3, c3, rfl, la2, ga2, la3, ga3⟩ := jd_open ha
  obtain ⟨B2, d2, B3, d3, rfl, lb2, gb2, lb3, gb3⟩ := jd_open hb
  change Calls _ _ #[.agg #[.int .i64 a.kind, .string a.text, .slice A2 a.list.length c2, .slice A3 a.mem.length c3], .agg #[.int .i64 b.kind, .string b.text, .slice B2 b.list.length d2, .slice B3 b.mem.length d3]] _ _
  have HIH := Lib.hid ih
  have HE := Lib.hid (sameV_eq a b)
  have HB0 : Hid (Below w.heap.size w ((w.alloc (.cells #[.int .i64 a.kind, .string a.text, .slice A2 a.list.length c2, .slice A3 a.mem.length c3] 26)).alloc (.cells #[.int .i64 b.kind, .string b.text, .slice B2 b.list.length d2, .slice B3 b.mem.length d3] 26))) := by show Below _ _ _; go_grown
  have HR1 : Hid (Row 26 w.heap.size #[.int .i64 a.kind, .string a.text, .slice A2 a.list.length c2, .slice A3 a.mem.length c3] ((w.alloc (.cells #[.int .i64 a.kind, .string a.text, .slice A2 a.list.length c2, .slice A3 a.mem.length c3] 26)).alloc (.cells #[.int .i64 b.kind, .string b.text, .slice B2 b.list.length d2, .slice B3 b.mem.length d3] 26))) := (Row.new w _ _ rfl).old _
  have HR2 : Hid (Row 26 (w.heap.size + 1) #[.int .i64 b.kind, .string b.text, .slice B2 b.list.length d2, .slice B3 b.mem.length d3] ((w.alloc (.cells #[.int .i64 a.kind, .string a.text, .slice A2 a.list.length c2, .slice A3 a.mem.length c3] 26)).alloc (.cells #[.int .i64 b.kind, .string b.text, .slice B2 b.list.length d2, .slice B3 b.mem.length d3] 26))) := Row.new _ _ _ (by simp)
  have G2 := Lib.hid (Kd.C_below ga2 HB0.out)
  have G3 := Lib.hid (Kd.C_below ga3 HB0.out)
  have F2 := Lib.hid (Kd.C_below gb2 HB0.out)
  have F3 := Lib.hid (Kd.C_below gb3 HB0.out)
  have s2 : a.list.length ≤ 9223372036854775807 := ga2.2.1
  have s3 : a.mem.length ≤ 9223372036854775807 := ga3.2.1
  have s4 : b.list.length ≤ 9223372036854775807 := gb2.2.1
  have s5 : b.mem.length ≤ 9223372036854775807 := gb3.2.1
  clear ha hb ga2 ga3 gb2 gb3 ih
  by_cases hk : a.kind = b.kind
  · have e1 : (a.kind != b.kind) = false := by rw [bne_eq_false_iff_eq]; exact hk
    by_cases ht : a.text = b.text
    · have e2 := tn_false ht
      have e2' : a.text.toList = b.text.toList := by rw [ht]
      by_cases hl : a.list.length = b.list.length
      · have e3 : (a.list.length != b.list.length) = false := by rw [bne_eq_false_iff_eq]; exact hl
        have e3' : ((a.list.length : Int) != (b.list.length : Int)) = false := by rw [bne_eq_false_iff_eq]; omega
        by_cases hm : a.mem.length = b.mem.length
        · have e4 : (a.mem.length != b.mem.length) = false := by rw [bne_eq_false_iff_eq]; exact hm
          have e4' : ((a.mem.length : Int) != (b.mem.length : Int)) = false := by rw [bne_eq_false_iff_eq]; omega
          have HE2 : Hid (sameV a b = (sameL a.list b.list && sameM a.mem b.mem)) := by show _ = _; rw [HE.out]; simp [hk, ht]
          have HL := Lib.hid hl
          have HMl := Lib.hid hm
          clear hk ht hl hm HE
          go_enter Tryd.func16, Tryd.ntmps16
          go_wp2_with fail
          clear e1 e2 e2' e3 e3' e4 e4'
          change Code.wp _ _ _ _ ((w.alloc (.cells #[.int .i64 a.kind, .string a.text, .slice A2 a.list.length c2, .slice A3 a.mem.length c3] 26)).alloc (.cells #[.int .i64 b.kind, .string b.text, .slice B2 b.list.length d2, .slice B3 b.mem.length d3] 26))
          generalize (w.alloc (.cells #[.int .i64 a.kind, .string a.text, .slice A2 a.list.length c2, .slice A3 a.mem.length c3] 26)).alloc (.cells #[.int .i64 b.kind, .string b.text, .slice B2 b.list.length d2, .slice B3 b.mem.length d3] 26) = w0 at *
          go_loopg [5] a.list.length (fun g v5 wi => ∃ k : Nat, v5 = .int .i64 k ∧ Hid (k + g = a.list.length) ∧ Hid (sameL (a.list.drop k) (b.list.drop k) = sameL a.list b.list) ∧ Hid (Below w0.heap.size w0 wi))
          case atStart => exact ⟨0, rfl, by show _ = _; omega, rfl, Below.refl _ _⟩
          case round =>
            obtain ⟨k, rfl, HK, HD, HB⟩ := hrel
            have ca := (HR1.out.below HB.out).cell 2 _ rfl
            have cb := (HR2.out.below HB.out).cell 2 _ rfl
            by_cases hlt : k < a.list.length
            · have hlt2 : k < b.list.length := by rw [← HL.out]; exact hlt
              have hd := HD.out
              rw [sameL_drop _ _ _ hlt hlt2] at hd
              obtain ⟨ad, X2, x2, X3, x3, hA, hKa, q0, q1, q2, q3⟩ := jv_at (Kd.C_below G2.out HB.out) k hlt
              obtain ⟨bd, Y2, y2, Y3, y3, hB, hKb, p0, p1, p2, p3⟩ := jv_at (Kd.C_below F2.out HB.out) k hlt2
              rw [hA] at ca
              rw [hB] at cb
              have k0 : (0 : Int) ≤ (k : Int) := by omega
              have k1 : (k : Int) < (a.list.length : Int) := by omega
              have k2 : (k : Int) < (b.list.length : Int) := by omega
              have k3 : decide (k < a.list.length) = true := by simpa using hlt
              obtain ⟨g1, rfl⟩ : ∃ g1, gk = g1 + 1 := ⟨gk - 1, by have := HK.out; omega⟩
              have HKa := Lib.hid hKa
              have HKb := Lib.hid hKb
              clear hA hB hKa hKb HD
              generalize a.list.getD k jz = xa at *
              generalize b.list.getD k jz = xb at *
              obtain ⟨z, Hz⟩ : ∃ z, Hid (sameV xa xb = z) := ⟨_, rfl⟩
              rw [Hz.out] at hd
              replace HD := Lib.hid hd
              clear hd
              have HCC : Hid (∀ W, Below wr.heap.size wr W → Calls Tryd.prog 16 #[.agg #[.int .i64 xa.kind, .string xa.text, .slice X2 xa.list.length x2, .slice X3 xa.mem.length x3], .agg #[.int .i64 xb.kind, .string xb.text, .slice Y2 xb.list.length y2, .slice Y3 xb.mem.length y3]] W fun e w' => e = .returned (.bool z) ∧ Hid (Below W.heap.size W w')) := fun W hW => by
                rw [← Hz.out]
                exact HIH.out m xa xb _ _ W ((jd n).K_below hW HKa.out) ((jd m).K_below hW HKb.out)
              have HBd : Hid (Below wr.heap.size wr wr.drew) := below_drew (Below.refl _ _)
              go_wp2_with fail
              go_still_tail 10, (by kernel_rfl)
              change wpList _ _ _ _ _ wr.drew
              generalize wr.drew = w2 at *
              cases z with
              | true =>
                go_wp2_with (go_at_call 16; refine (HCC.out _ HBd.out).mono ?_; rintro e w4 ⟨rfl, hb4⟩)
                go_roundg g1
                case measure => omega
                case rel => exact ⟨k + 1, by go_num, by have := HK.out; show _ = _; omega, by show _ = _; rw [← HD.out]; simp, below_then HB.out HB.out.size (below_then HBd.out HBd.out.size hb4.out)⟩
              | false =>
                have HE3 : Hid (sameV a b = false) := by show _ = _; rw [HE2.out, ← HD.out]; simp
                clear HD HE2
                go_wp2_with (go_at_call 16; refine (HCC.out _ HBd.out).mono ?_; rintro e w4 ⟨rfl, hb4⟩)
                go_ret
                exact ⟨by rw [HE3.out]; rfl, below_then HB0.out HB0.out.size (below_then HB.out HB.out.size (below_then HBd.out HBd.out.size hb4.out))⟩
            · obtain rfl : k = a.list.length := by have := HK.out; omega
              have HE3 : Hid (sameV a b = sameM a.mem b.mem) := by
                show _ = _
                rw [HE2.out, ← HD.out, List.drop_length, List.drop_of_length_le (by rw [HL.out]; exact Nat.le_refl _)]
                simp [sameL]
              have k3 : decide (a.list.length < a.list.length) = false := by simp
              clear HD HK HE2 hlt
              go_wp2_with fail
              obtain ⟨wm, hwm⟩ : ∃ wm : World, wm = wr := ⟨_, rfl⟩
              rw [← hwm] at HB ⊢
              clear hwm ca cb wr
              go_loopg [6] a.mem.length (fun g v6 wi => ∃ k : Nat, v6 = .int .i64 k ∧ Hid (k + g = a.mem.length) ∧ Hid (sameM (a.mem.drop k) (b.mem.drop k) = sameM a.mem b.mem) ∧ Hid (Below w0.heap.size w0 wi))
              case atStart => exact ⟨0, rfl, by show _ = _; omega, rfl, HB.out⟩
              case round =>
                obtain ⟨k, rfl, HK, HD, HB⟩ := hrel
                have ca := (HR1.out.below HB.out).cell 3 _ rfl
                have cb := (HR2.out.below HB.out).cell 3 _ rfl
                by_cases hlt : k < a.mem.length
                · have hlt2 : k < b.mem.length := by rw [← HMl.out]; exact hlt
                  have hd := HD.out
                  rw [sameM_drop _ _ _ hlt hlt2] at hd
                  obtain ⟨ad, X2, x2, X3, x3, hA, hKa, qn, q0, q1, q2, q3⟩ := jm_at (Kd.C_below G3.out HB.out) k hlt
                  obtain ⟨bd, Y2, y2, Y3, y3, hB, hKb, pn, p0, p1, p2, p3⟩ := jm_at (Kd.C_below F3.out HB.out) k hlt2
                  rw [hA] at ca
                  rw [hB] at cb
                  have k0 : (0 : Int) ≤ (k : Int) := by omega
                  have k1 : (k : Int) < (a.mem.length : Int) := by omega
                  have k2 : (k : Int) < (b.mem.length : Int) := by omega
                  have k3 : decide (k < a.mem.length) = true := by simpa using hlt
                  obtain ⟨g1, rfl⟩ : ∃ g1, gk = g1 + 1 := ⟨gk - 1, by have := HK.out; omega⟩
                  have HKa := Lib.hid hKa
                  have HKb := Lib.hid hKb
                  clear hA hB hKa hKb HD
                  generalize a.mem.getD k (⟨#[]⟩, jz) = ea at *
                  generalize b.mem.getD k (⟨#[]⟩, jz) = eb at *
                  obtain ⟨na, xa⟩ := ea
                  obtain ⟨nb, xb⟩ := eb
                  dsimp only at qn q0 q1 q2 q3 pn p0 p1 p2 p3 HKa HKb hd
                  have HBd : Hid (Below wr.heap.size wr wr.drew) := below_drew (Below.refl _ _)
                  by_cases hn : na = nb
                  · have e2 := tn_false hn
                    have e2' : na.toList = nb.toList := by rw [hn]
                    obtain ⟨z, Hz⟩ : ∃ z, Hid (sameV xa xb = z) := ⟨_, rfl⟩
                    rw [Hz.out, decide_eq_true hn] at hd
                    replace HD := Lib.hid hd
                    clear hd hn
                    have HCC : Hid (∀ W, Below wr.heap.size wr W → Calls Tryd.prog 16 #[.agg #[.int .i64 xa.kind, .string xa.text, .slice X2 xa.list.length x2, .slice X3 xa.mem.length x3], .agg #[.int .i64 xb.kind, .string xb.text, .slice Y2 xb.list.length y2, .slice Y3 xb.mem.length y3]] W fun e w' => e = .returned (.bool z) ∧ Hid (Below W.heap.size W w')) := fun W hW => by
                      rw [← Hz.out]
                      exact HIH.out m xa xb _ _ W ((jd n).K_below hW HKa.out) ((jd m).K_below hW HKb.out)
                    go_wp2_with fail
                    go_still_tail 26, (by kernel_rfl)
                    change wpList _ _ _ _ _ wr.drew
                    generalize wr.drew = w2 at *
                    cases z with
                    | true =>
                      go_wp2_with (go_at_call 16; refine (HCC.out _ HBd.out).mono ?_; rintro e w4 ⟨rfl, hb4⟩)
                      go_roundg g1
                      case measure => omega
                      case rel => exact ⟨k + 1, by go_num, by have := HK.out; show _ = _; omega, by show _ = _; rw [← HD.out]; simp, below_then HB.out HB.out.size (below_then HBd.out HBd.out.size hb4.out)⟩
                    | false =>
                      have HE4 : Hid (sameV a b = false) := by show _ = _; rw [HE3.out, ← HD.out]; simp
                      clear HD HE3
                      go_wp2_with (go_at_call 16; refine (HCC.out _ HBd.out).mono ?_; rintro e w4 ⟨rfl, hb4⟩)
                      go_ret
                      exact ⟨by rw [HE4.out]; rfl, below_then HB0.out HB0.out.size (below_then HB.out HB.out.size (below_then HBd.out HBd.out.size hb4.out))⟩
                  · have e2 := tn_true hn
                    have e3 := tl_false hn
                    have e2' : ¬ na.toList = nb.toList := fun h => by have := tl_false hn; rw [h] at this; simp at this
                    rw [decide_eq_false hn] at hd
                    have HE4 : Hid (sameV a b = false) := by show _ = _; rw [HE3.out, ← hd]; simp
                    clear hd HE3 hn
                    go_wp2_with fail
                    go_quiet (fail)
                    go_wp2_with fail
                    go_ret
                    exact ⟨by rw [HE4.out]; rfl, below_then HB0.out HB0.out.size (pw_below_drewN HB.out _)⟩
                · obtain rfl : k = a.mem.length := by have := HK.out; omega
                  have HE4 : Hid (sameV a b = true) := by
                    show _ = _
                    rw [HE3.out, ← HD.out, List.drop_length, List.drop_of_length_le (by rw [HMl.out]; exact Nat.le_refl _)]
                    simp [sameM]
                  have k3 : decide (a.mem.length < a.mem.length) = false := by simp
                  clear HD HK HE3 hlt
                  go_wp2_with fail
                  go_ret
                  exact ⟨by rw [HE4.out]; rfl, below_then HB0.out HB0.out.size HB.out⟩
        · have e4 : (a.mem.length != b.mem.length) = true := by rw [bne_iff_ne]; exact hm
          have e4' : ((a.mem.length : Int) != (b.mem.length : Int)) = true := by rw [bne_iff_ne]; omega
          have HE2 : Hid (sameV a b = false) := by show _ = _; rw [HE.out, sameM_len _ _ hm]; simp
          clear hk ht hl hm HE
          go_enter Tryd.func16, Tryd.ntmps16
          go_wp2
          all_goals (go_ret; exact ⟨by rw [HE2.out]; rfl, HB0.out⟩)
      · have e3 : (a.list.length != b.list.length) = true := by rw [bne_iff_ne]; exact hl
        have e3' : ((a.list.length : Int) != (b.list.length : Int)) = true := by rw [bne_iff_ne]; omega
        have HE2 : Hid (sameV a b = false) := by show _ = _; rw [HE.out, sameL_len _ _ hl]; simp
        clear hk ht hl HE
        go_enter Tryd.func16, Tryd.ntmps16
        go_wp2
        all_goals (go_ret; exact ⟨by rw [HE2.out]; rfl, HB0.out⟩)
    · have e2 := tn_true ht
      have e2' : ¬ a.text.toList = b.text.toList := fun h => by have := tl_false ht; rw [h] at this; simp at this
      have HE2 : Hid (sameV a b = false) := by show _ = _; rw [HE.out]; simp [ht]
      clear hk ht HE
      go_enter Tryd.func16, Tryd.ntmps16
      go_wp2
      all_goals (go_ret; exact ⟨by rw [HE2.out]; rfl, HB0.out⟩)
  · have e1 : (a.kind != b.kind) = true := by rw [bne_iff_ne]; exact hk
    have HE2 : Hid (sameV a b = false) := by show _ = _; rw [HE.out]; simp [hk]
    clear hk HE
    go_enter Tryd.func16, Tryd.ntmps16
    go_wp2
    all_goals (go_ret; exact ⟨by rw [HE2.out]; rfl, HB0.out⟩)
theorem same_all : ∀ n, SameAll n
  | 0 => fun _ _ _ _ _ _ ha _ => (jd_zero ha).elim
  | n + 1 => same_step n (same_all n)
/-- Same, of whatever values. -/
theorem Same_any (a b : JV) (cs ds : List Value) (n m : Nat) (w : World) (ha : (jd n).K w a cs) (hb : (jd m).K w b ds) :
    Calls Tryd.prog 16 #[.agg cs.toArray, .agg ds.toArray] w fun e w' => e = .returned (.bool (sameV a b)) ∧ Hid (Below w.heap.size w w') := same_all n m a b cs ds w ha hb
mutual
theorem sameV_refl : ∀ a : JV, sameV a a = true
  | ⟨k, t, l, m⟩ => by simp [sameV, sameL_refl l, sameM_refl m]
theorem sameL_refl : ∀ l : List JV, sameL l l = true
  | [] => rfl
  | x :: l => by simp [sameL, sameV_refl x, sameL_refl l]
theorem sameM_refl : ∀ l : List (ByteArray × JV), sameM l l = true
  | [] => rfl
  | (n, x) :: l => by simp [sameM, sameV_refl x, sameM_refl l]
end
end

section
open Go.RowKit Go.PlainAid
open Go.Proofs.YtpdpgppaoipnlaaDoorW.PrintWords hiding bt
open Go.Proofs.YtpdpgppaoipnlaaDoorW.PrintMore

theorem read_1 : readV ⟨#[91, 49, 44, 32, 34, 92, 117, 48, 48, 101, 57, 34, 93]⟩ = (⟨5, ⟨#[]⟩, [⟨3, ⟨#[49]⟩, [], []⟩, ⟨4, ⟨#[195, 169]⟩, [], []⟩], []⟩, 13, 0) := by kernel_rfl
theorem read_2 : readV ⟨#[91, 48, 49, 93]⟩ = (jz, 2, 1) := by kernel_rfl
/-- What Read gives, opened. -/
theorem readRes_open {E : Nat → Addr} {r : JV × Int × Int} {w w' : World} {e : Ending} (h : ReadRes E r w e w') :
    ∃ A2 c2 A3 c3 v, e = .returned (.tuple #[.agg #[.int .i64 (if r.2.2 = 0 then r.1 else jz).kind, .string (if r.2.2 = 0 then r.1 else jz).text, .slice A2 (if r.2.2 = 0 then r.1 else jz).list.length c2, .slice A3 (if r.2.2 = 0 then r.1 else jz).mem.length c3], v]) ∧
      Hid ((jd 32).K w' (if r.2.2 = 0 then r.1 else jz) (jcells (if r.2.2 = 0 then r.1 else jz) A2 c2 A3 c3)) ∧ Hid (ErrV E w' v (if r.2.2 = 0 then 0 else r.2.1) r.2.2) ∧ Hid (Below w.heap.size w w') := by
  obtain ⟨cs, v, rfl, hM, hE, hB⟩ := h
  obtain ⟨A2, c2, A3, c3, rfl⟩ := jdM_cells hM
  exact ⟨A2, c2, A3, c3, v, rfl, (jd 32).K_of_M hM, hE, hB⟩
/-- Read, of a text that is read; of one that isn't. -/
theorem Read_ok {E : Nat → Addr} (s : ByteArray) (x : JV) (p : Int) (w : World) (hl : s.size ≤ 100000) (hs : Sents E w) (h : readV s = (x, p, 0)) :
    Calls Tryd.prog 13 #[.string s] w fun e w' => ∃ A2 c2 A3 c3, e = .returned (.tuple #[.agg #[.int .i64 x.kind, .string x.text, .slice A2 x.list.length c2, .slice A3 x.mem.length c3], .nilIface]) ∧ Hid ((jd 32).K w' x (jcells x A2 c2 A3 c3)) ∧ Hid (Below w.heap.size w w') := by
  refine (Read_any s w hl hs).mono ?_
  intro e w' ht
  rw [h] at ht
  obtain ⟨A2, c2, A3, c3, v, rfl, hK, hE, hB⟩ := readRes_open ht
  obtain ⟨_, rfl⟩ := Or.resolve_right hE.out (fun h => absurd h.1 (show ¬ (1 ≤ (0 : Int)) by omega))
  exact ⟨A2, c2, A3, c3, rfl, hK, hB⟩
theorem Read_no {E : Nat → Addr} (s : ByteArray) (x : JV) (p c : Int) (w : World) (hl : s.size ≤ 100000) (hs : Sents E w) (h : readV s = (x, p, c)) (hc : c ≠ 0) :
    Calls Tryd.prog 13 #[.string s] w fun e w' => ∃ A2 c2 A3 c3 q, e = .returned (.tuple #[.agg #[.int .i64 0, .string ⟨#[]⟩, .slice A2 0 c2, .slice A3 0 c3], .iface 69 (.pointer (some q))]) ∧ Hid ((jd 32).K w' jz (jcells jz A2 c2 A3 c3)) ∧ Hid (ErrV E w' (.iface 69 (.pointer (some q))) p c) ∧ Hid (Below w.heap.size w w') := by
  refine (Read_any s w hl hs).mono ?_
  intro e w' ht
  rw [h] at ht
  obtain ⟨A2, c2, A3, c3, v, rfl, hK, hE, hB⟩ := readRes_open ht
  dsimp only at hK hE ⊢
  rw [if_neg hc] at hK hE ⊢
  obtain ⟨_, _, q, rfl, _, _⟩ := Or.resolve_left hE.out (fun h => hc h.1)
  exact ⟨A2, c2, A3, c3, _, rfl, hK, hE, hB⟩

set_option maxHeartbeats 2000000 in
set_option maxRecDepth 100000 in
theorem awake13 {E : Nat → Addr} [AllE E] (w : World) (hs : Sents E w) :
    Calls Tryd.prog 12 #[] w fun e w' => e = .returned (.bool true) ∧ Hid (Below w.heap.size w w') := by
  have HS := Lib.hid hs
  clear hs
  go_enter Tryd.func12, Tryd.ntmps12
  go_wp2_with fail
  refine (Read_ok (E := E) _ _ _ _ (by decide) HS.out read_1).mono ?_
  rintro e w1 ⟨A2, c2, A3, c3, rfl, HK, HB⟩
  dsimp only [List.length]
  obtain ⟨A2', c2', A3', c3', he, _, hC, _, _⟩ := jd_open (n := 31) HK.out
  have hA : A2' = A2 := by injection he with _ he; injection he with _ he; injection he with he _; injection he with he _ _; exact he.symm
  subst hA
  obtain ⟨ad, X2, x2, X3, x3, rfl, _, q0, q1, q2, q3⟩ := jv_at hC 1 (by decide)
  have HQ : Hid (w1.cell? ⟨ad.block, ad.off + 4 + 1, none⟩ = some (.string ⟨#[195, 169]⟩)) := q1
  clear hC he q0 q1 q2 q3 HK
  have H1 : Hid (Row 26 w1.heap.size (leafA 0 ⟨#[]⟩) (w1.alloc (.cells (leafA 0 ⟨#[]⟩) 26))) := Row.new w1 _ _ rfl
  have H1B := Lib.hid ((Below.refl w1.heap.size w1).alloc (Nat.le_refl _) (.cells (leafA 0 ⟨#[]⟩) 26))
  go_wp2_with (first | ((with_reducible refine wpl_put_val (cs := ?_) H1.out rfl ?hx ?hy ?hs ?hz ?_); (case hx => rfl); (case hy => rfl); (case hs => rfl); (case hz => (simp [Value.oneCell']; done)); intro w2 hr2 hw2; have HR2 := Lib.hid hr2; have hb2 := hw2.below H1B.out (Nat.le_refl _); have HQ2 := Lib.hid (cell_below hb2 HQ.out); have HB2 := Lib.hid (below_then HB.out HB.out.size hb2); clear hr2 hw2 hb2))
  have HS2 := Lib.hid (HS.out.below HB2.out)
  refine (Read_no (E := E) _ _ _ _ _ (by decide) HS2.out read_2 (by omega)).mono ?_
  rintro e w3 ⟨Y2, y2, Y3, y3, q, rfl, _, HE, HB3⟩
  have HR3 := Lib.hid (HR2.out.below HB3.out)
  have HQ3 := Lib.hid (cell_below HB3.out HQ2.out)
  have HB4 := Lib.hid (below_then HB2.out HB2.out.size HB3.out)
  have H3 : Hid (Row 26 w3.heap.size (leafA 0 ⟨#[]⟩) (w3.alloc (.cells (leafA 0 ⟨#[]⟩) 26))) := Row.new w3 _ _ rfl
  have H3B := Lib.hid ((Below.refl w3.heap.size w3).alloc (Nat.le_refl _) (.cells (leafA 0 ⟨#[]⟩) 26))
  clear HR2 HQ2 HB2 HB3 HQ H1 H1B HB
  go_wp2_with (first | ((with_reducible refine wpl_put_val (cs := ?_) H3.out rfl ?hx ?hy ?hs ?hz ?_); (case hx => rfl); (case hy => rfl); (case hs => rfl); (case hz => (simp [Value.oneCell']; done)); intro w5 hr5 hw5; have hb5 := hw5.below H3B.out (Nat.le_refl _); have HR5 := Lib.hid (HR3.out.below hb5); have c12 := HR5.out.cell 2 _ rfl; have cq := cell_below hb5 HQ3.out; have HE5 := Lib.hid (HE.out.below hb5); have HB5 := Lib.hid (below_then HB4.out HB4.out.size hb5); clear hr5 hw5 hb5))
  refine (is_any _ 2 1 _ (HS.out.below HB5.out) HE5.out).mono ?_
  rintro e w6 ⟨rfl, hb6⟩
  have HB6 := Lib.hid (below_then HB5.out HB5.out.size hb6)
  clear hb6
  go_wp2_with fail
  go_ret
  exact ⟨rfl, HB6.out⟩

end
end Go.Proofs.YtpdpgppaoipnlaaDoor

