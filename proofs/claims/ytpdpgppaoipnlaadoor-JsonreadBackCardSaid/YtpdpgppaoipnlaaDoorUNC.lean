/- What the claim uses of the text NC. -/
import Derived.Test.YtpdpgppaoipnlaaDoorUNB
import Derived.Test.YtpdpgppaoipnlaaDoorUNA
import Derived.Test.YtpdpgppaoipnlaaDoorUJ4
set_option linter.unusedVariables false
set_option linter.unusedSimpArgs false
namespace Go.Proofs.YtpdpgppaoipnlaaDoor
section
open Go.RowKit Go.PlainAid
open Go.Proofs.YtpdpgppaoipnlaaDoorW.PrintWords hiding bt
open Go.Proofs.YtpdpgppaoipnlaaDoorW.PrintMore

mutual
/-- How many values were looked at, and a fault. -/
def lkV (one : JV → Int → Int) : JV → Int → Int → Int × Int
  | ⟨k, t, l, m⟩, lev, n =>
    if one ⟨k, t, l, m⟩ lev ≠ 0 then (n, one ⟨k, t, l, m⟩ lev)
    else if (lkL one l (lev + 1) (n + 1)).2 ≠ 0 then lkL one l (lev + 1) (n + 1) else lkM one m (lev + 1) (lkL one l (lev + 1) (n + 1)).1
def lkL (one : JV → Int → Int) : List JV → Int → Int → Int × Int
  | [], _, n => (n, 0)
  | x :: l, lev, n => if (lkV one x lev n).2 ≠ 0 then lkV one x lev n else lkL one l lev (lkV one x lev n).1
def lkM (one : JV → Int → Int) : List (ByteArray × JV) → Int → Int → Int × Int
  | [], _, n => (n, 0)
  | (_, x) :: l, lev, n => if (lkV one x lev n).2 ≠ 0 then lkV one x lev n else lkM one l lev (lkV one x lev n).1
end
mutual
theorem lkV_le (one : JV → Int → Int) : ∀ (x : JV) (lev n : Int), n ≤ (lkV one x lev n).1 ∧ (lkV one x lev n).1 ≤ n + totV x
  | ⟨k, t, l, m⟩, lev, n => by
    have h1 := lkL_le one l (lev + 1) (n + 1)
    have h2 := lkM_le one m (lev + 1) (lkL one l (lev + 1) (n + 1)).1
    rw [lkV, totV]
    split
    · simp; omega
    · split
      · omega
      · omega
theorem lkL_le (one : JV → Int → Int) : ∀ (x : List JV) (lev n : Int), n ≤ (lkL one x lev n).1 ∧ (lkL one x lev n).1 ≤ n + totL x
  | [], lev, n => by simp [lkL, totL]
  | x :: l, lev, n => by
    have h1 := lkV_le one x lev n
    have h2 := lkL_le one l lev (lkV one x lev n).1
    rw [lkL, totL]
    split <;> omega
theorem lkM_le (one : JV → Int → Int) : ∀ (x : List (ByteArray × JV)) (lev n : Int), n ≤ (lkM one x lev n).1 ∧ (lkM one x lev n).1 ≤ n + totM x
  | [], lev, n => by simp [lkM, totM]
  | (o, x) :: l, lev, n => by
    have h1 := lkV_le one x lev n
    have h2 := lkM_le one l lev (lkV one x lev n).1
    rw [lkM, totM]
    split <;> omega
end
theorem totL_at : ∀ (l : List JV) (k : Nat), k < l.length → totV (l.getD k jz) ≤ totL l
  | [], k, h => by simp at h
  | x :: l, 0, h => by rw [totL]; simp
  | x :: l, k + 1, h => by
    have := totL_at l k (by simpa using h)
    rw [totL]
    simp only [List.getD_cons_succ]
    omega
theorem totM_at : ∀ (l : List (ByteArray × JV)) (k : Nat), k < l.length → totV (l.getD k (⟨#[]⟩, jz)).2 ≤ totM l
  | [], k, h => by simp at h
  | (o, x) :: l, 0, h => by rw [totM]; simp; omega
  | (o, x) :: l, k + 1, h => by
    have := totM_at l k (by simpa using h)
    rw [totM]
    simp only [List.getD_cons_succ]
    omega
theorem totL_drop : ∀ (l : List JV) (k : Nat), k < l.length → totL (l.drop k) = totV (l.getD k jz) + totL (l.drop (k + 1))
  | [], k, h => by simp at h
  | x :: l, 0, h => by simp [totL]
  | x :: l, k + 1, h => by simpa using totL_drop l k (by simpa using h)
theorem lkL_drop (one : JV → Int → Int) : ∀ (l : List JV) (k : Nat) (lev n : Int), k < l.length → lkL one (l.drop k) lev n = if (lkV one (l.getD k jz) lev n).2 ≠ 0 then lkV one (l.getD k jz) lev n else lkL one (l.drop (k + 1)) lev (lkV one (l.getD k jz) lev n).1
  | [], k, lev, n, h => by simp at h
  | x :: l, 0, lev, n, h => by simp [lkL]
  | x :: l, k + 1, lev, n, h => by simpa using lkL_drop one l k lev n (by simpa using h)
theorem lkM_drop (one : JV → Int → Int) : ∀ (l : List (ByteArray × JV)) (k : Nat) (lev n : Int), k < l.length → lkM one (l.drop k) lev n = if (lkV one (l.getD k (⟨#[]⟩, jz)).2 lev n).2 ≠ 0 then lkV one (l.getD k (⟨#[]⟩, jz)).2 lev n else lkM one (l.drop (k + 1)) lev (lkV one (l.getD k (⟨#[]⟩, jz)).2 lev n).1
  | [], k, lev, n, h => by simp at h
  | (o, x) :: l, 0, lev, n, h => by simp [lkM]
  | (o, x) :: l, k + 1, lev, n, h => by simpa using lkM_drop one l k lev n (by simpa using h)
theorem totM_drop : ∀ (l : List (ByteArray × JV)) (k : Nat), k < l.length → totV (l.getD k (⟨#[]⟩, jz)).2 + totM (l.drop (k + 1)) ≤ totM (l.drop k)
  | [], k, h => by simp at h
  | (o, x) :: l, 0, h => by simp [totM]
  | (o, x) :: l, k + 1, h => by simpa using totM_drop l k (by simpa using h)

/-- The look function's contract. -/
def LookOk (E : Nat → Addr) (F : FuncId) (one : JV → Int → Int) : Prop := ∀ (m : Nat) (y : JV) (ds : List Value) (lev : Int) (W : World), Sents E W → (jd m).K W y ds → totV y ≤ 100000 → 
  Calls Tryd.prog F #[.agg ds.toArray, .int .i64 lev] W (WrongIs E (one y lev) W)
def LkRes (E : Nat → Addr) (wb : Nat) (fv : Value) (r : Int × Int) (w : World) (e : Ending) (w' : World) : Prop :=
  ∃ v, e = .returned v ∧ Hid (ErrV E w' v r.1 r.2) ∧ Hid (Row 89 wb #[.int .i64 r.1, fv] w') ∧ Hid (w.grownBy w' (some wb))
def EachAll (E : Nat → Addr) (F : FuncId) (one : JV → Int → Int) (n : Nat) : Prop := ∀ (x : JV) (cs : List Value) (lev c : Int) (wb : Nat) (w0 w : World), Sents E w0 → (jd n).K w0 x cs → Below w0.heap.size w0 w → w0.heap.size ≤ wb → Row 89 wb #[.int .i64 c, .func (.func F) #[] #[]] w →
    totV x ≤ 100000 → 0 ≤ lev → lev + totV x ≤ 200000 → 0 ≤ c → c + totV x ≤ 200000 →
    Calls Tryd.prog 65 #[.pointer (some ⟨wb, 0, none⟩), .agg cs.toArray, .int .i64 lev] w (LkRes E wb (.func (.func F) #[] #[]) (lkV one x lev c) w)


set_option maxHeartbeats 8000000 in
set_option maxRecDepth 100000 in
theorem each_step_w {E : Nat → Addr} {one : JV → Int → Int} (hone : ∀ y lev, 0 ≤ one y lev ∧ one y lev ≤ 18) (hlook : LookOk E 64 one) (n : Nat) (ih : EachAll E 64 one n) : EachAll E 64 one (n + 1) := by
  intro x cs lev c wb w0 w hs hk hb hwb hr ht hl0 hl1 hc0 hc1
  have HIH := Lib.hid ih
  have HS := Lib.hid hs
  have HKx := Lib.hid hk
  have HB := Lib.hid hb
  have HR := Lib.hid hr
  obtain ⟨A2, c2, A3, c3', rfl, l2, g2, l3, g3⟩ := jd_open hk
  clear ih hs hk hb hr
  change Calls _ _ #[_, .agg #[.int .i64 x.kind, .string x.text, .slice A2 x.list.length c2, .slice A3 x.mem.length c3'], _] _ _
  have hwlt := HR.out.lt
  have HG0 : Hid (w.grownBy (w.alloc (.cells #[.int .i64 x.kind, .string x.text, .slice A2 x.list.length c2, .slice A3 x.mem.length c3'] 26)) (some wb)) := World.grownBy_alloc _ _ _
  have HBx : Hid (Row 26 w.heap.size #[.int .i64 x.kind, .string x.text, .slice A2 x.list.length c2, .slice A3 x.mem.length c3'] (w.alloc (.cells #[.int .i64 x.kind, .string x.text, .slice A2 x.list.length c2, .slice A3 x.mem.length c3'] 26))) := Row.new w _ _ rfl
  have HR0 := Lib.hid (HR.out.old (.cells #[.int .i64 x.kind, .string x.text, .slice A2 x.list.length c2, .slice A3 x.mem.length c3'] 26))
  have HBa : Hid (Below w0.heap.size w0 (w.alloc (.cells #[.int .i64 x.kind, .string x.text, .slice A2 x.list.length c2, .slice A3 x.mem.length c3'] 26))) := HB.out.alloc HB.out.size _
  go_enter Tryd.func65, Tryd.ntmps65
  go_wp2_with fail
  obtain ⟨bx, hbx⟩ : ∃ bx, w.heap.size = bx := ⟨_, rfl⟩
  rw [hbx] at HBx hwlt ⊢
  generalize w.alloc (.cells #[.int .i64 x.kind, .string x.text, .slice A2 x.list.length c2, .slice A3 x.mem.length c3'] 26) = wa at *
  have r0 := HR0.out.cell 0 _ rfl
  have r1 := HR0.out.cell 1 _ rfl
  have b0 := HBx.out.cell 0 _ rfl
  have b1 := HBx.out.cell 1 _ rfl
  have b2 := HBx.out.cell 2 _ rfl
  have b3 := HBx.out.cell 3 _ rfl
  have HCL : Hid (Calls Tryd.prog 64 #[.agg #[.int .i64 x.kind, .string x.text, .slice A2 x.list.length c2, .slice A3 x.mem.length c3'], .int .i64 lev] wa.drew (WrongIs E (one x lev) wa.drew)) :=
    hlook (n + 1) x _ lev wa.drew (HS.out.below (below_drew HBa.out)) ((jd (n + 1)).K_below (below_drew HBa.out) HKx.out) ht
  go_still_tail 6, (by kernel_rfl)
  change wpList _ _ _ _ _ wa.drew
  go_wp2_with fail
  refine HCL.out.mono ?_
  rintro e w1 ⟨rfl, hb1⟩
  have HR1 := Lib.hid (Row.below (w := wa.drew) HR0.out hb1.out)
  have HBx1 := Lib.hid (Row.below (w := wa.drew) HBx.out hb1.out)
  have HG1 : Hid (w.grownBy w1 (some wb)) := grown_base HG0.out (below_less ((below_drew (Below.refl wa.heap.size wa)).trans hb1.out) HG0.out.size)
  have HB1 : Hid (Below w0.heap.size w0 w1) := below_then (below_drew HBa.out) (below_drew HBa.out).size hb1.out
  clear HCL hb1 r0 r1 b0 b1 b2 b3
  have r0 := HR1.out.cell 0 _ rfl
  have b2 := HBx1.out.cell 2 _ rfl
  have f0 := HR1.out.frozen 0
  by_cases hz : one x lev = 0
  · have HLK : Hid (lkV one x lev c = if (lkL one x.list (lev + 1) (c + 1)).2 ≠ 0 then lkL one x.list (lev + 1) (c + 1) else lkM one x.mem (lev + 1) (lkL one x.list (lev + 1) (c + 1)).1) := by
      show _ = _
      cases x
      rw [lkV, if_neg (by rw [hz]; simp)]
    rw [hz, named_0]
    clear hz
    have HR2 := Lib.hid (HR1.out.setCell 0 (.int .i64 (c + 1)))
    have HR2' : Hid (Row 89 wb #[.int .i64 (c + 1), .func (.func 64) #[] #[]] (w1.setCell ⟨wb, 0, none⟩ (.int .i64 (c + 1)))) := HR2.out
    have HBx2 : Hid (Row 26 bx #[.int .i64 x.kind, .string x.text, .slice A2 x.list.length c2, .slice A3 x.mem.length c3'] (w1.setCell ⟨wb, 0, none⟩ (.int .i64 (c + 1)))) := HBx1.out.far (by omega) _
    have HB2 : Hid (Below w0.heap.size w0 (w1.setCell ⟨wb, 0, none⟩ (.int .i64 (c + 1)))) := HB1.out.setCell hwb _
    have HG2w : Hid (w.grownBy (w1.setCell ⟨wb, 0, none⟩ (.int .i64 (c + 1))) (some wb)) := grown_cell HG1.out _ _
    have HNE : Hid (wb < bx) := hwlt
    have G2 := Lib.hid g2
    have G3 := Lib.hid g3
    have s2 : x.list.length ≤ 9223372036854775807 := g2.2.1
    have s3 : x.mem.length ≤ 9223372036854775807 := g3.2.1
    have htv : totV x = 1 + x.text.size + totL x.list + totM x.mem := by cases x; rw [totV]
    have HTX : Hid (c + 1 + (totL x.list + totM x.mem) ≤ 200000 ∧ totL x.list + totM x.mem + lev + 1 ≤ 200000 ∧ totL x.list + totM x.mem ≤ 100000 ∧ 0 ≤ c + 1) := by show _ ∧ _; omega
    clear g2 g3 htv
    go_wp2_with fail
    clear r0 b2 f0 HR2 HR1 HBx1 HG1 HB1
    have HR2 := HR2'
    clear HR2'
    generalize w1.setCell ⟨wb, 0, none⟩ (.int .i64 (c + 1)) = w2 at *
    go_loopg [41] x.list.length (fun g v41 wi => ∃ (k : Nat) (ck : Int), v41 = .int .i64 k ∧ Hid (k + g = x.list.length) ∧ Hid (Row 89 wb #[.int .i64 ck, .func (.func 64) #[] #[]] wi) ∧ Hid (w2.grownBy wi (some wb)) ∧ Hid (lkL one (x.list.drop k) (lev + 1) ck = lkL one x.list (lev + 1) (c + 1)) ∧ Hid (0 ≤ ck ∧ ck + totL (x.list.drop k) ≤ (c + 1) + totL x.list))
    case atStart => exact ⟨0, (c + 1), rfl, by show _ = _; omega, HR2, grown_below (Below.refl _ _) _, by show _ = _; simp, by have := HTX.out; show _ ∧ _; simp; omega⟩
    case round =>
      obtain ⟨k, ck, rfl, HKg, HRi, HGi, HDi, HCi⟩ := hrel
      by_cases hlt : k < x.list.length
      · have hd := HDi.out
        rw [lkL_drop one _ _ _ _ hlt] at hd
        have htd := totL_drop x.list k hlt
        have hta := totL_at x.list k hlt
        obtain ⟨ad, X2, x2, X3, x3, rfl, hKa, q0, q1, q2, q3⟩ := jv_at G2.out k hlt
        have HBi : Hid (Below w0.heap.size w0 wr) := HB2.out.grown HGi.out HB2.out.size (fun j hj => by injection hj with hj; omega)
        replace q0 := cell_under HBi.out q0
        replace q1 := cell_under HBi.out q1
        replace q2 := cell_under HBi.out q2
        replace q3 := cell_under HBi.out q3
        have k0 : (0 : Int) ≤ (k : Int) := by omega
        have k1 : (k : Int) < (x.list.length : Int) := by omega
        have k3 : decide (k < x.list.length) = true := by simpa using hlt
        obtain ⟨g1, rfl⟩ : ∃ g1, gk = g1 + 1 := ⟨gk - 1, by have := HKg.out; omega⟩
        have HKa := Lib.hid hKa
        clear hKa
        generalize x.list.getD k jz = ya at *
        have hci := HCi.out
        have htx := HTX.out
        have HCall := Lib.hid (HIH.out ya _ (lev + 1) ck wb w0 (wr.alloc (.cells #[.int .i64 ya.kind, .string ya.text, .slice X2 ya.list.length x2, .slice X3 ya.mem.length x3] 26)) HS.out HKa.out (HBi.out.alloc HBi.out.size _) hwb (HRi.out.old _) (by omega) (by omega) (by omega) hci.1 (by omega))
        have HGa : Hid (w2.grownBy (wr.alloc (.cells #[.int .i64 ya.kind, .string ya.text, .slice X2 ya.list.length x2, .slice X3 ya.mem.length x3] 26)) (some wb)) := HGi.out.trans (World.grownBy_alloc _ _ _)
        have hle := lkV_le one ya (lev + 1) ck
        obtain ⟨ra, rb, hrr⟩ : ∃ ra rb, lkV one ya (lev + 1) ck = (ra, rb) := ⟨_, _, rfl⟩
        rw [hrr] at HCall hd hle
        dsimp only at hd hle
        have HLe := Lib.hid hle
        have HTd := Lib.hid htd
        have hl2 : lev + 1 ≤ 300000 := by omega
        clear hci htx hrr hle htd hta HBi HRi HDi
        by_cases hrb : rb = 0
        · rw [if_neg (by simpa using hrb)] at hd
          have HD' := Lib.hid hd
          clear hd
          go_wp2_with fail
          refine HCall.out.mono ?_
          rintro e w5 ⟨v, rfl, HE5, HR5, HG5⟩
          obtain ⟨_, rfl⟩ := Or.resolve_right HE5.out (fun h => absurd h.1 (show ¬ (1 ≤ rb) by omega))
          clear HE5
          go_wp2_with fail
          go_roundg g1
          case measure => omega
          case rel => exact ⟨k + 1, ra, by go_num, by have := HKg.out; show _ = _; omega, HR5, World.grownBy.trans HGa.out HG5.out, HD', by have h1 := HCi.out; have h2 := HLe.out; have h3 := HTd.out; show _ ∧ _; omega⟩
        · rw [if_pos (by simpa using hrb)] at hd
          have HD' := Lib.hid hd
          clear hd
          go_wp2_with fail
          refine HCall.out.mono ?_
          rintro e w5 ⟨v, rfl, HE5, HR5, HG5⟩
          obtain ⟨e1, e2, q5, rfl, e3, e4⟩ := Or.resolve_left HE5.out (fun h => hrb h.1)
          have HRB := Lib.hid hrb
          clear hrb e1 e2 e3 e4
          go_wp2_with fail
          go_ret
          rw [HLK.out, ← HD'.out, if_pos (by simpa using HRB.out)]
          exact ⟨_, rfl, HE5, HR5, World.grownBy.trans HG2w.out (World.grownBy.trans HGa.out HG5.out)⟩
      · obtain rfl : k = x.list.length := by have := HKg.out; omega
        have k3 : decide (x.list.length < x.list.length) = false := by simp
        have hd := HDi.out
        rw [List.drop_length, lkL] at hd
        have HLK3 : Hid (lkV one x lev c = lkM one x.mem (lev + 1) ck) := by show _ = _; rw [HLK.out, ← hd, if_neg (by simp)]
        have HC3 : Hid (0 ≤ ck ∧ ck ≤ c + 1 + totL x.list) := by have := HCi.out; show _ ∧ _; omega
        have HBx3 := Lib.hid (HBx2.out.kept HGi.out (by have := HNE.out; simp; omega))
        have HB3 : Hid (Below w0.heap.size w0 wr) := HB2.out.grown HGi.out HB2.out.size (fun j hj => by injection hj with hj; omega)
        have HG3w : Hid (w.grownBy wr (some wb)) := World.grownBy.trans HG2w.out HGi.out
        have b3 := HBx3.out.cell 3 _ rfl
        have HR3 := HRi
        clear hd hlt HLK HDi HCi HKg HR2 HBx2 HB2 HG2w HRi HGi
        go_wp2_with fail
        clear b3
        generalize hw3 : wr = w3 at *
        generalize hc3 : ck = c3 at *
        have HTX : Hid (c3 + totM x.mem ≤ 200000 ∧ totM x.mem + lev + 1 ≤ 200000 ∧ totM x.mem ≤ 100000 ∧ 0 ≤ c3) := by have h1 := HC3.out; have h2 := HTX.out; show _ ∧ _; omega
        go_loopg [57] x.mem.length (fun g v57 wi => ∃ (k : Nat) (ck : Int), v57 = .int .i64 k ∧ Hid (k + g = x.mem.length) ∧ Hid (Row 89 wb #[.int .i64 ck, .func (.func 64) #[] #[]] wi) ∧ Hid (w3.grownBy wi (some wb)) ∧ Hid (lkM one (x.mem.drop k) (lev + 1) ck = lkM one x.mem (lev + 1) c3) ∧ Hid (0 ≤ ck ∧ ck + totM (x.mem.drop k) ≤ c3 + totM x.mem))
        case atStart => exact ⟨0, c3, rfl, by show _ = _; omega, HR3, grown_below (Below.refl _ _) _, by show _ = _; simp, by have := HTX.out; show _ ∧ _; simp; omega⟩
        case round =>
          obtain ⟨k, ck, rfl, HKg, HRi, HGi, HDi, HCi⟩ := hrel
          by_cases hlt : k < x.mem.length
          · have hd := HDi.out
            rw [lkM_drop one _ _ _ _ hlt] at hd
            have htd := totM_drop x.mem k hlt
            have hta := totM_at x.mem k hlt
            obtain ⟨ad, X2, x2, X3, x3, rfl, hKa, qn, q0, q1, q2, q3⟩ := jm_at G3.out k hlt
            have HBi : Hid (Below w0.heap.size w0 wr) := HB3.out.grown HGi.out HB3.out.size (fun j hj => by injection hj with hj; omega)
            replace qn := cell_under HBi.out qn
            replace q0 := cell_under HBi.out q0
            replace q1 := cell_under HBi.out q1
            replace q2 := cell_under HBi.out q2
            replace q3 := cell_under HBi.out q3
            have k0 : (0 : Int) ≤ (k : Int) := by omega
            have k1 : (k : Int) < (x.mem.length : Int) := by omega
            have k3 : decide (k < x.mem.length) = true := by simpa using hlt
            obtain ⟨g1, rfl⟩ : ∃ g1, gk = g1 + 1 := ⟨gk - 1, by have := HKg.out; omega⟩
            have HKa := Lib.hid hKa
            clear hKa
            generalize x.mem.getD k (⟨#[]⟩, jz) = ea at *
            obtain ⟨nm, ya⟩ := ea
            dsimp only at qn q0 q1 q2 q3 HKa hd htd hta
            have hci := HCi.out
            have htx := HTX.out
            have HCall := Lib.hid (HIH.out ya _ (lev + 1) ck wb w0 (wr.alloc (.cells #[.string nm, .int .i64 ya.kind, .string ya.text, .slice X2 ya.list.length x2, .slice X3 ya.mem.length x3] 50)) HS.out HKa.out (HBi.out.alloc HBi.out.size _) hwb (HRi.out.old _) (by omega) (by omega) (by omega) hci.1 (by omega))
            have HGa : Hid (w3.grownBy (wr.alloc (.cells #[.string nm, .int .i64 ya.kind, .string ya.text, .slice X2 ya.list.length x2, .slice X3 ya.mem.length x3] 50)) (some wb)) := HGi.out.trans (World.grownBy_alloc _ _ _)
            have hle := lkV_le one ya (lev + 1) ck
            obtain ⟨ra, rb, hrr⟩ : ∃ ra rb, lkV one ya (lev + 1) ck = (ra, rb) := ⟨_, _, rfl⟩
            rw [hrr] at HCall hd hle
            dsimp only at hd hle
            have HLe := Lib.hid hle
            have HTd := Lib.hid htd
            have hl2 : lev + 1 ≤ 300000 := by omega
            clear hci htx hrr hle htd hta HBi HRi HDi
            by_cases hrb : rb = 0
            · rw [if_neg (by simpa using hrb)] at hd
              have HD' := Lib.hid hd
              clear hd
              go_wp2_with fail
              refine HCall.out.mono ?_
              rintro e w5 ⟨v, rfl, HE5, HR5, HG5⟩
              obtain ⟨_, rfl⟩ := Or.resolve_right HE5.out (fun h => absurd h.1 (show ¬ (1 ≤ rb) by omega))
              clear HE5
              go_wp2_with fail
              go_roundg g1
              case measure => omega
              case rel => exact ⟨k + 1, ra, by go_num, by have := HKg.out; show _ = _; omega, HR5, World.grownBy.trans HGa.out HG5.out, HD', by have h1 := HCi.out; have h2 := HLe.out; have h3 := HTd.out; show _ ∧ _; omega⟩
            · rw [if_pos (by simpa using hrb)] at hd
              have HD' := Lib.hid hd
              clear hd
              go_wp2_with fail
              refine HCall.out.mono ?_
              rintro e w5 ⟨v, rfl, HE5, HR5, HG5⟩
              obtain ⟨e1, e2, q5, rfl, e3, e4⟩ := Or.resolve_left HE5.out (fun h => hrb h.1)
              have HRB := Lib.hid hrb
              clear hrb e1 e2 e3 e4
              go_wp2_with fail
              go_ret
              rw [HLK3.out, ← HD'.out]
              exact ⟨_, rfl, HE5, HR5, World.grownBy.trans HG3w.out (World.grownBy.trans HGa.out HG5.out)⟩
          · obtain rfl : k = x.mem.length := by have := HKg.out; omega
            have k3 : decide (x.mem.length < x.mem.length) = false := by simp
            have hd := HDi.out
            rw [List.drop_length, lkM] at hd
            have HLK4 : Hid (lkV one x lev c = (ck, 0)) := by show _ = _; rw [HLK3.out, ← hd]
            clear hd hlt HDi HKg
            go_wp2_with fail
            go_ret
            rw [HLK4.out]
            exact ⟨_, rfl, Or.inl ⟨rfl, rfl⟩, HRi, World.grownBy.trans HG3w.out HGi.out⟩
  · obtain ⟨kk, hkk⟩ : ∃ kk : Nat, one x lev = kk := ⟨(one x lev).toNat, by have := (hone x lev).1; omega⟩
    have hk1 : 1 ≤ kk := by omega
    have hk18 : kk ≤ 18 := by have := (hone x lev).2; omega
    have HLK : Hid (lkV one x lev c = (c, one x lev)) := by
      show _ = _
      cases x
      rw [lkV, if_pos hz]
    rw [hkk, named_k E kk (by omega)]
    rw [hkk] at HLK
    clear hz
    go_wp2_with fail
    go_ret
    rw [HLK.out]
    exact ⟨_, rfl, ErrV.new rfl hk1 hk18, HR1.out.old _, HG1.out.trans (World.grownBy_alloc _ _ _)⟩

set_option maxHeartbeats 8000000 in
set_option maxRecDepth 100000 in
theorem each_step_s {E : Nat → Addr} {one : JV → Int → Int} (hone : ∀ y lev, 0 ≤ one y lev ∧ one y lev ≤ 18) (hlook : LookOk E 76 one) (n : Nat) (ih : EachAll E 76 one n) : EachAll E 76 one (n + 1) := by
  intro x cs lev c wb w0 w hs hk hb hwb hr ht hl0 hl1 hc0 hc1
  have HIH := Lib.hid ih
  have HS := Lib.hid hs
  have HKx := Lib.hid hk
  have HB := Lib.hid hb
  have HR := Lib.hid hr
  obtain ⟨A2, c2, A3, c3', rfl, l2, g2, l3, g3⟩ := jd_open hk
  clear ih hs hk hb hr
  change Calls _ _ #[_, .agg #[.int .i64 x.kind, .string x.text, .slice A2 x.list.length c2, .slice A3 x.mem.length c3'], _] _ _
  have hwlt := HR.out.lt
  have HG0 : Hid (w.grownBy (w.alloc (.cells #[.int .i64 x.kind, .string x.text, .slice A2 x.list.length c2, .slice A3 x.mem.length c3'] 26)) (some wb)) := World.grownBy_alloc _ _ _
  have HBx : Hid (Row 26 w.heap.size #[.int .i64 x.kind, .string x.text, .slice A2 x.list.length c2, .slice A3 x.mem.length c3'] (w.alloc (.cells #[.int .i64 x.kind, .string x.text, .slice A2 x.list.length c2, .slice A3 x.mem.length c3'] 26))) := Row.new w _ _ rfl
  have HR0 := Lib.hid (HR.out.old (.cells #[.int .i64 x.kind, .string x.text, .slice A2 x.list.length c2, .slice A3 x.mem.length c3'] 26))
  have HBa : Hid (Below w0.heap.size w0 (w.alloc (.cells #[.int .i64 x.kind, .string x.text, .slice A2 x.list.length c2, .slice A3 x.mem.length c3'] 26))) := HB.out.alloc HB.out.size _
  go_enter Tryd.func65, Tryd.ntmps65
  go_wp2_with fail
  obtain ⟨bx, hbx⟩ : ∃ bx, w.heap.size = bx := ⟨_, rfl⟩
  rw [hbx] at HBx hwlt ⊢
  generalize w.alloc (.cells #[.int .i64 x.kind, .string x.text, .slice A2 x.list.length c2, .slice A3 x.mem.length c3'] 26) = wa at *
  have r0 := HR0.out.cell 0 _ rfl
  have r1 := HR0.out.cell 1 _ rfl
  have b0 := HBx.out.cell 0 _ rfl
  have b1 := HBx.out.cell 1 _ rfl
  have b2 := HBx.out.cell 2 _ rfl
  have b3 := HBx.out.cell 3 _ rfl
  have HCL : Hid (Calls Tryd.prog 76 #[.agg #[.int .i64 x.kind, .string x.text, .slice A2 x.list.length c2, .slice A3 x.mem.length c3'], .int .i64 lev] wa.drew (WrongIs E (one x lev) wa.drew)) :=
    hlook (n + 1) x _ lev wa.drew (HS.out.below (below_drew HBa.out)) ((jd (n + 1)).K_below (below_drew HBa.out) HKx.out) ht
  go_still_tail 6, (by kernel_rfl)
  change wpList _ _ _ _ _ wa.drew
  go_wp2_with fail
  refine HCL.out.mono ?_
  rintro e w1 ⟨rfl, hb1⟩
  have HR1 := Lib.hid (Row.below (w := wa.drew) HR0.out hb1.out)
  have HBx1 := Lib.hid (Row.below (w := wa.drew) HBx.out hb1.out)
  have HG1 : Hid (w.grownBy w1 (some wb)) := grown_base HG0.out (below_less ((below_drew (Below.refl wa.heap.size wa)).trans hb1.out) HG0.out.size)
  have HB1 : Hid (Below w0.heap.size w0 w1) := below_then (below_drew HBa.out) (below_drew HBa.out).size hb1.out
  clear HCL hb1 r0 r1 b0 b1 b2 b3
  have r0 := HR1.out.cell 0 _ rfl
  have b2 := HBx1.out.cell 2 _ rfl
  have f0 := HR1.out.frozen 0
  by_cases hz : one x lev = 0
  · have HLK : Hid (lkV one x lev c = if (lkL one x.list (lev + 1) (c + 1)).2 ≠ 0 then lkL one x.list (lev + 1) (c + 1) else lkM one x.mem (lev + 1) (lkL one x.list (lev + 1) (c + 1)).1) := by
      show _ = _
      cases x
      rw [lkV, if_neg (by rw [hz]; simp)]
    rw [hz, named_0]
    clear hz
    have HR2 := Lib.hid (HR1.out.setCell 0 (.int .i64 (c + 1)))
    have HR2' : Hid (Row 89 wb #[.int .i64 (c + 1), .func (.func 76) #[] #[]] (w1.setCell ⟨wb, 0, none⟩ (.int .i64 (c + 1)))) := HR2.out
    have HBx2 : Hid (Row 26 bx #[.int .i64 x.kind, .string x.text, .slice A2 x.list.length c2, .slice A3 x.mem.length c3'] (w1.setCell ⟨wb, 0, none⟩ (.int .i64 (c + 1)))) := HBx1.out.far (by omega) _
    have HB2 : Hid (Below w0.heap.size w0 (w1.setCell ⟨wb, 0, none⟩ (.int .i64 (c + 1)))) := HB1.out.setCell hwb _
    have HG2w : Hid (w.grownBy (w1.setCell ⟨wb, 0, none⟩ (.int .i64 (c + 1))) (some wb)) := grown_cell HG1.out _ _
    have HNE : Hid (wb < bx) := hwlt
    have G2 := Lib.hid g2
    have G3 := Lib.hid g3
    have s2 : x.list.length ≤ 9223372036854775807 := g2.2.1
    have s3 : x.mem.length ≤ 9223372036854775807 := g3.2.1
    have htv : totV x = 1 + x.text.size + totL x.list + totM x.mem := by cases x; rw [totV]
    have HTX : Hid (c + 1 + (totL x.list + totM x.mem) ≤ 200000 ∧ totL x.list + totM x.mem + lev + 1 ≤ 200000 ∧ totL x.list + totM x.mem ≤ 100000 ∧ 0 ≤ c + 1) := by show _ ∧ _; omega
    clear g2 g3 htv
    go_wp2_with fail
    clear r0 b2 f0 HR2 HR1 HBx1 HG1 HB1
    have HR2 := HR2'
    clear HR2'
    generalize w1.setCell ⟨wb, 0, none⟩ (.int .i64 (c + 1)) = w2 at *
    go_loopg [41] x.list.length (fun g v41 wi => ∃ (k : Nat) (ck : Int), v41 = .int .i64 k ∧ Hid (k + g = x.list.length) ∧ Hid (Row 89 wb #[.int .i64 ck, .func (.func 76) #[] #[]] wi) ∧ Hid (w2.grownBy wi (some wb)) ∧ Hid (lkL one (x.list.drop k) (lev + 1) ck = lkL one x.list (lev + 1) (c + 1)) ∧ Hid (0 ≤ ck ∧ ck + totL (x.list.drop k) ≤ (c + 1) + totL x.list))
    case atStart => exact ⟨0, (c + 1), rfl, by show _ = _; omega, HR2, grown_below (Below.refl _ _) _, by show _ = _; simp, by have := HTX.out; show _ ∧ _; simp; omega⟩
    case round =>
      obtain ⟨k, ck, rfl, HKg, HRi, HGi, HDi, HCi⟩ := hrel
      by_cases hlt : k < x.list.length
      · have hd := HDi.out
        rw [lkL_drop one _ _ _ _ hlt] at hd
        have htd := totL_drop x.list k hlt
        have hta := totL_at x.list k hlt
        obtain ⟨ad, X2, x2, X3, x3, rfl, hKa, q0, q1, q2, q3⟩ := jv_at G2.out k hlt
        have HBi : Hid (Below w0.heap.size w0 wr) := HB2.out.grown HGi.out HB2.out.size (fun j hj => by injection hj with hj; omega)
        replace q0 := cell_under HBi.out q0
        replace q1 := cell_under HBi.out q1
        replace q2 := cell_under HBi.out q2
        replace q3 := cell_under HBi.out q3
        have k0 : (0 : Int) ≤ (k : Int) := by omega
        have k1 : (k : Int) < (x.list.length : Int) := by omega
        have k3 : decide (k < x.list.length) = true := by simpa using hlt
        obtain ⟨g1, rfl⟩ : ∃ g1, gk = g1 + 1 := ⟨gk - 1, by have := HKg.out; omega⟩
        have HKa := Lib.hid hKa
        clear hKa
        generalize x.list.getD k jz = ya at *
        have hci := HCi.out
        have htx := HTX.out
        have HCall := Lib.hid (HIH.out ya _ (lev + 1) ck wb w0 (wr.alloc (.cells #[.int .i64 ya.kind, .string ya.text, .slice X2 ya.list.length x2, .slice X3 ya.mem.length x3] 26)) HS.out HKa.out (HBi.out.alloc HBi.out.size _) hwb (HRi.out.old _) (by omega) (by omega) (by omega) hci.1 (by omega))
        have HGa : Hid (w2.grownBy (wr.alloc (.cells #[.int .i64 ya.kind, .string ya.text, .slice X2 ya.list.length x2, .slice X3 ya.mem.length x3] 26)) (some wb)) := HGi.out.trans (World.grownBy_alloc _ _ _)
        have hle := lkV_le one ya (lev + 1) ck
        obtain ⟨ra, rb, hrr⟩ : ∃ ra rb, lkV one ya (lev + 1) ck = (ra, rb) := ⟨_, _, rfl⟩
        rw [hrr] at HCall hd hle
        dsimp only at hd hle
        have HLe := Lib.hid hle
        have HTd := Lib.hid htd
        have hl2 : lev + 1 ≤ 300000 := by omega
        clear hci htx hrr hle htd hta HBi HRi HDi
        by_cases hrb : rb = 0
        · rw [if_neg (by simpa using hrb)] at hd
          have HD' := Lib.hid hd
          clear hd
          go_wp2_with fail
          refine HCall.out.mono ?_
          rintro e w5 ⟨v, rfl, HE5, HR5, HG5⟩
          obtain ⟨_, rfl⟩ := Or.resolve_right HE5.out (fun h => absurd h.1 (show ¬ (1 ≤ rb) by omega))
          clear HE5
          go_wp2_with fail
          go_roundg g1
          case measure => omega
          case rel => exact ⟨k + 1, ra, by go_num, by have := HKg.out; show _ = _; omega, HR5, World.grownBy.trans HGa.out HG5.out, HD', by have h1 := HCi.out; have h2 := HLe.out; have h3 := HTd.out; show _ ∧ _; omega⟩
        · rw [if_pos (by simpa using hrb)] at hd
          have HD' := Lib.hid hd
          clear hd
          go_wp2_with fail
          refine HCall.out.mono ?_
          rintro e w5 ⟨v, rfl, HE5, HR5, HG5⟩
          obtain ⟨e1, e2, q5, rfl, e3, e4⟩ := Or.resolve_left HE5.out (fun h => hrb h.1)
          have HRB := Lib.hid hrb
          clear hrb e1 e2 e3 e4
          go_wp2_with fail
          go_ret
          rw [HLK.out, ← HD'.out, if_pos (by simpa using HRB.out)]
          exact ⟨_, rfl, HE5, HR5, World.grownBy.trans HG2w.out (World.grownBy.trans HGa.out HG5.out)⟩
      · obtain rfl : k = x.list.length := by have := HKg.out; omega
        have k3 : decide (x.list.length < x.list.length) = false := by simp
        have hd := HDi.out
        rw [List.drop_length, lkL] at hd
        have HLK3 : Hid (lkV one x lev c = lkM one x.mem (lev + 1) ck) := by show _ = _; rw [HLK.out, ← hd, if_neg (by simp)]
        have HC3 : Hid (0 ≤ ck ∧ ck ≤ c + 1 + totL x.list) := by have := HCi.out; show _ ∧ _; omega
        have HBx3 := Lib.hid (HBx2.out.kept HGi.out (by have := HNE.out; simp; omega))
        have HB3 : Hid (Below w0.heap.size w0 wr) := HB2.out.grown HGi.out HB2.out.size (fun j hj => by injection hj with hj; omega)
        have HG3w : Hid (w.grownBy wr (some wb)) := World.grownBy.trans HG2w.out HGi.out
        have b3 := HBx3.out.cell 3 _ rfl
        have HR3 := HRi
        clear hd hlt HLK HDi HCi HKg HR2 HBx2 HB2 HG2w HRi HGi
        go_wp2_with fail
        clear b3
        generalize hw3 : wr = w3 at *
        generalize hc3 : ck = c3 at *
        have HTX : Hid (c3 + totM x.mem ≤ 200000 ∧ totM x.mem + lev + 1 ≤ 200000 ∧ totM x.mem ≤ 100000 ∧ 0 ≤ c3) := by have h1 := HC3.out; have h2 := HTX.out; show _ ∧ _; omega
        go_loopg [57] x.mem.length (fun g v57 wi => ∃ (k : Nat) (ck : Int), v57 = .int .i64 k ∧ Hid (k + g = x.mem.length) ∧ Hid (Row 89 wb #[.int .i64 ck, .func (.func 76) #[] #[]] wi) ∧ Hid (w3.grownBy wi (some wb)) ∧ Hid (lkM one (x.mem.drop k) (lev + 1) ck = lkM one x.mem (lev + 1) c3) ∧ Hid (0 ≤ ck ∧ ck + totM (x.mem.drop k) ≤ c3 + totM x.mem))
        case atStart => exact ⟨0, c3, rfl, by show _ = _; omega, HR3, grown_below (Below.refl _ _) _, by show _ = _; simp, by have := HTX.out; show _ ∧ _; simp; omega⟩
        case round =>
          obtain ⟨k, ck, rfl, HKg, HRi, HGi, HDi, HCi⟩ := hrel
          by_cases hlt : k < x.mem.length
          · have hd := HDi.out
            rw [lkM_drop one _ _ _ _ hlt] at hd
            have htd := totM_drop x.mem k hlt
            have hta := totM_at x.mem k hlt
            obtain ⟨ad, X2, x2, X3, x3, rfl, hKa, qn, q0, q1, q2, q3⟩ := jm_at G3.out k hlt
            have HBi : Hid (Below w0.heap.size w0 wr) := HB3.out.grown HGi.out HB3.out.size (fun j hj => by injection hj with hj; omega)
            replace qn := cell_under HBi.out qn
            replace q0 := cell_under HBi.out q0
            replace q1 := cell_under HBi.out q1
            replace q2 := cell_under HBi.out q2
            replace q3 := cell_under HBi.out q3
            have k0 : (0 : Int) ≤ (k : Int) := by omega
            have k1 : (k : Int) < (x.mem.length : Int) := by omega
            have k3 : decide (k < x.mem.length) = true := by simpa using hlt
            obtain ⟨g1, rfl⟩ : ∃ g1, gk = g1 + 1 := ⟨gk - 1, by have := HKg.out; omega⟩
            have HKa := Lib.hid hKa
            clear hKa
            generalize x.mem.getD k (⟨#[]⟩, jz) = ea at *
            obtain ⟨nm, ya⟩ := ea
            dsimp only at qn q0 q1 q2 q3 HKa hd htd hta
            have hci := HCi.out
            have htx := HTX.out
            have HCall := Lib.hid (HIH.out ya _ (lev + 1) ck wb w0 (wr.alloc (.cells #[.string nm, .int .i64 ya.kind, .string ya.text, .slice X2 ya.list.length x2, .slice X3 ya.mem.length x3] 50)) HS.out HKa.out (HBi.out.alloc HBi.out.size _) hwb (HRi.out.old _) (by omega) (by omega) (by omega) hci.1 (by omega))
            have HGa : Hid (w3.grownBy (wr.alloc (.cells #[.string nm, .int .i64 ya.kind, .string ya.text, .slice X2 ya.list.length x2, .slice X3 ya.mem.length x3] 50)) (some wb)) := HGi.out.trans (World.grownBy_alloc _ _ _)
            have hle := lkV_le one ya (lev + 1) ck
            obtain ⟨ra, rb, hrr⟩ : ∃ ra rb, lkV one ya (lev + 1) ck = (ra, rb) := ⟨_, _, rfl⟩
            rw [hrr] at HCall hd hle
            dsimp only at hd hle
            have HLe := Lib.hid hle
            have HTd := Lib.hid htd
            have hl2 : lev + 1 ≤ 300000 := by omega
            clear hci htx hrr hle htd hta HBi HRi HDi
            by_cases hrb : rb = 0
            · rw [if_neg (by simpa using hrb)] at hd
              have HD' := Lib.hid hd
              clear hd
              go_wp2_with fail
              refine HCall.out.mono ?_
              rintro e w5 ⟨v, rfl, HE5, HR5, HG5⟩
              obtain ⟨_, rfl⟩ := Or.resolve_right HE5.out (fun h => absurd h.1 (show ¬ (1 ≤ rb) by omega))
              clear HE5
              go_wp2_with fail
              go_roundg g1
              case measure => omega
              case rel => exact ⟨k + 1, ra, by go_num, by have := HKg.out; show _ = _; omega, HR5, World.grownBy.trans HGa.out HG5.out, HD', by have h1 := HCi.out; have h2 := HLe.out; have h3 := HTd.out; show _ ∧ _; omega⟩
            · rw [if_pos (by simpa using hrb)] at hd
              have HD' := Lib.hid hd
              clear hd
              go_wp2_with fail
              refine HCall.out.mono ?_
              rintro e w5 ⟨v, rfl, HE5, HR5, HG5⟩
              obtain ⟨e1, e2, q5, rfl, e3, e4⟩ := Or.resolve_left HE5.out (fun h => hrb h.1)
              have HRB := Lib.hid hrb
              clear hrb e1 e2 e3 e4
              go_wp2_with fail
              go_ret
              rw [HLK3.out, ← HD'.out]
              exact ⟨_, rfl, HE5, HR5, World.grownBy.trans HG3w.out (World.grownBy.trans HGa.out HG5.out)⟩
          · obtain rfl : k = x.mem.length := by have := HKg.out; omega
            have k3 : decide (x.mem.length < x.mem.length) = false := by simp
            have hd := HDi.out
            rw [List.drop_length, lkM] at hd
            have HLK4 : Hid (lkV one x lev c = (ck, 0)) := by show _ = _; rw [HLK3.out, ← hd]
            clear hd hlt HDi HKg
            go_wp2_with fail
            go_ret
            rw [HLK4.out]
            exact ⟨_, rfl, Or.inl ⟨rfl, rfl⟩, HRi, World.grownBy.trans HG3w.out HGi.out⟩
  · obtain ⟨kk, hkk⟩ : ∃ kk : Nat, one x lev = kk := ⟨(one x lev).toNat, by have := (hone x lev).1; omega⟩
    have hk1 : 1 ≤ kk := by omega
    have hk18 : kk ≤ 18 := by have := (hone x lev).2; omega
    have HLK : Hid (lkV one x lev c = (c, one x lev)) := by
      show _ = _
      cases x
      rw [lkV, if_pos hz]
    rw [hkk, named_k E kk (by omega)]
    rw [hkk] at HLK
    clear hz
    go_wp2_with fail
    go_ret
    rw [HLK.out]
    exact ⟨_, rfl, ErrV.new rfl hk1 hk18, HR1.out.old _, HG1.out.trans (World.grownBy_alloc _ _ _)⟩

end

section
open Go.RowKit Go.PlainAid
open Go.Proofs.YtpdpgppaoipnlaaDoorW.PrintWords hiding bt
open Go.Proofs.YtpdpgppaoipnlaaDoorW.PrintMore

theorem oneN_range (y : JV) (lev : Int) : 0 ≤ oneN y lev ∧ oneN y lev ≤ 18 := by
  unfold oneN
  split
  · omega
  · split
    · omega
    · split
      · omega
      · split
        · omega
        · split
          · omega
          · split <;> omega
theorem totM_len : ∀ m : List (ByteArray × JV), m.length ≤ totM m
  | [] => by simp [totM]
  | (n, x) :: l => by
    have := totM_len l
    have h : 1 ≤ totV x := by cases x; rw [totV]; omega
    rw [totM]
    simp
    omega
theorem totM_name : ∀ (m : List (ByteArray × JV)) (p : ByteArray × JV), p ∈ m → p.1.size ≤ totM m
  | (n, x) :: l, p, h => by
    rw [totM]
    rcases List.mem_cons.1 h with h | h
    · subst h; simp; omega
    · have := totM_name l p h; omega
theorem look_wrong (E : Nat → Addr) : LookOk E 64 oneN := by
  intro m y ds lev W hs hk ht
  obtain ⟨k, t, l, mm⟩ := y
  rw [totV] at ht
  refine wrong_any m _ ds lev W hs hk ?_ ?_ ?_
  · show t.size ≤ _; omega
  · show mm.length ≤ _; have := totM_len mm; omega
  · intro p hp
    have := totM_name mm p hp
    omega
set_option maxRecDepth 100000 in
theorem look_size (E : Nat → Addr) : LookOk E 76 (fun _ _ => 0) := by
  intro m y ds lev W hs hk ht
  obtain ⟨n, rfl⟩ := jd_cells hk
  obtain ⟨A2, c2, A3, c3, rfl, l2, g2, l3, g3⟩ := jd_open hk
  change Calls _ _ #[.agg #[.int .i64 y.kind, .string y.text, .slice A2 y.list.length c2, .slice A3 y.mem.length c3], _] _ _
  have HB0 : Hid (Below W.heap.size W (W.alloc (.cells #[.int .i64 y.kind, .string y.text, .slice A2 y.list.length c2, .slice A3 y.mem.length c3] 26))) := (Below.refl _ _).alloc (Nat.le_refl _) _
  go_enter Tryd.func76, Tryd.ntmps76
  go_wp2_with fail
  go_ret
  exact ⟨rfl, HB0⟩
theorem each_all_w (E : Nat → Addr) : ∀ n, EachAll E 64 oneN n
  | 0 => fun x cs lev c wb w0 w _ hk _ _ _ _ _ _ _ _ => (jd_zero hk).elim
  | n + 1 => each_step_w oneN_range (look_wrong E) n (each_all_w E n)
theorem each_all_s (E : Nat → Addr) : ∀ n, EachAll E 76 (fun _ _ => 0) n
  | 0 => fun x cs lev c wb w0 w _ hk _ _ _ _ _ _ _ _ => (jd_zero hk).elim
  | n + 1 => each_step_s (fun _ _ => ⟨by omega, by omega⟩) (look_size E) n (each_all_s E n)
/-- What Check tells: where, and what. -/
def chk (x : JV) : Int × Int := lkV oneN x 1 0
set_option maxHeartbeats 2000000 in
set_option maxRecDepth 100000 in
theorem Check_any {E : Nat → Addr} (n : Nat) (x : JV) (cs : List Value) (w : World) (hs : Sents E w) (hk : (jd n).K w x cs) (ht : totV x ≤ 100000) :
    Calls Tryd.prog 25 #[.agg cs.toArray] w fun e w' => ∃ v, e = .returned v ∧ Hid (ErrV E w' v (chk x).1 (chk x).2) ∧ Hid (Below w.heap.size w w') := by
  have HE := Lib.hid (each_all_w E n)
  have HK := Lib.hid hk
  have HS := Lib.hid hs
  obtain ⟨n, rfl⟩ := jd_cells hk
  obtain ⟨A2, c2, A3, c3, rfl, l2, g2, l3, g3⟩ := jd_open hk
  clear hk hs l2 g2 l3 g3
  change Calls _ _ #[.agg #[.int .i64 x.kind, .string x.text, .slice A2 x.list.length c2, .slice A3 x.mem.length c3]] _ _
  have HR : Hid (Row 89 (w.heap.size + 1) #[.int .i64 0, .func (.func 64) #[] #[]] ((w.alloc (.cells #[.int .i64 x.kind, .string x.text, .slice A2 x.list.length c2, .slice A3 x.mem.length c3] 26)).alloc (.cells #[.int .i64 0, .func (.func 64) #[] #[]] 89))) := Row.new _ _ _ (by simp)
  have HB : Hid (Below w.heap.size w ((w.alloc (.cells #[.int .i64 x.kind, .string x.text, .slice A2 x.list.length c2, .slice A3 x.mem.length c3] 26)).alloc (.cells #[.int .i64 0, .func (.func 64) #[] #[]] 89))) := by show Below _ _ _; go_grown
  have HC := Lib.hid (HE.out x _ 1 0 (w.heap.size + 1) w _ HS.out HK.out HB.out (by omega) HR.out ht (by omega) (by omega) (by omega) (by omega))
  clear HE
  go_enter Tryd.func25, Tryd.ntmps25
  go_wp2_with fail
  refine HC.out.mono ?_
  rintro e w1 ⟨v, rfl, h1, h2, h3⟩
  go_wp2_with fail
  go_ret
  exact ⟨v, rfl, h1, HB.out.grown h3.out HB.out.size (fun j hj => by injection hj with hj; omega)⟩
end

section
open Go.RowKit Go.PlainAid
open Go.Proofs.YtpdpgppaoipnlaaDoorW.PrintWords hiding bt
open Go.Proofs.YtpdpgppaoipnlaaDoorW.PrintMore

/-- A value's text, or none. -/
def txtV (x : JV) : List Int := if (chk x).2 = 0 then putV x else []
set_option maxHeartbeats 2000000 in
set_option maxRecDepth 100000 in
theorem Text_any {E : Nat → Addr} (n : Nat) (x : JV) (cs : List Value) (w : World) (hs : Sents E w) (hk : (jd n).K w x cs) (ht : totV x ≤ 100000) (hp : (putV x).length ≤ 100000000) :
    Calls Tryd.prog 26 #[.agg cs.toArray] w fun e w' => e = .returned (.string (strOfNums (txtV x))) ∧ Hid (Below w.heap.size w w') := by
  have HK := Lib.hid hk
  have HS := Lib.hid hs
  obtain ⟨n, rfl⟩ := jd_cells hk
  obtain ⟨A2, c2, A3, c3, rfl, l2, g2, l3, g3⟩ := jd_open hk
  clear hk hs l2 g2 l3 g3
  change Calls _ _ #[.agg #[.int .i64 x.kind, .string x.text, .slice A2 x.list.length c2, .slice A3 x.mem.length c3]] _ _
  have HB : Hid (Below w.heap.size w (w.alloc (.cells #[.int .i64 x.kind, .string x.text, .slice A2 x.list.length c2, .slice A3 x.mem.length c3] 26))) := (Below.refl _ _).alloc (Nat.le_refl _) _
  have HR : Hid (Row 26 w.heap.size #[.int .i64 x.kind, .string x.text, .slice A2 x.list.length c2, .slice A3 x.mem.length c3] (w.alloc (.cells #[.int .i64 x.kind, .string x.text, .slice A2 x.list.length c2, .slice A3 x.mem.length c3] 26))) := Row.new w _ _ rfl
  have HC := Lib.hid (Check_any (E := E) (n + 1) x _ _ (HS.out.below HB.out) ((jd (n + 1)).K_below HB.out HK.out) ht)
  go_enter Tryd.func26, Tryd.ntmps26
  go_wp2_with fail
  refine HC.out.mono ?_
  rintro e w1 ⟨v, rfl, h1, h2⟩
  have HR1 := Lib.hid (HR.out.below h2.out)
  have HB1 := Lib.hid (below_then HB.out HB.out.size h2.out)
  clear HC HR HB h2
  by_cases hz : (chk x).2 = 0
  · have HT : Hid (txtV x = putV x) := by show _ = _; unfold txtV; rw [if_pos hz]
    obtain ⟨_, rfl⟩ := Or.resolve_right h1.out (fun h => absurd h.1 (by rw [hz]; omega))
    clear h1 hz
    have H0 : Hid (Bld w1.heap.size w1.heap.size [] (w1.alloc (.cells #[.pointer none, .slice none 0 0] 92))) := ⟨by simp, Lib.fresh_isBuilder _ _ w1⟩
    have HB2 : Hid (Below w1.heap.size w1 (w1.alloc (.cells #[.pointer none, .slice none 0 0] 92))) := (Below.refl _ _).alloc (Nat.le_refl _) _
    have HR2 := Lib.hid (HR1.out.old (.cells #[.pointer none, .slice none 0 0] 92))
    have b0 := HR2.out.cell 0 _ rfl
    have b1 := HR2.out.cell 1 _ rfl
    have b2 := HR2.out.cell 2 _ rfl
    have b3 := HR2.out.cell 3 _ rfl
    have HP := Lib.hid (put_all (n + 1) w1.heap.size [] x _ w1 _ ((jd (n + 1)).K_below HB1.out HK.out) H0.out HB2.out (by simpa using hp))
    go_wp2_with fail
    refine HP.out.mono ?_
    rintro e w3 ⟨rfl, h3, h4, h5⟩
    clear HP b0 b1 b2 b3 H0 HB2 HR2 h5
    rw [List.nil_append] at h3
    go_wp2_with fail
    refine (Bld.text h3.out h4.out).mono ?_
    rintro e w4 ⟨rfl, h6⟩
    go_wp2_with fail
    go_ret
    exact ⟨by rw [HT.out]; rfl, below_then HB1.out HB1.out.size h6.out⟩
  · have HT : Hid (txtV x = []) := by show _ = _; unfold txtV; rw [if_neg hz]
    obtain ⟨_, _, q, rfl, _, _⟩ := Or.resolve_left h1.out (fun h => hz h.1)
    clear h1 hz
    go_wp2_with fail
    go_ret
    exact ⟨by rw [HT.out]; rfl, HB1⟩
set_option maxHeartbeats 2000000 in
set_option maxRecDepth 100000 in
theorem Quote_any (s : ByteArray) (w : World) (hs : s.size ≤ 100000000) :
    Calls Tryd.prog 35 #[.string s] w fun e w' => e = .returned (.string (strOfNums (quo (ints s)))) ∧ Hid (Below w.heap.size w w') := by
  have H0 : Hid (Bld w.heap.size w.heap.size [] (w.alloc (.cells #[.pointer none, .slice none 0 0] 92))) := ⟨by simp, Lib.fresh_isBuilder _ _ w⟩
  have HB2 : Hid (Below w.heap.size w (w.alloc (.cells #[.pointer none, .slice none 0 0] 92))) := (Below.refl _ _).alloc (Nat.le_refl _) _
  have HP := Lib.hid (quote_any w.heap.size [] s w _ H0.out (by simp) hs HB2.out)
  go_enter Tryd.func35, Tryd.ntmps35
  go_wp2_with fail
  refine HP.out.mono ?_
  rintro e w3 ⟨rfl, h3, h4, h5⟩
  clear HP H0 HB2 h5
  rw [List.nil_append] at h3
  go_wp2_with fail
  refine (Bld.text h3.out h4.out).mono ?_
  rintro e w4 ⟨rfl, h6⟩
  go_wp2_with fail
  go_ret
  exact ⟨rfl, h6⟩
end
end Go.Proofs.YtpdpgppaoipnlaaDoor

