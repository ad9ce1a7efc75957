/- What the claim uses of the text T5. -/
import Derived.Test.YtpdpgppaoipnlaaDoorVT4
import Derived.Deep.RegionHeld3
set_option linter.unusedVariables false
set_option linter.unusedSimpArgs false
namespace Go.Proofs.YtpdpgppaoipnlaaDoor
open Go.RowKit Go.PlainAid
open Go.Proofs.YtpdpgppaoipnlaaDoorW.PrintWords hiding bt
open Go.Proofs.YtpdpgppaoipnlaaDoorW.PrintMore

/-- Texts, each behind a comma. -/
def FL (ls : List (List Int)) : List Int := (ls.map (44 :: ·)).flatten
theorem FL_snoc (ls : List (List Int)) (a : List Int) : FL (ls ++ [a]) = FL ls ++ 44 :: a := by simp [FL]
theorem FL_app (a b : List (List Int)) : FL (a ++ b) = FL a ++ FL b := by simp [FL]
theorem FL_join (ls : List (List Int)) : (FL ls = [] ∧ joinC ls = []) ∨ FL ls = 44 :: joinC ls := by
  cases ls with
  | nil => exact .inl ⟨rfl, rfl⟩
  | cons a l => exact .inr (by simp [FL, joinC])
theorem FL_putL_take (l : List JV) (k : Nat) (h : k < l.length) : FL (putL (l.take (k + 1))) = FL (putL (l.take k)) ++ 44 :: putV (l.getD k jz) := by
  rw [putL_map, putL_map, List.take_succ_eq_append_getElem h, List.map_append, List.map_singleton, FL_snoc, List.getD_eq_getElem?_getD, List.getElem?_eq_getElem h]
  rfl
theorem FL_putM_take (l : List (ByteArray × JV)) (k : Nat) (h : k < l.length) : FL (putM (l.take (k + 1))) = FL (putM (l.take k)) ++ 44 :: (quo (ints (l.getD k (⟨#[]⟩, jz)).1) ++ 58 :: putV (l.getD k (⟨#[]⟩, jz)).2) := by
  rw [putM_map, putM_map, List.take_succ_eq_append_getElem h, List.map_append, List.map_singleton, FL_snoc, List.getD_eq_getElem?_getD, List.getElem?_eq_getElem h]
  rfl
theorem FL_putL_len : ∀ l : List JV, (FL (putL l)).length ≤ 14 * totL l
  | [] => by simp [putL, FL, totL]
  | x :: l => by
    have h1 := putV_len x
    have h2 := FL_putL_len l
    rw [totL, putL, show putV x :: putL l = [putV x] ++ putL l from rfl, FL_app]
    simp only [List.length_append, FL, List.map_cons, List.map_nil, List.flatten_cons, List.flatten_nil, List.length_cons, List.length_nil] at h2 ⊢
    omega
theorem FL_putM_len : ∀ l : List (ByteArray × JV), (FL (putM l)).length ≤ 14 * totM l
  | [] => by simp [putM, FL, totM]
  | (n, x) :: l => by
    have h1 := putV_len x
    have h2 := FL_putM_len l
    have h3 := quo_le n
    rw [totM, putM, show (quo (ints n) ++ 58 :: putV x) :: putM l = [quo (ints n) ++ 58 :: putV x] ++ putM l from rfl, FL_app]
    simp only [List.length_append, FL, List.map_cons, List.map_nil, List.flatten_cons, List.flatten_nil, List.length_cons, List.length_nil] at h2 ⊢
    omega
theorem okL_at' : ∀ (l : List JV) (lev : Int), okL l lev = true → ∀ k, k < l.length → okV (l.getD k jz) lev = true
  | x :: l, lev, h, 0, _ => by rw [okL, Bool.and_eq_true] at h; exact h.1
  | x :: l, lev, h, k + 1, hk => by rw [okL, Bool.and_eq_true] at h; simpa using okL_at' l lev h.2 k (by simpa using hk)
theorem okM_at' : ∀ (l : List (ByteArray × JV)) (lev : Int), okM l lev = true → ∀ k, k < l.length → okV (l.getD k (⟨#[]⟩, jz)).2 lev = true
  | (n, x) :: l, lev, h, 0, _ => by rw [okM, Bool.and_eq_true] at h; exact h.1
  | (n, x) :: l, lev, h, k + 1, hk => by rw [okM, Bool.and_eq_true] at h; simpa using okM_at' l lev h.2 k (by simpa using hk)

theorem nums_tail (c : Int) (J : List Int) : (strOfNums (c :: J)).extract 1 (strOfNums (c :: J)).size = strOfNums J := by
  apply ByteArray.ext
  apply Array.ext'
  rw [Lib.extract_data, strOfNums_data, strOfNums_data, strOfNums_size]
  simp
  rw [List.take_of_length_le (by simp)]

def RTextAll (n : Nat) : Prop := ∀ (x : JV) (cs : List Value) (lev : Int) (w : World), (jd n).K w x cs → totV x ≤ 5000 → okV x lev = true →
  Calls Tryd.prog 34 #[.agg cs.toArray] w fun e w' => e = .returned (.string (strOfNums (putV x))) ∧ Hid (Below w.heap.size w w')
set_option maxHeartbeats 8000000 in
set_option maxRecDepth 100000 in
theorem rtext_step (n : Nat) (ih : RTextAll n) : RTextAll (n + 1) := by
  intro x cs lev w hk ht hok
  have HIH := Lib.hid ih
  obtain ⟨A2, c2, A3, c3, rfl, l2, g2, l3, g3⟩ := jd_open hk
  obtain ⟨kd, t, l, m⟩ := x
  dsimp only at *
  obtain ⟨ho1, hol, hom⟩ := okV_one hok
  obtain ⟨_, k0, k6, htx, hl, hm, hnum, hgood, _, _⟩ := oneN_open ho1
  rw [totV] at ht
  have HOL := Lib.hid hol
  have HOM := Lib.hid hom
  change Calls _ _ #[.agg #[.int .i64 kd, .string t, .slice A2 l.length c2, .slice A3 m.length c3]] _ _
  have HB0 : Hid (Below w.heap.size w (w.alloc (.cells #[.int .i64 kd, .string t, .slice A2 l.length c2, .slice A3 m.length c3] 26))) := (Below.refl _ _).alloc (Nat.le_refl _) _
  have HR1 : Hid (Row 26 w.heap.size #[.int .i64 kd, .string t, .slice A2 l.length c2, .slice A3 m.length c3] (w.alloc (.cells #[.int .i64 kd, .string t, .slice A2 l.length c2, .slice A3 m.length c3] 26))) := Row.new w _ _ rfl
  have G2 := Lib.hid (Kd.C_below g2 HB0.out)
  have G3 := Lib.hid (Kd.C_below g3 HB0.out)
  have s2 : l.length ≤ 9223372036854775807 := g2.2.1
  have s3 : m.length ≤ 9223372036854775807 := g3.2.1
  have HT := Lib.hid ht
  clear hk g2 g3 l2 l3 ih hok hol hom ho1
  have x0 : ∀ w : World, (Instr.index 95 (.agg #[.string ⟨#[110, 117, 108, 108]⟩, .string ⟨#[102, 97, 108, 115, 101]⟩, .string ⟨#[116, 114, 117, 101]⟩]) (.int .i64 0)).run Tryd.prog w = .ok (.string ⟨#[110, 117, 108, 108]⟩) w := fun _ => by kernel_rfl
  have x1 : ∀ w : World, (Instr.index 95 (.agg #[.string ⟨#[110, 117, 108, 108]⟩, .string ⟨#[102, 97, 108, 115, 101]⟩, .string ⟨#[116, 114, 117, 101]⟩]) (.int .i64 1)).run Tryd.prog w = .ok (.string ⟨#[102, 97, 108, 115, 101]⟩) w := fun _ => by kernel_rfl
  have x2 : ∀ w : World, (Instr.index 95 (.agg #[.string ⟨#[110, 117, 108, 108]⟩, .string ⟨#[102, 97, 108, 115, 101]⟩, .string ⟨#[116, 114, 117, 101]⟩]) (.int .i64 2)).run Tryd.prog w = .ok (.string ⟨#[116, 114, 117, 101]⟩) w := fun _ => by kernel_rfl
  by_cases k012 : kd ≤ 2
  · have k1 : decide (kd ≤ 2) = true := decide_eq_true k012
    clear htx hl hm hnum hgood HT HOL HOM
    have hc : kd = 0 ∨ kd = 1 ∨ kd = 2 := by omega
    rcases hc with rfl | rfl | rfl
    all_goals
      go_enter Tryd.func34, Tryd.ntmps34
      go_wp2_with fail
      go_ret
      exact ⟨by rw [putV]; rfl, HB0⟩
  have k1 : decide (kd ≤ 2) = false := decide_eq_false k012
  clear x0 x1 x2
  have HL := Lib.hid hl
  have HM := Lib.hid hm
  clear htx hl hm hnum hgood
  by_cases q3 : kd = 3
  · subst q3
    go_enter Tryd.func34, Tryd.ntmps34
    go_wp2_with fail
    go_ret
    have hs : strOfNums (ints t) = t := ints_inj (ints_nums _ (ints_range t))
    exact ⟨by rw [putV]; simp only [if_neg (show ¬ (3 : Int) = 0 by omega), if_neg (show ¬ (3 : Int) = 1 by omega), if_neg (show ¬ (3 : Int) = 2 by omega), if_true]; rw [hs]; rfl, HB0⟩
  have e3 : (kd == 3) = false := by rw [beq_eq_false_iff_ne]; exact q3
  by_cases q4 : kd = 4
  · subst q4
    have HQ := Lib.hid (fun (W : World) => refQuote_any t W (by omega))
    go_enter Tryd.func34, Tryd.ntmps34
    go_wp2_with (go_at_call 36; refine (HQ.out _).mono ?_; rintro e w4 ⟨rfl, hb4⟩)
    go_ret
    exact ⟨by rw [putV]; rfl, below_then HB0.out HB0.out.size hb4.out⟩
  have e4 : (kd == 4) = false := by rw [beq_eq_false_iff_ne]; exact q4
  have HKD : Hid ((kd = 5 ∧ m = []) ∨ (kd = 6 ∧ l = [])) := by
    show _ ∨ _
    by_cases h5 : kd = 5
    · exact .inl ⟨h5, HM.out (by omega)⟩
    · exact .inr ⟨by omega, HL.out h5⟩
  clear HL HM
  go_enter Tryd.func34, Tryd.ntmps34
  go_wp2_with fail
  obtain ⟨w1, hw1⟩ : ∃ w1, w.alloc (.cells #[.int .i64 kd, .string t, .slice A2 l.length c2, .slice A3 m.length c3] 26) = w1 := ⟨_, rfl⟩
  rw [hw1] at HB0 HR1 G2 G3 ⊢
  clear hw1
  go_loopg [3, 4] l.length (fun g v3 v4 wi => ∃ (k : Nat) (u : ByteArray), v3 = .string u ∧ v4 = .int .i64 (k : Int) ∧ Hid (k + g = l.length) ∧ Hid (u = strOfNums (FL (putL (l.take k)))) ∧ u.size ≤ 14 * totL (l.take k) ∧ Hid (Below w1.heap.size w1 wi))
  case atStart => exact ⟨0, _, rfl, rfl, by show _ = _; omega, rfl, by exact Nat.zero_le _, Below.refl _ _⟩
  case round =>
    obtain ⟨k, u, rfl, rfl, HK, HU, hu, HB⟩ := hrel
    have ca := (HR1.out.below HB.out).cell 2 _ rfl
    have hpre : totL (l.take k) ≤ totL l := by
      have h2 : totL l = totL (l.take k) + totL (l.drop k) := by rw [← totL_app, List.take_append_drop]
      omega
    have hu2 : u.size ≤ 70000 := by have := HT.out; omega
    by_cases hlt : k < l.length
    · have k3 : decide (k < l.length) = true := by simpa using hlt
      obtain ⟨ad, X2, x2, X3, x3, hA, hKa, q0, q1, q2, q3⟩ := jv_at (Kd.C_below G2.out HB.out) k hlt
      rw [hA] at ca
      have k0' : (0 : Int) ≤ (k : Int) := by omega
      have k1' : (k : Int) < (l.length : Int) := by omega
      obtain ⟨g1, rfl⟩ : ∃ g1, gk = g1 + 1 := ⟨gk - 1, by have := HK.out; omega⟩
      have hta := totL_at l k hlt
      have htk := totL_take l k hlt
      have hfl := FL_putL_take l k hlt
      have hoa := okL_at' l _ HOL.out k hlt
      have hpl := putV_len (l.getD k jz)
      have hKa := Lib.hid hKa
      clear hA hpre
      generalize l.getD k jz = xa at *
      obtain ⟨sx, HSX⟩ : ∃ sx, Hid (strOfNums (putV xa) = sx) := ⟨_, rfl⟩
      have hsx : sx.size ≤ 70000 := by rw [← HSX.out, strOfNums_size]; have := HT.out; omega
      have HCC : Hid (∀ W, Below wr.heap.size wr W → Calls Tryd.prog 34 #[.agg #[.int .i64 xa.kind, .string xa.text, .slice X2 xa.list.length x2, .slice X3 xa.mem.length x3]] W fun e w' => e = .returned (.string sx) ∧ Hid (Below W.heap.size W w')) := fun W hW => by
        rw [← HSX.out]
        exact HIH.out xa _ _ W ((jd n).K_below hW hKa.out) (by have := HT.out; omega) hoa
      have HU2 : Hid (u ++ ⟨#[44]⟩ ++ sx = strOfNums (FL (putL (l.take (k + 1))))) := by
        show _ = _
        rw [hfl, HU.out, ← HSX.out, show (⟨#[44]⟩ : ByteArray) = strOfNums [44] from rfl, ByteArray.append_assoc, nums_append', nums_append']
        rfl
      have hu3 : (u ++ (⟨#[44]⟩ : ByteArray) ++ sx).size ≤ 14 * totL (l.take (k + 1)) := by
        rw [HU2.out, strOfNums_size]
        exact FL_putL_len _
      have HU3 := Lib.hid hu3
      clear HU hta htk hfl hoa hpl HSX hu hu3
      go_wp2_with (go_at_call 34; refine (HCC.out _ (Below.refl _ _)).mono ?_; rintro e w4 ⟨rfl, hb4⟩)
      go_roundg g1
      case measure => omega
      case rel => exact ⟨k + 1, _, rfl, by go_num, by have := HK.out; show _ = _; omega, HU2.out, HU3.out, below_then HB.out HB.out.size hb4.out⟩
    · have k3 : decide (k < l.length) = false := by simpa using hlt
      obtain rfl : k = l.length := by have := HK.out; omega
      have HU0 : Hid (u = strOfNums (FL (putL l))) := by show _ = _; have := HU.out; rwa [List.take_length] at this
      clear HU HK hlt hpre
      go_wp2_with fail
      obtain ⟨wm, hwm⟩ : ∃ wm : World, wm = wr := ⟨_, rfl⟩
      rw [← hwm] at HB ⊢
      clear hwm ca wr
      go_loopg [3, 5] m.length (fun g v3 v5 wi => ∃ (k : Nat) (u : ByteArray), v3 = .string u ∧ v5 = .int .i64 (k : Int) ∧ Hid (k + g = m.length) ∧ Hid (u = strOfNums (FL (putL l ++ putM (m.take k)))) ∧ u.size ≤ 140000 ∧ Hid (Below w1.heap.size w1 wi))
      case atStart => exact ⟨0, u, rfl, rfl, by show _ = _; omega, by show _ = _; rw [HU0.out]; simp [putM], by omega, HB.out⟩
      case round =>
        clear HB HU0 hu hu2 u
        obtain ⟨k, u, rfl, rfl, HK, HU, hu, HB⟩ := hrel
        have ca := (HR1.out.below HB.out).cell 3 _ rfl
        by_cases hlt : k < m.length
        · have k3 : decide (k < m.length) = true := by simpa using hlt
          obtain ⟨ad, X2, x2, X3, x3, hA, hKa, qn, q0, q1, q2, q3⟩ := jm_at (Kd.C_below G3.out HB.out) k hlt
          rw [hA] at ca
          have k0' : (0 : Int) ≤ (k : Int) := by omega
          have k1' : (k : Int) < (m.length : Int) := by omega
          obtain ⟨g1, rfl⟩ : ∃ g1, gk = g1 + 1 := ⟨gk - 1, by have := HK.out; omega⟩
          have hta := totM_at m k hlt
          have htk := totM_take m k hlt
          have hfl := FL_putM_take m k hlt
          have hoa := okM_at' m _ HOM.out k hlt
          have hpl := putV_len (m.getD k (⟨#[]⟩, jz)).2
          have hnm := totM_name m _ (getD_mem' m k (⟨#[]⟩, jz) hlt)
          have hql := quo_le (m.getD k (⟨#[]⟩, jz)).1
          have hKa := Lib.hid hKa
          have hall1 := FL_putL_len l
          have hall2 := FL_putM_len (m.take (k + 1))
          have hpre : totM (m.take (k + 1)) ≤ totM m := by
            have h2 : totM m = totM (m.take (k + 1)) + totM (m.drop (k + 1)) := by rw [← totM_app, List.take_append_drop]
            omega
          clear hA
          generalize m.getD k (⟨#[]⟩, jz) = ea at *
          obtain ⟨na, xa⟩ := ea
          dsimp only at qn q0 q1 q2 q3 hKa hta htk hfl hoa hpl hnm hql
          obtain ⟨sx, HSX⟩ : ∃ sx, Hid (strOfNums (putV xa) = sx) := ⟨_, rfl⟩
          have hsx : sx.size ≤ 70000 := by rw [← HSX.out, strOfNums_size]; have := HT.out; omega
          obtain ⟨sn, HSN⟩ : ∃ sn, Hid (strOfNums (quo (ints na)) = sn) := ⟨_, rfl⟩
          have hsn : sn.size ≤ 70000 := by rw [← HSN.out, strOfNums_size]; have := HT.out; omega
          have HCC : Hid (∀ W, Below wr.heap.size wr W → Calls Tryd.prog 34 #[.agg #[.int .i64 xa.kind, .string xa.text, .slice X2 xa.list.length x2, .slice X3 xa.mem.length x3]] W fun e w' => e = .returned (.string sx) ∧ Hid (Below wr.heap.size wr w')) := fun W hW => by
            rw [← HSX.out]
            refine (HIH.out xa _ _ W ((jd n).K_below hW hKa.out) (by have := HT.out; omega) hoa).mono ?_
            rintro e w' ⟨rfl, h⟩
            exact ⟨rfl, below_then hW hW.size h.out⟩
          have HCQ : Hid (∀ W, Below wr.heap.size wr W → Calls Tryd.prog 36 #[.string na] W fun e w' => e = .returned (.string sn) ∧ Hid (Below wr.heap.size wr w')) := fun W hW => by
            rw [← HSN.out]
            refine (refQuote_any na W (by have := HT.out; omega)).mono ?_
            rintro e w' ⟨rfl, h⟩
            exact ⟨rfl, below_then hW hW.size h.out⟩
          have HU2 : Hid (u ++ ⟨#[44]⟩ ++ sn ++ ⟨#[58]⟩ ++ sx = strOfNums (FL (putL l ++ putM (m.take (k + 1))))) := by
            show _ = _
            rw [FL_app, hfl, HU.out, FL_app, ← HSX.out, ← HSN.out, show (⟨#[44]⟩ : ByteArray) = strOfNums [44] from rfl, show (⟨#[58]⟩ : ByteArray) = strOfNums [58] from rfl]
            simp only [nums_append', List.append_assoc]
            rfl
          have hu3 : (u ++ (⟨#[44]⟩ : ByteArray) ++ sn ++ (⟨#[58]⟩ : ByteArray) ++ sx).size ≤ 140000 := by
            rw [HU2.out, strOfNums_size, FL_app, List.length_append]
            have := HT.out
            omega
          have HU3 := Lib.hid hu3
          have hz1 : (9223372036854775807 < u.size + 1) = False := eq_false (by omega)
          have hz2 : (9223372036854775807 < u.size + 1 + sn.size) = False := eq_false (by omega)
          have hz3 : (9223372036854775807 < u.size + 1 + sn.size + 1) = False := eq_false (by omega)
          have hz4 : (9223372036854775807 < u.size + 1 + sn.size + 1 + sx.size) = False := eq_false (by omega)
          clear HU hta htk hfl hoa hpl HSX HSN hnm hql hu3 hall1 hall2 hpre
          go_wp2_with fail
          go_region_held3 (fun W => W.cell? ⟨w.heap.size, 3, none⟩ = some (.slice (some ad) m.length c3) ∧ W.cell? (ad.add (k * 5)) = some (.string na) ∧ W.cell? ⟨(ad.add (k * 5)).block, (ad.add (k * 5)).off + 1, none⟩ = some (.int .i64 xa.kind) ∧ W.cell? ⟨(ad.add (k * 5)).block, (ad.add (k * 5)).off + 2, none⟩ = some (.string xa.text) ∧ W.cell? ⟨(ad.add (k * 5)).block, (ad.add (k * 5)).off + 3, none⟩ = some (.slice X2 xa.list.length x2) ∧ W.cell? ⟨(ad.add (k * 5)).block, (ad.add (k * 5)).off + 4, none⟩ = some (.slice X3 xa.mem.length x3))
            (first | exact ⟨ca, qn, q0, q1, q2, q3⟩ | exact ⟨cell_below (w := wr) hb4.out ca, cell_below (w := wr) hb4.out qn, cell_below (w := wr) hb4.out q0, cell_below (w := wr) hb4.out q1, cell_below (w := wr) hb4.out q2, cell_below (w := wr) hb4.out q3⟩)
            (first
              | (go_simp; go_at_call 34; refine (HCC.out _ ?hb).mono ?_; (case hb => first | exact hb4.out | exact below_drew (Below.refl _ _)); rintro e w4 ⟨rfl, hb4⟩)
              | (go_simp; go_at_call 36; refine (HCQ.out _ ?hb).mono ?_; (case hb => first | exact hb4.out | exact below_drew (Below.refl _ _)); rintro e w4 ⟨rfl, hb4⟩))
          all_goals
            go_wp2_with fail
            go_roundg g1
            case measure => omega
            case rel => exact ⟨k + 1, _, rfl, by go_num, by have := HK.out; show _ = _; omega, HU2.out, HU3.out, below_then HB.out HB.out.size hb4.out⟩
        · have k3 : decide (k < m.length) = false := by simpa using hlt
          obtain rfl : k = m.length := by have := HK.out; omega
          have HU0 : Hid (u = strOfNums (FL (putL l ++ putM m))) := by show _ = _; have := HU.out; rwa [List.take_length] at this
          clear HU HK hlt
          have cb := (HR1.out.below HB.out).cell 0 _ rfl
          obtain ⟨J, HJ⟩ : ∃ J, Hid (joinC (putL l ++ putM m) = J) := ⟨_, rfl⟩
          have HN : Hid ((kd = 5 ∧ putV ⟨kd, t, l, m⟩ = [91] ++ (J ++ [93])) ∨ (kd = 6 ∧ putV ⟨kd, t, l, m⟩ = [123] ++ (J ++ [125]))) := by
            show _ ∨ _
            rw [← HJ.out]
            rcases HKD.out with ⟨rfl, rfl⟩ | ⟨rfl, rfl⟩
            · exact .inl ⟨rfl, by simp [putV, putM]⟩
            · exact .inr ⟨rfl, by simp [putV, putL]⟩
          have hfj := FL_join (putL l ++ putM m)
          rw [HJ.out] at hfj
          clear HJ HKD
          rcases hfj with ⟨hf, hj⟩ | hf
          · rw [hf] at HU0
            obtain rfl : u = ⟨#[]⟩ := HU0.out
            rw [hj] at HN
            rcases HN.out with ⟨rfl, hp⟩ | ⟨rfl, hp⟩
            · have HP := Lib.hid hp
              clear HN hp hf hj
              go_wp2_with fail
              go_ret
              exact ⟨by rw [HP.out]; rfl, below_then HB0.out HB0.out.size HB.out⟩
            · have HP := Lib.hid hp
              clear HN hp hf hj
              go_wp2_with fail
              go_ret
              exact ⟨by rw [HP.out]; rfl, below_then HB0.out HB0.out.size HB.out⟩
          · rw [hf] at HU0
            have hus : u.size = J.length + 1 := by rw [HU0.out, strOfNums_size]; rfl
            have hex : u.extract 1 u.size = strOfNums J := by rw [HU0.out]; exact nums_tail 44 J
            have hjs : (strOfNums J).size ≤ 140000 := by rw [strOfNums_size]; omega
            have hus1 : 1 ≤ u.size := by omega
            have hun : u.toList.isEmpty = false := by
              have h1 : u.toList ≠ [] := fun e => by have := (empty_size u).2 ((toList_nil u).1 e); omega
              simp [h1]
            have HN2 : Hid ((kd = 5 ∧ strOfNums (putV ⟨kd, t, l, m⟩) = ⟨#[91]⟩ ++ strOfNums J ++ ⟨#[93]⟩) ∨ (kd = 6 ∧ strOfNums (putV ⟨kd, t, l, m⟩) = ⟨#[123]⟩ ++ strOfNums J ++ ⟨#[125]⟩)) := by
              show _ ∨ _
              rcases HN.out with ⟨h, hp⟩ | ⟨h, hp⟩
              · exact .inl ⟨h, by rw [hp, show (⟨#[91]⟩ : ByteArray) = strOfNums [91] from rfl, show (⟨#[93]⟩ : ByteArray) = strOfNums [93] from rfl, nums_append', nums_append', List.append_assoc]⟩
              · exact .inr ⟨h, by rw [hp, show (⟨#[123]⟩ : ByteArray) = strOfNums [123] from rfl, show (⟨#[125]⟩ : ByteArray) = strOfNums [125] from rfl, nums_append', nums_append', List.append_assoc]⟩
            clear HU0 hf hus HN
            generalize strOfNums J = sj at *
            have hz1 : (9223372036854775807 < 1 + sj.size) = False := eq_false (by omega)
            have hz2 : (9223372036854775807 < 1 + sj.size + 1) = False := eq_false (by omega)
            rcases HN2.out with ⟨rfl, hp⟩ | ⟨rfl, hp⟩
            all_goals
              have HP := Lib.hid hp
              clear HN2 hp
              go_wp2_with fail
              go_ret
              exact ⟨by rw [HP.out]; rfl, below_then HB0.out HB0.out.size HB.out⟩
theorem rtext_all : ∀ n, RTextAll n
  | 0 => fun _ _ _ _ ha _ _ => (jd_zero ha).elim
  | n + 1 => rtext_step n (rtext_all n)
end Go.Proofs.YtpdpgppaoipnlaaDoor

