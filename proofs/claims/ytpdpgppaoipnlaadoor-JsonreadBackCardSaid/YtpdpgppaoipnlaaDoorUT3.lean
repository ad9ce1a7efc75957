/- What the claim uses of the text T3. -/
import Derived.Test.YtpdpgppaoipnlaaDoorUT2
set_option linter.unusedVariables false
set_option linter.unusedSimpArgs false
namespace Go.Proofs.YtpdpgppaoipnlaaDoor
open Go.RowKit Go.PlainAid
open Go.Proofs.YtpdpgppaoipnlaaDoorW.PrintWords hiding bt
open Go.Proofs.YtpdpgppaoipnlaaDoorW.PrintMore

def RLookAll (n : Nat) : Prop := ∀ (x : JV) (cs : List Value) (lev c : Int) (w : World), (jd n).K w x cs → totV x ≤ 100000 → 0 ≤ lev → lev + totV x ≤ 200000 → 0 ≤ c → c + totV x ≤ 200000 →
  Calls Tryd.prog 75 #[.agg cs.toArray, .int .i64 lev, .int .i64 c] w fun e w' => e = .returned (.tuple #[.int .i64 (lkV oneN x lev c).1, .int .i64 (lkV oneN x lev c).2]) ∧ Hid (Below w.heap.size w w')
theorem totV_pos : ∀ x : JV, 1 ≤ totV x
  | ⟨k, t, l, m⟩ => by rw [totV]; omega

set_option maxHeartbeats 8000000 in
set_option maxRecDepth 100000 in
theorem look_step (n : Nat) (ih : RLookAll n) : RLookAll (n + 1) := by
  intro x cs lev c w hk ht hl0 hl1 hc0 hc1
  have HIH := Lib.hid ih
  have HO := Lib.hid (fun (W : World) (hW : Below w.heap.size w W) => refOne_any (n + 1) x cs lev W ((jd (n + 1)).K_below hW hk) ht hl0 (by omega))
  obtain ⟨A2, c2, A3, c3, rfl, l2, g2, l3, g3⟩ := jd_open hk
  obtain ⟨kd, t, l, m⟩ := x
  dsimp only at *
  have hX : lkV oneN ⟨kd, t, l, m⟩ lev c = if oneN ⟨kd, t, l, m⟩ lev ≠ 0 then (c, oneN ⟨kd, t, l, m⟩ lev) else if (lkL oneN l (lev + 1) (c + 1)).2 ≠ 0 then lkL oneN l (lev + 1) (c + 1) else lkM oneN m (lev + 1) (lkL oneN l (lev + 1) (c + 1)).1 := by rw [lkV]
  obtain ⟨R, HX⟩ : ∃ R, Hid (lkV oneN ⟨kd, t, l, m⟩ lev c = R) := ⟨_, rfl⟩
  rw [HX.out] at hX ⊢
  obtain ⟨o, Ho⟩ : ∃ o, Hid (oneN ⟨kd, t, l, m⟩ lev = o) := ⟨_, rfl⟩
  rw [Ho.out] at hX HO
  have HXX := Lib.hid hX
  rw [totV] at ht hl1 hc1
  clear hX HX Ho
  change Calls _ _ #[.agg #[.int .i64 kd, .string t, .slice A2 l.length c2, .slice A3 m.length c3], .int .i64 lev, .int .i64 c] _ _
  have HB0 : Hid (Below w.heap.size w (w.alloc (.cells #[.int .i64 kd, .string t, .slice A2 l.length c2, .slice A3 m.length c3] 26))) := (Below.refl _ _).alloc (Nat.le_refl _) _
  have HR1 : Hid (Row 26 w.heap.size #[.int .i64 kd, .string t, .slice A2 l.length c2, .slice A3 m.length c3] (w.alloc (.cells #[.int .i64 kd, .string t, .slice A2 l.length c2, .slice A3 m.length c3] 26))) := Row.new w _ _ rfl
  have G2 := Lib.hid (Kd.C_below g2 HB0.out)
  have G3 := Lib.hid (Kd.C_below g3 HB0.out)
  have s2 : l.length ≤ 9223372036854775807 := g2.2.1
  have s3 : m.length ≤ 9223372036854775807 := g3.2.1
  have HOO : Hid (∀ W, Below w.heap.size w W → Calls Tryd.prog 103 #[.agg #[.int .i64 kd, .string t, .slice A2 l.length c2, .slice A3 m.length c3], .int .i64 lev] W fun e w' => e = .returned (.int .i64 o) ∧ Hid (Below W.heap.size W w')) := HO.out
  clear hk g2 g3 l2 l3 ih HO
  go_enter Tryd.func75, Tryd.ntmps75
  go_wp2_with fail
  refine (HOO.out _ HB0.out).mono ?_
  rintro e w1 ⟨rfl, hb1⟩
  have HRw := Lib.hid (HR1.out.below hb1.out)
  have G2w := Lib.hid (Kd.C_below G2.out hb1.out)
  have G3w := Lib.hid (Kd.C_below G3.out hb1.out)
  have HB1 := Lib.hid (below_then HB0.out HB0.out.size hb1.out)
  clear HOO hb1 HR1 G2 G3 HB0
  by_cases ho : o = 0
  · subst ho
    have HX2 : Hid (R = if (lkL oneN l (lev + 1) (c + 1)).2 ≠ 0 then lkL oneN l (lev + 1) (c + 1) else lkM oneN m (lev + 1) (lkL oneN l (lev + 1) (c + 1)).1) := by show _ = _; rw [HXX.out, if_neg (by simp)]
    clear HXX
    go_wp2_with fail
    go_loopg [2, 9] l.length (fun g v2 v9 wi => ∃ (k : Nat) (c' : Int), v2 = .int .i64 c' ∧ v9 = .int .i64 (k : Int) ∧ Hid (k + g = l.length) ∧ Hid (lkL oneN (l.drop k) (lev + 1) c' = lkL oneN l (lev + 1) (c + 1)) ∧ Hid (0 ≤ c' ∧ c' + totL (l.drop k) ≤ c + 1 + totL l) ∧ Hid (Below w1.heap.size w1 wi))
    case atStart => exact ⟨0, c + 1, by go_num, rfl, by show _ = _; omega, rfl, by show _ ∧ _; rw [List.drop_zero]; omega, Below.refl _ _⟩
    case round =>
      obtain ⟨k, c', rfl, rfl, HK, HD, HC, HB⟩ := hrel
      have ca := (HRw.out.below HB.out).cell 2 _ rfl
      by_cases hlt : k < l.length
      · have k3 : decide (k < l.length) = true := by simpa using hlt
        obtain ⟨ad, X2, x2, X3, x3, hA, hKa, q0, q1, q2, q3⟩ := jv_at (Kd.C_below G2w.out HB.out) k hlt
        rw [hA] at ca
        have k0 : (0 : Int) ≤ (k : Int) := by omega
        have k1 : (k : Int) < (l.length : Int) := by omega
        obtain ⟨g1, rfl⟩ : ∃ g1, gk = g1 + 1 := ⟨gk - 1, by have := HK.out; omega⟩
        have HKa := Lib.hid hKa
        have hd := HD.out
        rw [lkL_drop _ _ _ _ _ hlt] at hd
        have htd := totL_drop l k hlt
        have hta := totL_at l k hlt
        have hle := lkV_le oneN (l.getD k jz) (lev + 1) c'
        have hpos := totV_pos (l.getD k jz)
        have hcc := HC.out
        clear hA hKa HD HC
        generalize l.getD k jz = xa at *
        have HCC : Hid (∀ W, Below wr.heap.size wr W → Calls Tryd.prog 75 #[.agg #[.int .i64 xa.kind, .string xa.text, .slice X2 xa.list.length x2, .slice X3 xa.mem.length x3], .int .i64 (lev + 1), .int .i64 c'] W fun e w' => e = .returned (.tuple #[.int .i64 (lkV oneN xa (lev + 1) c').1, .int .i64 (lkV oneN xa (lev + 1) c').2]) ∧ Hid (Below W.heap.size W w')) := fun W hW =>
          HIH.out xa _ (lev + 1) c' W ((jd n).K_below hW HKa.out) (by omega) (by omega) (by omega) (by omega) (by omega)
        obtain ⟨r1, r2, hr⟩ : ∃ r1 r2, lkV oneN xa (lev + 1) c' = (r1, r2) := ⟨_, _, rfl⟩
        rw [hr] at HCC hd hle
        dsimp only at HCC hd hle
        by_cases hz : r2 = 0
        · subst hz
          rw [if_neg (by simp)] at hd
          have HD2 := Lib.hid hd
          have HC2 : Hid (0 ≤ r1 ∧ r1 + totL (l.drop (k + 1)) ≤ c + 1 + totL l) := by show _ ∧ _; omega
          clear hd htd hta hpos hcc hr
          go_wp2_with (go_at_call 75; refine (HCC.out _ (Below.refl _ _)).mono ?_; rintro e w4 ⟨rfl, hb4⟩)
          go_roundg g1
          case measure => omega
          case rel => exact ⟨k + 1, r1, by go_num, by go_num, by have := HK.out; show _ = _; omega, HD2.out, HC2.out, below_then HB.out HB.out.size hb4.out⟩
        · have e2 : (r2 != 0) = true := by rw [bne_iff_ne]; exact hz
          have e2' : (r2 == 0) = false := by rw [beq_eq_false_iff_ne]; exact hz
          rw [if_pos hz] at hd
          have HN : Hid (R = (r1, r2)) := by show _ = _; rw [HX2.out, ← hd, if_pos hz]
          clear hd htd hta hpos hcc hr HX2
          go_wp2_with (go_at_call 75; refine (HCC.out _ (Below.refl _ _)).mono ?_; rintro e w4 ⟨rfl, hb4⟩)
          (try simp only [Exit.inBlock, Exit.then])
          refine bodyPost_ret (results_tmp2 rfl _ _ _) rfl ?_
          exact ⟨by rw [HN.out]; rfl, below_then HB1.out HB1.out.size (below_then HB.out HB.out.size hb4.out)⟩
      · have k3 : decide (k < l.length) = false := by simpa using hlt
        obtain rfl : k = l.length := by have := HK.out; omega
        have hd := HD.out
        rw [List.drop_length] at hd
        have HX3 : Hid (R = lkM oneN m (lev + 1) c') := by show _ = _; rw [HX2.out, ← hd]; simp [lkL]
        have HC0 := HC.out
        rw [List.drop_length] at HC0
        have hz1 : 0 ≤ c' ∧ c' ≤ c + 1 + totL l := by simp only [totL] at HC0; omega
        clear HD HC HK hlt hd HX2 HC0
        go_wp2_with fail
        obtain ⟨wm, hwm⟩ : ∃ wm : World, wm = wr := ⟨_, rfl⟩
        rw [← hwm] at HB ⊢
        clear hwm ca wr
        obtain ⟨c0, hc00⟩ : ∃ c0, c0 = c' := ⟨_, rfl⟩
        rw [← hc00] at HX3 hz1
        go_loopg [2, 12] m.length (fun g v2 v12 wi => ∃ (k : Nat) (c' : Int), v2 = .int .i64 c' ∧ v12 = .int .i64 (k : Int) ∧ Hid (k + g = m.length) ∧ Hid (lkM oneN (m.drop k) (lev + 1) c' = lkM oneN m (lev + 1) c0) ∧ Hid (0 ≤ c' ∧ c' + totM (m.drop k) ≤ c0 + totM m) ∧ Hid (Below w1.heap.size w1 wi))
        case atStart => exact ⟨0, c', rfl, rfl, by show _ = _; omega, by show _ = _; rw [hc00]; rfl, by show _ ∧ _; rw [List.drop_zero]; omega, HB.out⟩
        case round =>
          clear HB hc00 c'
          obtain ⟨k, c', rfl, rfl, HK, HD, HC, HB⟩ := hrel
          have ca := (HRw.out.below HB.out).cell 3 _ rfl
          by_cases hlt : k < m.length
          · have k3 : decide (k < m.length) = true := by simpa using hlt
            obtain ⟨ad, X2, x2, X3, x3, hA, hKa, qn, q0, q1, q2, q3⟩ := jm_at (Kd.C_below G3w.out HB.out) k hlt
            rw [hA] at ca
            have k0 : (0 : Int) ≤ (k : Int) := by omega
            have k1 : (k : Int) < (m.length : Int) := by omega
            obtain ⟨g1, rfl⟩ : ∃ g1, gk = g1 + 1 := ⟨gk - 1, by have := HK.out; omega⟩
            have HKa := Lib.hid hKa
            have hd := HD.out
            rw [lkM_drop _ _ _ _ _ hlt] at hd
            have htd := totM_drop m k hlt
            have hta := totM_at m k hlt
            have hle := lkV_le oneN (m.getD k (⟨#[]⟩, jz)).2 (lev + 1) c'
            have hpos := totV_pos (m.getD k (⟨#[]⟩, jz)).2
            have hcc := HC.out
            clear hA hKa HD HC
            generalize m.getD k (⟨#[]⟩, jz) = ea at *
            obtain ⟨na, xa⟩ := ea
            dsimp only at qn q0 q1 q2 q3 HKa hd htd hta hle hpos
            have HCC : Hid (∀ W, Below wr.heap.size wr W → Calls Tryd.prog 75 #[.agg #[.int .i64 xa.kind, .string xa.text, .slice X2 xa.list.length x2, .slice X3 xa.mem.length x3], .int .i64 (lev + 1), .int .i64 c'] W fun e w' => e = .returned (.tuple #[.int .i64 (lkV oneN xa (lev + 1) c').1, .int .i64 (lkV oneN xa (lev + 1) c').2]) ∧ Hid (Below W.heap.size W w')) := fun W hW =>
              HIH.out xa _ (lev + 1) c' W ((jd n).K_below hW HKa.out) (by omega) (by omega) (by omega) (by omega) (by omega)
            obtain ⟨r1, r2, hr⟩ : ∃ r1 r2, lkV oneN xa (lev + 1) c' = (r1, r2) := ⟨_, _, rfl⟩
            rw [hr] at HCC hd hle
            dsimp only at HCC hd hle
            by_cases hz : r2 = 0
            · subst hz
              rw [if_neg (by simp)] at hd
              have HD2 := Lib.hid hd
              have HC2 : Hid (0 ≤ r1 ∧ r1 + totM (m.drop (k + 1)) ≤ c0 + totM m) := by show _ ∧ _; omega
              clear hd htd hta hpos hcc hr
              go_wp2_with (go_at_call 75; refine (HCC.out _ (Below.refl _ _)).mono ?_; rintro e w4 ⟨rfl, hb4⟩)
              go_roundg g1
              case measure => omega
              case rel => exact ⟨k + 1, r1, by go_num, by go_num, by have := HK.out; show _ = _; omega, HD2.out, HC2.out, below_then HB.out HB.out.size hb4.out⟩
            · have e2 : (r2 != 0) = true := by rw [bne_iff_ne]; exact hz
              have e2' : (r2 == 0) = false := by rw [beq_eq_false_iff_ne]; exact hz
              rw [if_pos hz] at hd
              have HN : Hid (R = (r1, r2)) := by show _ = _; rw [HX3.out, ← hd]
              clear hd htd hta hpos hcc hr HX3
              go_wp2_with (go_at_call 75; refine (HCC.out _ (Below.refl _ _)).mono ?_; rintro e w4 ⟨rfl, hb4⟩)
              (try simp only [Exit.inBlock, Exit.then])
              refine bodyPost_ret (results_tmp2 rfl _ _ _) rfl ?_
              exact ⟨by rw [HN.out]; rfl, below_then HB1.out HB1.out.size (below_then HB.out HB.out.size hb4.out)⟩
          · have k3 : decide (k < m.length) = false := by simpa using hlt
            obtain rfl : k = m.length := by have := HK.out; omega
            have hd := HD.out
            rw [List.drop_length] at hd
            have HN : Hid (R = (c', 0)) := by show _ = _; rw [HX3.out, ← hd]; simp [lkM]
            clear HD HC HK hlt hd HX3
            go_wp2_with fail
            (try simp only [Exit.inBlock, Exit.then])
            refine bodyPost_ret (results_tmp2 rfl _ _ _) rfl ?_
            exact ⟨by rw [HN.out]; rfl, below_then HB1.out HB1.out.size HB.out⟩
  · have e2 : (o != 0) = true := by rw [bne_iff_ne]; exact ho
    have e2' : (o == 0) = false := by rw [beq_eq_false_iff_ne]; exact ho
    have HN : Hid (R = (c, o)) := by show _ = _; rw [HXX.out, if_pos ho]
    clear HXX
    go_wp2_with fail
    (try simp only [Exit.inBlock, Exit.then])
    refine bodyPost_ret (results_tmp2 rfl _ _ _) rfl ?_
    exact ⟨by rw [HN.out]; rfl, HB1.out⟩
theorem look_all : ∀ n, RLookAll n
  | 0 => fun _ _ _ _ _ ha _ _ _ _ _ => (jd_zero ha).elim
  | n + 1 => look_step n (look_all n)
set_option maxHeartbeats 1000000 in
set_option maxRecDepth 100000 in
/-- The document's Check. -/
theorem refCheck_any (n : Nat) (x : JV) (cs : List Value) (w : World) (hk : (jd n).K w x cs) (ht : totV x ≤ 100000) :
    Calls Tryd.prog 42 #[.agg cs.toArray] w fun e w' => e = .returned (.tuple #[.int .i64 (if (chk x).2 = 0 then 0 else (chk x).1), .int .i64 (chk x).2]) ∧ Hid (Below w.heap.size w w') := by
  have HK := Lib.hid hk
  obtain ⟨n, rfl⟩ := jd_cells hk
  obtain ⟨A2, c2, A3, c3, rfl, l2, g2, l3, g3⟩ := jd_open hk
  clear hk l2 g2 l3 g3
  change Calls _ _ #[.agg #[.int .i64 x.kind, .string x.text, .slice A2 x.list.length c2, .slice A3 x.mem.length c3]] _ _
  have HB : Hid (Below w.heap.size w (w.alloc (.cells #[.int .i64 x.kind, .string x.text, .slice A2 x.list.length c2, .slice A3 x.mem.length c3] 26))) := (Below.refl _ _).alloc (Nat.le_refl _) _
  have HC := Lib.hid (look_all (n + 1) x _ 1 0 _ ((jd (n + 1)).K_below HB.out HK.out) ht (by omega) (by omega) (by omega) (by omega))
  obtain ⟨r1, r2, hr⟩ : ∃ r1 r2, chk x = (r1, r2) := ⟨_, _, rfl⟩
  rw [show lkV oneN x 1 0 = (r1, r2) from hr] at HC
  rw [hr]
  dsimp only
  clear hr
  go_enter Tryd.func42, Tryd.ntmps42
  go_wp2_with fail
  refine HC.out.mono ?_
  rintro e w1 ⟨rfl, hb1⟩
  by_cases hz : r2 = 0
  · subst hz
    go_wp2_with fail
    (try simp only [Exit.inBlock, Exit.then])
    refine bodyPost_ret (results_tmp2 rfl _ _ _) rfl ?_
    exact ⟨rfl, below_then HB.out HB.out.size hb1.out⟩
  · have e2 : (r2 == 0) = false := by rw [beq_eq_false_iff_ne]; exact hz
    go_wp2_with fail
    (try simp only [Exit.inBlock, Exit.then])
    refine bodyPost_ret (results_tmp2 rfl _ _ _) rfl ?_
    exact ⟨rfl, below_then HB.out HB.out.size hb1.out⟩

theorem totL_app : ∀ a b : List JV, totL (a ++ b) = totL a + totL b
  | [], b => by simp [totL]
  | x :: a, b => by simp [totL, totL_app a b]; omega
theorem totM_app : ∀ a b : List (ByteArray × JV), totM (a ++ b) = totM a + totM b
  | [], b => by simp [totM]
  | (n, x) :: a, b => by simp [totM, totM_app a b]; omega
end Go.Proofs.YtpdpgppaoipnlaaDoor

