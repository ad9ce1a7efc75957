/- What the claim uses of the text T2. -/
import Derived.Test.YtpdpgppaoipnlaaDoorUT1
import Derived.Test.YtpdpgppaoipnlaaDoorUQ3
import Derived.Test.YtpdpgppaoipnlaaDoorUK4
import Derived.Deep.RegionHeld3
set_option linter.unusedVariables false
set_option linter.unusedSimpArgs false
namespace Go.Proofs.YtpdpgppaoipnlaaDoor
open Go.RowKit Go.PlainAid
open Go.Proofs.YtpdpgppaoipnlaaDoorW.PrintWords hiding bt
open Go.Proofs.YtpdpgppaoipnlaaDoorW.PrintMore

/-- The document's one. -/
theorem dupN_app : ∀ (l r s : List (List Int)), dupN s (l ++ r) = (dupN s l || dupN (s ++ l) r)
  | [], r, s => by simp [dupN]
  | n :: l, r, s => by rw [List.cons_append, dupN, dupN, dupN_app l r (s ++ [n])]; simp [Bool.or_assoc]
theorem dup_more (m : List (ByteArray × JV)) (k : Nat) (h : dupN [] (nms (m.take k)) = true) : dupN [] (nms m) = true := by
  have : nms m = nms (m.take k) ++ nms (m.drop k) := by unfold nms; rw [← List.map_append, List.take_append_drop]
  rw [this, dupN_app, h]
  rfl
theorem mem_nms_take (m : List (ByteArray × JV)) (k : Nat) (x : List Int) (hk : k ≤ m.length) : x ∈ nms (m.take k) ↔ ∃ j, j < k ∧ x = ints (m.getD j (⟨#[]⟩, jz)).1 := by
  unfold nms
  rw [List.mem_map]
  constructor
  · rintro ⟨p, hp, rfl⟩
    obtain ⟨j, hj, rfl⟩ := List.mem_iff_getElem.1 hp
    have hj' : j < k := by rw [List.length_take] at hj; omega
    refine ⟨j, hj', ?_⟩
    rw [List.getElem_take, List.getD_eq_getElem?_getD, List.getElem?_eq_getElem (by omega)]
    rfl
  · rintro ⟨j, hj, rfl⟩
    refine ⟨m.getD j (⟨#[]⟩, jz), ?_, rfl⟩
    rw [List.mem_iff_getElem]
    exact ⟨j, by rw [List.length_take]; omega, by rw [List.getElem_take, List.getD_eq_getElem?_getD, List.getElem?_eq_getElem (by omega)]; rfl⟩
set_option maxHeartbeats 8000000 in
set_option maxRecDepth 100000 in
theorem refOne_any (n : Nat) (x : JV) (cs : List Value) (lev : Int) (w : World) (hk : (jd n).K w x cs) (htot : totV x ≤ 100000) (hl0 : 0 ≤ lev) (hl1 : lev ≤ 200000) :
    Calls Tryd.prog 103 #[.agg cs.toArray, .int .i64 lev] w fun e w' => e = .returned (.int .i64 (oneN x lev)) ∧ Hid (Below w.heap.size w w') := by
  obtain ⟨n, rfl⟩ := jd_cells hk
  obtain ⟨A2, c2, A3, c3, rfl, l2, g2, l3, g3⟩ := jd_open hk
  obtain ⟨k, t, l, m⟩ := x
  dsimp only at *
  rw [totV] at htot
  have s2 : l.length ≤ 9223372036854775807 := g2.2.1
  have s3 : m.length ≤ 9223372036854775807 := g3.2.1
  have ht : t.size ≤ 1000000 := by omega
  have hmn : m.length ≤ 100000 := by have := totM_len m; omega
  have HNM : Hid (∀ p ∈ m, p.1.size ≤ 1000000) := fun p hp => by have := totM_name m p hp; omega
  change Calls _ _ #[.agg #[.int .i64 k, .string t, .slice A2 l.length c2, .slice A3 m.length c3], .int .i64 lev] _ _
  have HB0 : Hid (Below w.heap.size w (w.alloc (.cells #[.int .i64 k, .string t, .slice A2 l.length c2, .slice A3 m.length c3] 26))) := (Below.refl _ _).alloc (Nat.le_refl _) _
  have HR1 : Hid (Row 26 w.heap.size #[.int .i64 k, .string t, .slice A2 l.length c2, .slice A3 m.length c3] (w.alloc (.cells #[.int .i64 k, .string t, .slice A2 l.length c2, .slice A3 m.length c3] 26))) := Row.new w _ _ rfl
  have G3 := Lib.hid (Kd.C_below g3 HB0.out)
  have HO : Hid (oneN ⟨k, t, l, m⟩ lev = oneN ⟨k, t, l, m⟩ lev) := rfl
  clear hk g2 g3 l2 l3 htot
  have HW := Lib.hid (fun (W : World) => refWritten_any t W ht)
  have HG := Lib.hid (fun (W : World) => good_any t W ht)
  by_cases h32 : 32 < lev
  · have HN : Hid (oneN ⟨k, t, l, m⟩ lev = 9) := by show _ = _; unfold oneN; rw [if_pos h32]
    have k1 : decide (32 < lev) = true := decide_eq_true (by omega)
    go_enter Tryd.func103, Tryd.ntmps103
    go_wp2_with fail
    go_ret
    exact ⟨by rw [HN.out]; rfl, HB0⟩
  have k1 : decide (32 < lev) = false := decide_eq_false (by omega)
  by_cases hkr : k < 0 ∨ 6 < k
  · have HN : Hid (oneN ⟨k, t, l, m⟩ lev = 17) := by show _ = _; unfold oneN; rw [if_neg h32, if_pos hkr]
    by_cases hk0 : k < 0
    · have k2 : decide (k < 0) = true := decide_eq_true hk0
      go_enter Tryd.func103, Tryd.ntmps103
      go_wp2_with fail
      go_ret
      exact ⟨by rw [HN.out]; rfl, HB0⟩
    · have k2 : decide (k < 0) = false := decide_eq_false hk0
      have k3 : decide (6 < k) = true := decide_eq_true (by omega)
      go_enter Tryd.func103, Tryd.ntmps103
      go_wp2_with fail
      go_ret
      exact ⟨by rw [HN.out]; rfl, HB0⟩
  have k2 : decide (k < 0) = false := decide_eq_false (by omega)
  have k3 : decide (6 < k) = false := decide_eq_false (by omega)
  have HK : Hid (0 ≤ k ∧ k ≤ 6) := by show _ ∧ _; omega
  obtain ⟨lb, hlb⟩ : ∃ b, decide (0 < l.length) = b := ⟨_, rfl⟩
  obtain ⟨mb, hmb⟩ : ∃ b, decide (0 < m.length) = b := ⟨_, rfl⟩
  have HA := Lib.hid (alien_eq k t l m)
  rw [hlb, hmb] at HA
  have hlb' : decide ((0 : Int) < (l.length : Int)) = lb := by rw [← hlb]; simp
  have hmb' : decide ((0 : Int) < (m.length : Int)) = mb := by rw [← hmb]; simp
  obtain ⟨nb, hnb⟩ : ∃ b, t.toList.isEmpty = b := ⟨_, rfl⟩
  have hnb2 : (t.toList == []) = nb := by rw [← hnb]; cases t.toList <;> rfl
  have hnb3 : (t.toList != []) = !nb := by rw [bne, hnb2]
  have htb : decide (t.size ≠ 0) = !nb := by
    rw [← hnb]
    by_cases h : t.size = 0
    · rw [(empty_size t).1 h]; have : (⟨#[]⟩ : ByteArray).toList = [] := (toList_nil _).2 rfl; simp [this]; rfl
    · have : t.toList ≠ [] := fun e => h ((empty_size t).2 ((toList_nil t).1 e))
      simp [h, this]
  rw [htb] at HA
  clear htb
  obtain ⟨wb, hwb⟩ : ∃ b, wrt t = b := ⟨_, rfl⟩
  rw [hwb] at HA HW
  obtain ⟨al, Hal⟩ : ∃ b, Hid (alienV ⟨k, t, l, m⟩ = b) := ⟨_, rfl⟩
  rw [Hal.out] at HA
  have HLB := Lib.hid hlb
  have HMB := Lib.hid hmb
  have HNB := Lib.hid hnb2
  have HNB3 := Lib.hid hnb3
  have HLB' := Lib.hid hlb'
  have HMB' := Lib.hid hmb'
  clear hlb hmb hnb hnb2 hnb3 hlb' hmb' hwb
  have H32 := Lib.hid h32
  have HKR := Lib.hid hkr
  clear h32 hkr
  go_enter Tryd.func103, Tryd.ntmps103
  go_upto_region 5 with (fail)
  obtain ⟨w0, hw0⟩ : ∃ w0, w.alloc (.cells #[.int .i64 k, .string t, .slice A2 l.length c2, .slice A3 m.length c3] 26) = w0 := ⟨_, rfl⟩
  rw [hw0] at HB0 HR1 G3 ⊢
  clear hw0
  go_cut [63] (fun v wq => v = .bool al ∧ Hid (Below w0.heap.size w0 wq))
  case first =>
    have d0 := (HR1.out.below (Below.refl _ _)).cell 0 _ rfl
    have d1 := (HR1.out.below (Below.refl _ _)).cell 1 _ rfl
    have d2 := (HR1.out.below (Below.refl _ _)).cell 2 _ rfl
    have d3 := (HR1.out.below (Below.refl _ _)).cell 3 _ rfl
    clear k1 k2 k3
    have fLB := HLB.out
    have fMB := HMB.out
    have fNB := HNB.out
    have fNB3 := HNB3.out
    have fLB' := HLB'.out
    have fMB' := HMB'.out
    clear HLB HMB HNB HNB3 HLB' HMB' HNM HG
    by_cases q3 : k = 3
    · subst q3
      cases wb <;> cases lb <;> cases mb
      all_goals
        go_wp2_with (first | (go_at_call 38; refine (HW.out _).mono ?_; rintro e w4 ⟨rfl, hb4⟩; have HBw := Lib.hid hb4.out; clear hb4))
        (try (go_quiet (fail); go_wp2_with fail))
        all_goals
          go_meet
          case rel => exact ⟨by rw [HA.out]; first | rfl | (cases nb <;> rfl) | (cases lb <;> rfl) | (cases mb <;> rfl), by first | exact Below.refl _ _ | exact pw_below_drewN (Below.refl _ _) _ | exact HBw.out⟩
    by_cases q4 : k = 4
    · subst q4
      cases lb <;> cases mb
      all_goals
        go_wp2_with fail
        (try (go_quiet (fail); go_wp2_with fail))
        all_goals
          go_meet
          case rel => exact ⟨by rw [HA.out]; first | rfl | (cases nb <;> rfl) | (cases lb <;> rfl) | (cases mb <;> rfl), by first | exact Below.refl _ _ | exact pw_below_drewN (Below.refl _ _) _ | exact HBw.out⟩
    by_cases q5 : k = 5
    · subst q5
      cases nb <;> cases mb
      all_goals
        go_wp2_with fail
        (try (go_quiet (fail); go_wp2_with fail))
        all_goals
          go_meet
          case rel => exact ⟨by rw [HA.out]; first | rfl | (cases nb <;> rfl) | (cases lb <;> rfl) | (cases mb <;> rfl), by first | exact Below.refl _ _ | exact pw_below_drewN (Below.refl _ _) _ | exact HBw.out⟩
    by_cases q6 : k = 6
    · subst q6
      cases nb <;> cases lb
      all_goals
        go_wp2_with fail
        (try (go_quiet (fail); go_wp2_with fail))
        all_goals
          go_meet
          case rel => exact ⟨by rw [HA.out]; first | rfl | (cases nb <;> rfl) | (cases lb <;> rfl) | (cases mb <;> rfl), by first | exact Below.refl _ _ | exact pw_below_drewN (Below.refl _ _) _ | exact HBw.out⟩
    have e3 : (k == 3) = false := by rw [beq_eq_false_iff_ne]; exact q3
    have e3' : (k != 3) = true := by rw [bne_iff_ne]; exact q3
    have e4 : (k == 4) = false := by rw [beq_eq_false_iff_ne]; exact q4
    have e4' : (k != 4) = true := by rw [bne_iff_ne]; exact q4
    have e5 : (k == 5) = false := by rw [beq_eq_false_iff_ne]; exact q5
    have e5' : (k != 5) = true := by rw [bne_iff_ne]; exact q5
    have e6 : (k == 6) = false := by rw [beq_eq_false_iff_ne]; exact q6
    have e6' : (k != 6) = true := by rw [bne_iff_ne]; exact q6
    have HA2 : Hid (al = (!nb || (lb || mb))) := by show _ = _; rw [HA.out]; unfold alB; rw [if_neg q3, if_neg q4, if_neg q5, if_neg q6]
    clear HA q3 q4 q5 q6
    have HA := HA2
    cases nb <;> cases lb <;> cases mb
    all_goals
      go_wp2_with fail
      (try (go_quiet (fail); go_wp2_with fail))
      all_goals
        go_meet
        case rel => exact ⟨by rw [HA.out]; first | rfl | (cases nb <;> rfl) | (cases lb <;> rfl) | (cases mb <;> rfl), by first | exact Below.refl _ _ | exact pw_below_drewN (Below.refl _ _) _ | exact HBw.out⟩
  case rest =>
    obtain ⟨rfl, HB1⟩ := hcut
    clear HA HLB HMB HNB HNB3 HLB' HMB' HW k1 k2 k3
    obtain ⟨w1, hw1⟩ : ∃ w1 : World, w1 = wc := ⟨_, rfl⟩
    rw [← hw1] at HB1 ⊢
    clear hw1 wc
    cases al with
    | true =>
      have HN : Hid (oneN ⟨k, t, l, m⟩ lev = 5) := by show _ = _; unfold oneN; rw [if_neg H32.out, if_neg HKR.out, if_pos Hal.out]
      go_wp2_with fail
      go_ret
      exact ⟨by rw [HN.out]; rfl, below_then HB0.out HB0.out.size HB1.out⟩
    | false =>
      obtain ⟨gb, Hgb⟩ : ∃ b, Hid (goodT t = b) := ⟨_, rfl⟩
      rw [Hgb.out] at HG
      obtain ⟨z, Hz⟩ : ∃ b, Hid ((decide (k = 4) && !gb) = b) := ⟨_, rfl⟩
      go_upto_region 7 with (fail)
      go_cut [72] (fun v wq => v = .bool z ∧ Hid (Below w0.heap.size w0 wq))
      case first =>
        have d0 := (HR1.out.below HB1.out).cell 0 _ rfl
        have d1 := (HR1.out.below HB1.out).cell 1 _ rfl
        have d2 := (HR1.out.below HB1.out).cell 2 _ rfl
        have d3 := (HR1.out.below HB1.out).cell 3 _ rfl
        by_cases q4 : k = 4
        · subst q4
          go_wp2_with (first | (go_at_call 118; refine (HG.out _).mono ?_; rintro e w4 ⟨rfl, hb4⟩))
          go_meet
          case rel => exact ⟨by rw [← Hz.out]; simp, below_then HB1.out HB1.out.size hb4.out⟩
        · have e4 : (k == 4) = false := by rw [beq_eq_false_iff_ne]; exact q4
          go_wp2_with fail
          go_meet
          case rel => exact ⟨by rw [← Hz.out]; simp [q4], HB1.out⟩
      case rest =>
        obtain ⟨rfl, HB2⟩ := hcut
        obtain ⟨w2, hw2⟩ : ∃ w2 : World, w2 = wc := ⟨_, rfl⟩
        rw [← hw2] at HB2 ⊢
        clear hw2 wc HB1 w1 HG
        cases z with
        | true =>
          have hz := Hz.out
          rw [Bool.and_eq_true, decide_eq_true_eq, Bool.not_eq_true'] at hz
          have HN : Hid (oneN ⟨k, t, l, m⟩ lev = 1) := by show _ = _; unfold oneN; rw [if_neg H32.out, if_neg HKR.out, if_neg (by rw [Hal.out]; simp), if_pos ⟨hz.1, by rw [Hgb.out]; exact hz.2⟩]
          clear hz
          go_wp2_with fail
          go_ret
          exact ⟨by rw [HN.out]; rfl, below_then HB0.out HB0.out.size HB2.out⟩
        | false =>
          have HN4 : Hid (oneN ⟨k, t, l, m⟩ lev = if (m.map Prod.fst).all goodT = false then 1 else if dupN [] (nms m) = true then 7 else 0) := by
            show _ = _
            unfold oneN
            rw [if_neg H32.out, if_neg HKR.out, if_neg (by rw [Hal.out]; simp), if_neg (by rintro ⟨h1, h2⟩; have := Hz.out; dsimp only at h1 h2; rw [Hgb.out] at h2; simp [h1, h2] at this)]
          clear Hz Hgb Hal H32 HKR HK HO
          go_wp2_with fail
          go_loopg [5] m.length (fun g v5 wi => ∃ j : Nat, v5 = .int .i64 (j : Int) ∧ Hid (j + g = m.length) ∧ Hid (∀ q, q < j → goodT (m.getD q (⟨#[]⟩, jz)).1 = true) ∧ Hid (Below w0.heap.size w0 wi))
          case atStart => exact ⟨0, rfl, by show _ = _; omega, (fun q hq => absurd hq (by omega)), HB2.out⟩
          case round =>
            obtain ⟨j, rfl, HJ, HD, HB⟩ := hrel
            have ca := (HR1.out.below HB.out).cell 3 _ rfl
            by_cases hlt : j < m.length
            · have k3 : decide (j < m.length) = true := by simpa using hlt
              obtain ⟨ad, X2, x2, X3, x3, hA, _, qn, _, _, _, _⟩ := jm_at (Kd.C_below G3.out HB.out) j hlt
              rw [hA] at ca
              have k0 : (0 : Int) ≤ (j : Int) := by omega
              have k1 : (j : Int) < (m.length : Int) := by omega
              obtain ⟨g1, rfl⟩ : ∃ g1, gk = g1 + 1 := ⟨gk - 1, by have := HJ.out; omega⟩
              have hsz := HNM.out _ (getD_mem' m j (⟨#[]⟩, jz) hlt)
              obtain ⟨gb, Hgb⟩ : ∃ b, Hid (goodT (m.getD j (⟨#[]⟩, jz)).1 = b) := ⟨_, rfl⟩
              have HG := Lib.hid (fun (W : World) => good_any _ W hsz)
              rw [Hgb.out] at HG
              clear hA hsz
              cases gb with
              | true =>
                have HD2 : Hid (∀ q, q < j + 1 → goodT (m.getD q (⟨#[]⟩, jz)).1 = true) := fun q hq => by
                  rcases Nat.lt_succ_iff_lt_or_eq.1 hq with h | rfl
                  · exact HD.out q h
                  · exact Hgb.out
                clear HD Hgb
                generalize (m.getD j (⟨#[]⟩, jz)).1 = nj at qn HG
                go_wp2_with (first | (go_at_call 118; refine (HG.out _).mono ?_; rintro e w4 ⟨rfl, hb4⟩))
                go_roundg g1
                case measure => omega
                case rel => exact ⟨j + 1, by go_num, by have := HJ.out; show _ = _; omega, HD2.out, below_then HB.out HB.out.size hb4.out⟩
              | false =>
                have HN : Hid (oneN ⟨k, t, l, m⟩ lev = 1) := by
                  show _ = _
                  rw [HN4.out, if_pos]
                  cases h : (m.map Prod.fst).all goodT with
                  | false => rfl
                  | true => rw [all_good] at h; have := h j hlt; rw [Hgb.out] at this; cases this
                clear HD Hgb
                generalize (m.getD j (⟨#[]⟩, jz)).1 = nj at qn HG
                go_wp2_with (first | (go_at_call 118; refine (HG.out _).mono ?_; rintro e w4 ⟨rfl, hb4⟩))
                go_ret
                exact ⟨by rw [HN.out]; rfl, below_then HB0.out HB0.out.size (below_then HB.out HB.out.size hb4.out)⟩
            · have k3 : decide (j < m.length) = false := by simpa using hlt
              obtain rfl : j = m.length := by have := HJ.out; omega
              have HN5 : Hid (oneN ⟨k, t, l, m⟩ lev = if dupN [] (nms m) = true then 7 else 0) := by show _ = _; rw [HN4.out, if_neg (by rw [(all_good m).2 HD.out]; simp)]
              clear HD HJ HN4 hlt
              go_wp2_with fail
              obtain ⟨wm, hwm⟩ : ∃ wm : World, wm = wr := ⟨_, rfl⟩
              rw [← hwm] at HB ⊢
              clear hwm ca wr
              go_loopg [6, 7] m.length (fun g v6 v7 wi => ∃ j : Nat, v6 = .int .i64 (j : Int) ∧ Hid (j + g = m.length) ∧ Hid (dupN [] (nms (m.take j)) = false) ∧ Hid (Below w0.heap.size w0 wi))
              case atStart => exact ⟨0, rfl, by show _ = _; omega, rfl, HB.out⟩
              case round =>
                clear HB
                obtain ⟨j, rfl, HJ, HD, HB⟩ := hrel
                have ca := (HR1.out.below HB.out).cell 3 _ rfl
                by_cases hlt : j < m.length
                · have k3 : decide (j < m.length) = true := by simpa using hlt
                  obtain ⟨g1, rfl⟩ : ∃ g1, gk = g1 + 1 := ⟨gk - 1, by have := HJ.out; omega⟩
                  go_wp2_with fail
                  obtain ⟨wn, hwn⟩ : ∃ wn : World, wn = wr := ⟨_, rfl⟩
                  rw [← hwn] at HB ⊢
                  clear hwn ca wr k3
                  go_loopg [7] j (fun g v7 wi => ∃ q : Nat, v7 = .int .i64 (q : Int) ∧ Hid (q + g = j) ∧ Hid (∀ r, r < q → (m.getD r (⟨#[]⟩, jz)).1 ≠ (m.getD j (⟨#[]⟩, jz)).1) ∧ Hid (Below w0.heap.size w0 wi))
                  case atStart => exact ⟨0, rfl, by show _ = _; omega, (fun r hr => absurd hr (by omega)), HB.out⟩
                  case round =>
                    clear HB
                    obtain ⟨q, rfl, HQ, HE, HB⟩ := hrel
                    have ca := (HR1.out.below HB.out).cell 3 _ rfl
                    by_cases hqj : q < j
                    · have k3 : decide (q < j) = true := by simpa using hqj
                      obtain ⟨ad, X2, x2, X3, x3, hA, _, qn, _, _, _, _⟩ := jm_at (Kd.C_below G3.out HB.out) j hlt
                      obtain ⟨ad2, Y2, y2, Y3, y3, hA2, _, pn, _, _, _, _⟩ := jm_at (Kd.C_below G3.out HB.out) q (by omega)
                      obtain rfl : ad = ad2 := by rw [hA] at hA2; injection hA2
                      rw [hA] at ca
                      have k0 : (0 : Int) ≤ (j : Int) := by omega
                      have k1 : (j : Int) < (m.length : Int) := by omega
                      have k0q : (0 : Int) ≤ (q : Int) := by omega
                      have k1q : (q : Int) < (m.length : Int) := by omega
                      obtain ⟨g2, rfl⟩ : ∃ g2, gk = g2 + 1 := ⟨gk - 1, by have := HQ.out; omega⟩
                      clear hA hA2
                      by_cases hne : (m.getD q (⟨#[]⟩, jz)).1 = (m.getD j (⟨#[]⟩, jz)).1
                      · have HN : Hid (oneN ⟨k, t, l, m⟩ lev = 7) := by
                          show _ = _
                          rw [HN5.out, if_pos]
                          apply dup_more m (j + 1)
                          rw [nms_take m j hlt, dupN_snoc, List.nil_append, decide_eq_true, Bool.or_true]
                          rw [mem_nms_take m j _ (by omega)]
                          exact ⟨q, hqj, by rw [hne]⟩
                        rw [hne] at pn
                        clear HE hne
                        generalize (m.getD j (⟨#[]⟩, jz)).1 = nj at qn pn
                        go_wp2_with fail
                        (try (go_quiet (fail); go_wp2_with fail))
                        go_ret
                        exact ⟨by rw [HN.out]; rfl, below_then HB0.out HB0.out.size (pw_below_drewN HB.out _)⟩
                      · have HE2 : Hid (∀ r, r < q + 1 → (m.getD r (⟨#[]⟩, jz)).1 ≠ (m.getD j (⟨#[]⟩, jz)).1) := fun r hr => by
                          rcases Nat.lt_succ_iff_lt_or_eq.1 hr with h | rfl
                          · exact HE.out r h
                          · exact hne
                        have e2 := tl_false (fun h => hne h.symm)
                        have e3 := tl_false hne
                        clear HE hne
                        generalize hnj : (m.getD j (⟨#[]⟩, jz)).1 = nj at qn e2 e3
                        clear hnj
                        generalize hnq : (m.getD q (⟨#[]⟩, jz)).1 = nq at pn e2 e3
                        clear hnq
                        go_wp2_with fail
                        (try (go_quiet (fail); go_wp2_with fail))
                        go_roundg g2
                        case measure => omega
                        case rel => exact ⟨q + 1, by go_num, by have := HQ.out; show _ = _; omega, HE2.out, pw_below_drewN HB.out _⟩
                    · have k3 : decide (q < j) = false := by simpa using hqj
                      obtain rfl : q = j := by have := HQ.out; omega
                      have HD2 : Hid (dupN [] (nms (m.take (q + 1))) = false) := by
                        show _ = _
                        rw [nms_take m q hlt, dupN_snoc, HD.out, List.nil_append, Bool.false_or, decide_eq_false_iff_not, mem_nms_take m q _ (by omega)]
                        rintro ⟨r, hr, he⟩
                        exact HE.out r hr (ints_inj he.symm)
                      clear HE HD
                      go_wp2_with fail
                      go_roundg g1
                      case measure => omega
                      case rel => exact ⟨q + 1, by go_num, by have := HJ.out; show _ = _; omega, HD2.out, HB.out⟩
                · have k3 : decide (j < m.length) = false := by simpa using hlt
                  obtain rfl : j = m.length := by have := HJ.out; omega
                  have HN : Hid (oneN ⟨k, t, l, m⟩ lev = 0) := by show _ = _; rw [HN5.out, if_neg (by have := HD.out; rw [List.take_length] at this; rw [this]; simp)]
                  clear HD HJ hlt
                  go_wp2_with fail
                  go_ret
                  exact ⟨by rw [HN.out]; rfl, below_then HB0.out HB0.out.size HB.out⟩
end Go.Proofs.YtpdpgppaoipnlaaDoor

