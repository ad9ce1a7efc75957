/- The document's answer of chapter 13: an object. (Printed by rvo.py.) The document's answer of chapter 13: values of all levels; Read. (Printed by rv9.py.) -/
import Derived.Test.YtpdpgppaoipnlaaDoorK3
set_option linter.unusedVariables false
set_option linter.unusedSimpArgs false
namespace Go.Proofs.YtpdpgppaoipnlaaDoor
section
open Go.RowKit Go.PlainAid
open Go.Proofs.YtpdpgppaoipnlaaDoorW.PrintWords hiding bt
open Go.Proofs.YtpdpgppaoipnlaaDoorW.PrintMore

theorem nms_mem {acc : List (ByteArray × JV)} {t : ByteArray} : ints t ∈ nms acc ↔ ∃ k : Nat, k < acc.length ∧ (acc.getD k (⟨#[]⟩, jz)).1 = t := by
  unfold nms
  rw [List.mem_map]
  constructor
  · rintro ⟨p, hp, he⟩
    obtain ⟨k, hk, hkp⟩ := List.getElem_of_mem hp
    refine ⟨k, hk, ?_⟩
    rw [List.getD_eq_getElem?_getD, List.getElem?_eq_getElem hk, Option.getD_some, hkp]
    exact ints_inj he
  · rintro ⟨k, hk, rfl⟩
    refine ⟨acc.getD k (⟨#[]⟩, jz), ?_, rfl⟩
    rw [List.getD_eq_getElem?_getD, List.getElem?_eq_getElem hk, Option.getD_some]
    exact List.getElem_mem hk
theorem tl_true {a b : ByteArray} (h : a = b) : (a.toList == b.toList) = true := by subst h; exact beq_self_eq_true _
theorem tl_false {a b : ByteArray} (h : ¬ a = b) : (a.toList == b.toList) = false := by
  rw [beq_eq_false_iff_ne]
  intro e
  apply h
  cases a; cases b
  simpa [ByteArray.toList_eq, Array.toList_inj] using e
theorem M_newm {L : Nat} {w5 w6 : World} {B C : Nat} {n : ByteArray} {x : JV} {cs : List Value} (h : (jd L).M w5 C (fun k => C ≤ k) x cs) (hb : Below w5.heap.size w5 w6) (hBC : B ≤ C) : (jm L).M w6 B (fun k => C ≤ k ∧ k < w5.heap.size) (n, x) (.string n :: cs) :=
  ⟨[_], cs, rfl, rfl, M_new h hb hBC⟩

set_option maxHeartbeats 4000000 in
set_option maxRecDepth 100000 in
theorem rv_obj (L : Nat) (s : ByteArray) (i : Nat) (w : World) (lev : Int) (hL : L ≤ 31) (hlev : lev = 32 - L) (hl : s.size ≤ 100000) (hi : i < s.size) (hb : bt s i = 123) (hrec : RefAll L) :
    Calls Tryd.prog 20 #[.string s, .int .i64 i, .int .i64 lev] w (GotIs (L + 1) (valAt s (L + 1) i) w) := by
  have hst : starter (bt s i) = true := by rw [hb]; rfl
  have HA : Hid (valAt s (L + 1) i = objAt s L i) := by
    show _ = _
    rw [valAt_succ s L i hi hst, if_neg (by omega), if_neg (by omega), if_neg (by omega), if_neg (by omega), if_neg (by omega), if_pos hb]
  clear hst
  have h1 : decide (s.size ≤ i) = false := by simpa using hi
  have hlv : decide (32 < lev) = false := by simp; omega
  have hbt := get_bt s
  have e110 : (bt s i == 110) = false := by rw [hb]; decide
  have e102 : (bt s i == 102) = false := by rw [hb]; decide
  have e116 : (bt s i == 116) = false := by rw [hb]; decide
  have e34 : (bt s i == 34) = false := by rw [hb]; decide
  have e91 : (bt s i == 91) = false := by rw [hb]; decide
  have e123 : (bt s i == 123) = true := by rw [hb]; decide
  have e45 : (bt s i == 45) = false := by rw [hb]; decide
  have n91 : (bt s i != 91) = true := by rw [hb]; decide
  have n123 : (bt s i != 123) = false := by rw [hb]; decide
  have HV0 : Hid (Row 32 w.heap.size (gotZ 0 0) (w.alloc (.cells (gotZ 0 0) 32))) := Row.new w _ _ rfl
  have HB0 : Hid (Below w.heap.size w (w.alloc (.cells (gotZ 0 0) 32))) := (Below.refl _ _).alloc (Nat.le_refl _) _
  have HREC := Lib.hid hrec
  have HIS := isAt_open s hl
  have HV1 : Hid (Row 26 (w.heap.size + 1) (leafA 6 ⟨#[]⟩) ((w.alloc (.cells (gotZ 0 0) 32)).alloc (.cells (leafA 6 ⟨#[]⟩) 26))) := Row.new _ _ _ (by simp)
  have HVA := Lib.hid (HV0.out.old (.cells (leafA 6 ⟨#[]⟩) 26))
  have HBA := Lib.hid (HB0.out.alloc HB0.out.size (.cells (leafA 6 ⟨#[]⟩) 26))
  clear hb hrec HV0 HB0
  go_enter Tryd.func20, Tryd.ntmps20
  go_wp2_with fail
  change Calls _ _ _ ((w.alloc (.cells (gotZ 0 0) 32)).alloc (.cells (leafA 6 ⟨#[]⟩) 26)) _
  generalize (w.alloc (.cells (gotZ 0 0) 32)).alloc (.cells (leafA 6 ⟨#[]⟩) 26) = w0 at *
  have hn0 : w.heap.size + 2 ≤ w0.heap.size := by have := HV1.out.lt; omega
  refine (r13_Space s (i + 1) _ _ (by push_cast; rfl) (by omega) (by omega)).mono ?_
  rintro e w1 ⟨rfl, rfl⟩
  have hsp := spc_le s (i + 1) (by omega)
  obtain ⟨z, Hz⟩ : ∃ z, Hid (isAt s (spc s (i + 1)) 125 = z) := ⟨_, rfl⟩
  go_wp2_with fail
  refine (HIS.out (spc s (i + 1)) 125 z (by omega) (by omega) (by omega) Hz.out _ _ rfl).mono ?_
  rintro e w1 ⟨rfl, rfl⟩
  cases z with
  | true =>
    have HA2 : Hid (valAt s (L + 1) i = (⟨6, ⟨#[]⟩, [], []⟩, ((spc s (i + 1) : Nat) : Int) + 1, 0)) := by show _ = _; rw [HA.out]; unfold objAt; rw [if_pos Hz.out]
    clear HA Hz
    generalize spc s (i + 1) = q at *
    go_wp2_with (first | ((with_reducible refine wpl_get_val (a0 := .int .i64 6) (a1 := .string ⟨#[]⟩) (a2 := .slice none 0 0) (a3 := .slice none 0 0) HV1.out ?hx ?_); (case hx => rfl)) | ((with_reducible refine wpl_put_got (cs := ?_) HVA.out rfl ?hx ?hy ?hs ?hz ?_); (case hx => rfl); (case hy => rfl); (case hs => rfl); (case hz => (first | exact one7 HC.out | (simp [Value.oneCell']; done))); intro W9 hr9 hw9; have HV9 := Lib.hid hr9; have HB9 := Lib.hid (hw9.below HBA.out (Nat.le_refl _)); have HW9 := Lib.hid hw9; clear hr9 hw9))
    (try simp only [Exit.inBlock, Exit.then])
    refine bodyPost_ret (v := .agg #[.int .i64 6, .string ⟨#[]⟩, .slice none 0 0, .slice none 0 0, .string ⟨#[]⟩, .int .i64 ((q : Int) + 1), .int .i64 0]) ?_ rfl ?_
    · exact results_got rfl _ _ _ _ rfl HV9.out rfl
    · rw [HA2.out]
      exact ⟨_, _, _, _, _, rfl, fun _ => jdM_leaf L _ _ _ 6 ⟨#[]⟩, (show (_ : Bool) = true by simp [Value.oneCell']), HB9.out⟩
  | false =>
    have HA2 : Hid (valAt s (L + 1) i = objK s (valAt s L) s.size (spc s (i + 1)) []) := by show _ = _; rw [HA.out]; unfold objAt; rw [if_neg (by rw [Hz.out]; simp)]
    clear HA Hz
    have hvv : ∀ j, (valAt s L j).2.2 = 0 → ∃ p : Nat, (valAt s L j).2.1 = p ∧ j < p ∧ p ≤ s.size := fun j => valAt_ends s L j
    have HP := Lib.hid hvv
    clear hvv
    go_wp2_with fail
    go_loopg [11] s.size (fun k v11 w' => ∃ (acc : List (ByteArray × JV)) (j : Nat) (lv : Value), v11 = .int .i64 j ∧ Hid (j ≤ s.size ∧ s.size + 1 ≤ j + k ∧ acc.length + 1 ≤ j) ∧ Hid (objK s (valAt s L) k j acc = valAt s (L + 1) i) ∧ Hid (Row 32 w.heap.size (gotZ 0 0) w') ∧ Hid (Row 26 (w.heap.size + 1) #[.int .i64 6, .string ⟨#[]⟩, .slice none 0 0, lv] w') ∧ Hid (Below w.heap.size w w') ∧ Hid ((jm L).R 50 w' (w.heap.size + 2) (fun k => w.heap.size + 2 ≤ k) lv acc) ∧ w.heap.size + 2 ≤ w'.heap.size)
    case atStart => exact ⟨[], spc s (i + 1), _, rfl, ⟨hsp.2, by omega, by simp; omega⟩, HA2.out.symm, HVA.out, HV1.out, HBA.out, Kd.R_nil _ _ _ _ _, hn0⟩
    case round =>
      obtain ⟨acc, j, lv, rfl, HI, HD, HV, HVv, HB, HL, hn⟩ := hrel
      clear HVA HV1 HBA hn0 hsp HA2
      obtain ⟨k1, rfl⟩ : ∃ k1, gk = k1 + 1 := ⟨gk - 1, by have := HI.out; omega⟩
      have hj := HI.out.1
      have hsp := spc_le s j hj
      have hd := HD.out
      unfold objK at hd
      dsimp only at hd
      go_wp2_with fail
      refine (r13_Space s j _ _ rfl (by omega) hj).mono ?_
      rintro e w1 ⟨rfl, rfl⟩
      go_wp2_with fail
      refine (r13_Str s (spc s j) _ _ rfl hl hsp.2).mono ?_
      rintro e w2 ⟨nm, rfl, hnm, hb2⟩
      have HV2 := Lib.hid (HV.out.below hb2.out)
      have HVv2 := Lib.hid (HVv.out.below hb2.out)
      have HB2 := Lib.hid (below_then HB.out HB.out.size hb2.out)
      have HL2 := Lib.hid (Kd.R_below HL.out hb2.out)
      have hn2 : w.heap.size + 2 ≤ w2.heap.size := Nat.le_trans hn hb2.out.size
      have G2 : Hid (Row 32 w2.heap.size (gotZ 0 0) (w2.alloc (.cells (gotZ 0 0) 32))) := Row.new w2 _ _ rfl
      have G2V := Lib.hid (HV2.out.old (.cells (gotZ 0 0) 32))
      have G2W := Lib.hid (HVv2.out.old (.cells (gotZ 0 0) 32))
      have G2B := Lib.hid (HB2.out.alloc HB2.out.size (.cells (gotZ 0 0) 32))
      clear HV HVv HB HL hb2 HD
      by_cases hc : (strAt s (spc s j)).2.2 = 0
      · rw [if_neg (fun h => h hc)] at hd
        obtain ⟨p, hp1, hp2, hp3⟩ := strAt_range s _ hc
        have hnm2 := hnm.out hc
        rw [← hnm2, hp1, Int.toNat_natCast] at hd
        rw [hp1, hc]
        replace HD := Lib.hid hd
        clear hd hnm hnm2 hp1 hc
        obtain ⟨A0, c0, rfl, hlc0, HCr⟩ := Kd.R_reads HL2.out
        replace HCr := Lib.hid HCr
        go_upto_region 35 with (first | ((with_reducible refine wpl_put_got (cs := ?_) G2.out rfl ?hx ?hy ?hs ?hz ?_); (case hx => rfl); (case hy => rfl); (case hs => rfl); (case hz => (first | exact one7 HC.out | (simp [Value.oneCell']; done))); intro w3 hr3 hw3; have HG3 := Lib.hid hr3; have HV3 := Lib.hid (hw3.row G2V.out (by omega)); have HVv3 := Lib.hid (hw3.row G2W.out (by omega)); have HB3 := Lib.hid (hw3.below G2B.out (by omega)); have hb3 := new_below hw3; have HL3 := Lib.hid (Kd.R_below HL2.out hb3); have HC3 := Lib.hid (Kd.C_below HCr.out hb3); have hn3 : w.heap.size + 2 ≤ w3.heap.size := Nat.le_trans hn2 hb3.size; have c36 := hr3.cell 6 _ rfl; have c35 := hr3.cell 5 _ rfl; have c34 := hr3.cell 4 _ rfl; have c33 := HVv3.out.cell 3 _ rfl; clear hr3 hw3 hb3))
        go_wp2_with fail
        go_loopg [14] acc.length (fun g v14 wi => ∃ k : Nat, v14 = .int .i64 k ∧ Hid (k + g = acc.length) ∧ Hid (∀ m, m < k → (acc.getD m (⟨#[]⟩, jz)).1 ≠ nm) ∧ Hid (Drawn0 w3 wi))
        case atStart => exact ⟨0, rfl, by show _ = _; omega, fun m hm => by omega, Drawn0.refl _⟩
        case round =>
          obtain ⟨k, rfl, HK, HNE, HWi⟩ := hrel
          obtain ⟨⟨nd, hwi⟩⟩ := HWi.out
          subst hwi
          clear HWi
          have c33n : ∀ n, (w3.drewN n).cell? ⟨w.heap.size + 1, 3, none⟩ = some (.slice A0 acc.length c0) := fun _ => c33
          have c34n : ∀ n, (w3.drewN n).cell? ⟨w2.heap.size, 4, none⟩ = some (.string nm) := fun _ => c34
          by_cases hlt : k < acc.length
          · obtain ⟨ad, _, _, _, _, rfl, _, cn, _⟩ := jm_at HC3.out k hlt
            have hkb : k ≤ 100000 := by have := HI.out; omega
            have cnn : ∀ n, (w3.drewN n).cell? (ad.add (k * 5)) = some (.string (acc.getD k (⟨#[]⟩, jz)).1) := fun _ => cn
            have k0 : (0 : Int) ≤ (k : Int) := by omega
            have k1' : (k : Int) < acc.length := by omega
            have hdl : decide (k < acc.length) = true := by simpa using hlt
            by_cases heq : (acc.getD k (⟨#[]⟩, jz)).1 = nm
            · have HA2 : Hid (valAt s (L + 1) i = (jz, ((spc s j : Nat) : Int), 7)) := by
                have hd := HD.out
                rw [if_pos (nms_mem.2 ⟨k, hlt, heq⟩)] at hd
                exact hd.symm
              have e1 := tl_true heq
              clear HD HNE heq
              generalize (acc.getD k (⟨#[]⟩, jz)).1 = an at *
              have HV4 : Hid (∀ n, Row 32 w.heap.size (gotZ 0 0) (w3.drewN n)) := fun _ => HV3.out
              have HB4 : Hid (∀ n, Below w.heap.size w (w3.drewN n)) := fun n => pw_below_drewN HB3.out n
              go_wp2_with fail
              go_quiet (fail)
              go_wp2_with (first | ((with_reducible refine wpl_put_got (cs := ?_) (HV4.out _) rfl ?hx ?hy ?hs ?hz ?_); (case hx => rfl); (case hy => rfl); (case hs => rfl); (case hz => (first | exact one7 HC.out | (simp [Value.oneCell']; done))); intro W9 hr9 hw9; have HV9 := Lib.hid hr9; have HB9 := Lib.hid (hw9.below (HB4.out _) (Nat.le_refl _)); clear hr9 hw9))
              (try simp only [Exit.inBlock, Exit.then])
              refine bodyPost_ret (v := .agg (gotZ (spc s j) 7)) ?_ rfl ?_
              · exact results_got rfl _ _ _ _ rfl HV9.out rfl
              · rw [HA2.out]
                exact ⟨_, _, _, _, _, rfl, fun h => absurd h (show ¬ ((7 : Int) = 0) by omega), (show (_ : Bool) = true by simp [Value.oneCell']), HB9.out⟩
            · have e1 := tl_false heq
              have HNE2 : Hid (∀ m, m < k + 1 → (acc.getD m (⟨#[]⟩, jz)).1 ≠ nm) := by
                intro m hm
                by_cases h : m = k
                · subst h; exact heq
                · exact HNE.out m (by omega)
              obtain ⟨g1, rfl⟩ : ∃ g1, gk = g1 + 1 := ⟨gk - 1, by have := HK.out; omega⟩
              clear HNE heq
              generalize (acc.getD k (⟨#[]⟩, jz)).1 = an at *
              go_wp2_with fail
              go_quiet (fail)
              go_wp2_with fail
              go_roundg g1
              case measure => omega
              case rel => exact ⟨k + 1, by go_num, by have := HK.out; show _ = _; omega, HNE2.out, (show Drawn0 w3 _ from ⟨⟨_, rfl⟩⟩)⟩
          · obtain rfl : k = acc.length := by have := HK.out; omega
            have hd := HD.out
            rw [if_neg (fun h => by obtain ⟨m, hm, he⟩ := nms_mem.1 h; exact HNE.out m hm he)] at hd
            replace HD := Lib.hid hd
            have hdl : decide (acc.length < acc.length) = false := by simp
            clear hd HNE
            go_wp2_with fail
            have HV4 : Hid (Row 32 w.heap.size (gotZ 0 0) (w3.drewN nd)) := HV3.out
            have HVv4 : Hid (Row 26 (w.heap.size + 1) #[.int .i64 6, .string ⟨#[]⟩, .slice none 0 0, .slice A0 acc.length c0] (w3.drewN nd)) := HVv3.out
            have HB4 : Hid (Below w.heap.size w (w3.drewN nd)) := pw_below_drewN HB3.out nd
            have HL4 : Hid ((jm L).R 50 (w3.drewN nd) (w.heap.size + 2) (fun k => w.heap.size + 2 ≤ k) (.slice A0 acc.length c0) acc) := Kd.R_below HL3.out (pw_below_drewN (Below.refl _ _) nd)
            have hn4 : w.heap.size + 2 ≤ (w3.drewN nd).heap.size := hn3
            clear HV3 HVv3 HB3 HL3 HC3 HG3 hn3 c36 c35 c34 c33 c33n c34n HK hlt hdl G2 G2V G2W G2B HL2 HV2 HVv2 HB2 hn2 HCr
            generalize w3.drewN nd = w4 at *
            have hs1 := spc_le s p hp3
            refine (r13_Space s p _ _ rfl (by omega) hp3).mono ?_
            rintro e w1 ⟨rfl, rfl⟩
            generalize spc s p = i2 at *
            obtain ⟨z, Hz⟩ : ∃ z, Hid (isAt s i2 58 = z) := ⟨_, rfl⟩
            have hd := HD.out
            rw [Hz.out] at hd
            go_wp2_with fail
            refine (HIS.out i2 58 z (by omega) (by omega) (by omega) Hz.out _ _ rfl).mono ?_
            rintro e w1 ⟨rfl, rfl⟩
            cases z with
            | false =>
              rw [if_pos rfl] at hd
              have HA2 : Hid (valAt s (L + 1) i = (jz, badAt s i2)) := hd.symm
              clear hd HD
              go_wp2_with fail
              refine (r13_bad s i2 _ _ rfl (by omega) (by omega)).mono ?_
              rintro e w9 ⟨rfl, hb9⟩
              have HVa := Lib.hid (HV4.out.below hb9.out)
              have HBa := Lib.hid (below_then HB4.out HB4.out.size hb9.out)
              clear hb9
              go_wp2_with (first | ((with_reducible refine wpl_put_got (cs := ?_) HVa.out rfl ?hx ?hy ?hs ?hz ?_); (case hx => rfl); (case hy => rfl); (case hs => rfl); (case hz => (first | exact one7 HC.out | (simp [Value.oneCell']; done))); intro W9 hr9 hw9; have HV9 := Lib.hid hr9; have HB9 := Lib.hid (hw9.below HBa.out (Nat.le_refl _)); have HW9 := Lib.hid hw9; clear hr9 hw9))
              (try simp only [Exit.inBlock, Exit.then])
              refine bodyPost_ret (v := .agg (gotZ (badAt s i2).1 (badAt s i2).2)) ?_ rfl ?_
              · exact results_got rfl _ _ _ _ rfl HV9.out rfl
              · exact GotIs.bad' (by rw [HA2.out]) HB9.out
            | true =>
              rw [if_neg (by simp)] at hd
              replace HD := Lib.hid hd
              have hi2 := (isAt_lt Hz.out).1
              have hs3 := spc_le s (i2 + 1) (by omega)
              clear hd
              go_wp2_with fail
              refine (r13_Space s (i2 + 1) _ _ (by push_cast; rfl) (by omega) (by omega)).mono ?_
              rintro e w1 ⟨rfl, rfl⟩
              generalize spc s (i2 + 1) = i3 at *
              have hd := HD.out
              go_wp2_with fail
              refine (HREC.out s i3 _ _ _ rfl (by omega) hl hs3.2).mono ?_
              rintro e w5 ⟨a0, a1, a2, a3, t, rfl, hm, HC, hb5⟩
              have HV5 := Lib.hid (HV4.out.below hb5.out)
              have HVv5 := Lib.hid (HVv4.out.below hb5.out)
              have HB5 := Lib.hid (below_then HB4.out HB4.out.size hb5.out)
              have HL5 := Lib.hid (Kd.R_below HL4.out hb5.out)
              have hn5 : w.heap.size + 2 ≤ w5.heap.size := Nat.le_trans hn4 hb5.out.size
              have H8 : Hid (Row 32 w5.heap.size (gotZ 0 0) (w5.alloc (.cells (gotZ 0 0) 32))) := Row.new w5 _ _ rfl
              have H8V := Lib.hid (HV5.out.old (.cells (gotZ 0 0) 32))
              have H8W := Lib.hid (HVv5.out.old (.cells (gotZ 0 0) 32))
              have H8B := Lib.hid (HB5.out.alloc HB5.out.size (.cells (gotZ 0 0) 32))
              have hbs := hb5.out.size
              have HLT : Hid (∀ k, (Value.slice A0 acc.length c0).ownBlock = some k → k < w4.heap.size) := fun k hk => Kd.R_lt HL4.out k hk
              clear HV4 HVv4 HB4 HL4 hb5 HD
              by_cases hc : (valAt s L i3).2.2 = 0
              · rw [if_neg (fun h => h hc)] at hd
                obtain ⟨p4, hp1, hp4, hp5⟩ := HP.out _ hc
                have HM := Lib.hid (hm.out hc)
                generalize valAt s L i3 = r at *
                obtain ⟨x, e1, e2⟩ := r
                dsimp only at hc hp1 hd HM ⊢
                subst hc hp1
                rw [Int.toNat_natCast] at hd
                have HD := Lib.hid hd
                clear hd hm
                have HLEN : Hid ((acc.length + 1) * 88 ≤ 140737488355328) := by have := HI.out; show _ ≤ _; omega
                have HZ : Hid ((Tryd.prog.info? 50).map (fun i => (i.zero, i.size, i.bytes)) = some (some (.agg #[.string ⟨#[]⟩, .int .i64 0, .string ⟨#[]⟩, .slice none 0 0, .slice none 0 0]), (jm L).sz, 88)) := by show _ = _; rw [jm_sz L]; exact info_m
                have HZ1 : Hid ((Value.agg #[.string ⟨#[]⟩, .int .i64 0, .string ⟨#[]⟩, .slice none 0 0, .slice none 0 0]).cells.size = (jm L).sz) := by show _ = _; rw [jm_sz L]; rfl
                have HZ2 : Hid (0 < (jm L).sz) := by show _ < _; rw [jm_sz L]; omega
                go_wp2_with (first
                  | ((with_reducible refine wpl_put_got (cs := ?_) H8.out rfl ?hx ?hy ?hs ?hz ?_); (case hx => rfl); (case hy => rfl); (case hs => rfl); (case hz => (first | exact one7 HC.out | (simp [Value.oneCell']; done))); intro w6 hr6 hw6; have HR6 := Lib.hid hr6; have HV6 := Lib.hid (hw6.row H8V.out (by omega)); have HW6 := Lib.hid (hw6.row H8W.out (by omega)); have HB6 := Lib.hid (hw6.below H8B.out (by omega)); have c66 := hr6.cell 6 _ rfl; have c65 := hr6.cell 5 _ rfl; have c63 := HW6.out.cell 3 _ rfl; have hb6 := new_below hw6; have HM6 : Hid ((jm L).M w6 (w.heap.size + 2) (fun k => w4.heap.size ≤ k ∧ k < w5.heap.size) (nm, x) [.string nm, a0, a1, a2, a3]) := M_newm HM.out hb6 (by omega); have HL6 := Lib.hid (Kd.R_below HL5.out hb6); have hn6 : w.heap.size + 2 ≤ w6.heap.size := Nat.le_trans hn5 hb6.size; have HOK : Hid (∀ k, w4.heap.size ≤ k ∧ k < w5.heap.size → w.heap.size + 2 ≤ k ∧ some k ≠ (Value.slice A0 acc.length c0).ownBlock) := fun k hk => ⟨by omega, fun e => by have := HLT.out k e.symm; omega⟩; clear hr6 hw6 hb6)
                  | ((with_reducible refine wpl_load_gotV HR6.out ?hx ?_); (case hx => rfl))
                  | (at_builtin; refine Kd.R_append (jm L) (w0 := w6) (W := w6) (w.heap.size + 2) (by rfl) (.tmp 177) (.tmp 182) 24 50 _ 88 (by rfl) Tryd.underlying24 HZ.out HZ1.out HZ2.out (by omega) (.slice A0 acc.length c0) acc (nm, x) [.string nm, a0, a1, a2, a3] (fun k => w.heap.size + 2 ≤ k) (fun k => w4.heap.size ≤ k ∧ k < w5.heap.size) (by rfl) (by rfl) HM6.out HOK.out (fun k hk => Nat.le_trans hn6 hk) HL6.out (Below.refl _ _) hn6 HLEN.out ?_; intro v1 w7 ho hb hg7 hat; obtain ⟨A7, cc7, hv1⟩ := Kd.R_slice ho; rw [List.length_append, List.length_singleton] at hv1; subst hv1; have HL7 := Lib.hid ho; have HV7 : Hid (Row 32 w.heap.size (gotZ 0 0) w7) := (hb.block _ (by omega)).trans HV6.out; have HVv7 : Hid (Row 26 (w.heap.size + 1) #[.int .i64 6, .string ⟨#[]⟩, .slice none 0 0, .slice A0 acc.length c0] w7) := (hb.block _ (by omega)).trans HW6.out; have HB7 := Lib.hid (HB6.out.trans (below_less hb (by omega))); have hn7 : w.heap.size + 2 ≤ w7.heap.size := Nat.le_trans hn6 hb.size; have HR7 : Hid (Row 32 w5.heap.size #[a0, a1, a2, a3, .string t, .int .i64 p4, .int .i64 0] w7) := HR6.out.kept hg7 (fun e => by have := HLT.out _ e.symm; omega); have g75 := HR7.out.cell 5 _ rfl; have hc7 := HVv7.out.cell 3 _ rfl; have hf7 := HVv7.out.frozen 3; clear ho hb hg7 hat))
                have HR8 : Hid (Row 26 (w.heap.size + 1) #[.int .i64 6, .string ⟨#[]⟩, .slice none 0 0, .slice A7 (acc.length + 1) cc7] (w7.setCell ⟨w.heap.size + 1, 3, none⟩ (.slice A7 (acc.length + 1) cc7))) := HVv7.out.setCell 3 _
                have HV8 : Hid (Row 32 w.heap.size (gotZ 0 0) (w7.setCell ⟨w.heap.size + 1, 3, none⟩ (.slice A7 (acc.length + 1) cc7))) := HV7.out.far (by omega) _
                have HB8 : Hid (Below w.heap.size w (w7.setCell ⟨w.heap.size + 1, 3, none⟩ (.slice A7 (acc.length + 1) cc7))) := HB7.out.setCell (by simp) _
                have HL8 : Hid ((jm L).R 50 (w7.setCell ⟨w.heap.size + 1, 3, none⟩ (.slice A7 (acc.length + 1) cc7)) (w.heap.size + 2) (fun k => w.heap.size + 2 ≤ k) (.slice A7 (acc.length + 1) cc7) (acc ++ [(nm, x)])) := Kd.R_far HL7.out (fun k hk => by simp; omega) _
                have hn8 : w.heap.size + 2 ≤ (w7.setCell ⟨w.heap.size + 1, 3, none⟩ (.slice A7 (acc.length + 1) cc7)).heap.size := by simp [World.setCell]; exact hn7
                clear HV7 HVv7 HB7 HL7 hn7 hc7 hf7 HR7 g75 HM6 HL6 HOK HB6 HV6 HW6 HR6 c66 c65 c63 H8 H8V H8W H8B HL5 HVv5 HV5 HB5
                generalize w7.setCell ⟨w.heap.size + 1, 3, none⟩ (.slice A7 (acc.length + 1) cc7) = w8 at *
                have hsq := spc_le s p4 hp5
                refine (r13_Space s p4 _ _ rfl (by omega) hp5).mono ?_
                rintro e w1 ⟨rfl, rfl⟩
                generalize spc s p4 = q at *
                obtain ⟨z, Hz⟩ : ∃ z, Hid (isAt s q 125 = z) := ⟨_, rfl⟩
                have hd := HD.out
                rw [Hz.out] at hd
                go_wp2_with fail
                refine (HIS.out q 125 z (by omega) (by omega) (by omega) Hz.out _ _ rfl).mono ?_
                rintro e w1 ⟨rfl, rfl⟩
                cases z with
                | true =>
                  rw [if_pos rfl] at hd
                  have HA2 : Hid (valAt s (L + 1) i = (⟨6, ⟨#[]⟩, [], acc ++ [(nm, x)]⟩, (q : Int) + 1, 0)) := hd.symm
                  clear hd HD
                  go_wp2_with (first | ((with_reducible refine wpl_get_val HR8.out ?hx ?_); (case hx => rfl)) | ((with_reducible refine wpl_put_got (cs := ?_) HV8.out rfl ?hx ?hy ?hs ?hz ?_); (case hx => rfl); (case hy => rfl); (case hs => rfl); (case hz => (first | exact one7 HC.out | (simp [Value.oneCell']; done))); intro W9 hr9 hw9; have HV9 := Lib.hid hr9; have HB9 := Lib.hid (hw9.below HB8.out (Nat.le_refl _)); have HW9 := Lib.hid hw9; clear hr9 hw9))
                  (try simp only [Exit.inBlock, Exit.then])
                  refine bodyPost_ret (v := .agg #[.int .i64 6, .string ⟨#[]⟩, .slice none 0 0, .slice A7 (acc.length + 1) cc7, .string ⟨#[]⟩, .int .i64 ((q : Int) + 1), .int .i64 0]) ?_ rfl ?_
                  · exact results_got rfl _ _ _ _ rfl HV9.out rfl
                  · rw [HA2.out]
                    refine ⟨_, _, _, _, _, rfl, fun _ => ?_, (show (_ : Bool) = true by simp [Value.oneCell']), HB9.out⟩
                    exact jdM_obj 6 ⟨#[]⟩ (Kd.R_lower (Kd.R_mono (Kd.R_step HL8.out (fun k hk _ => HW9.out.rest k (by omega))) (fun k hk => by omega)) (by omega))
                | false =>
                  rw [if_neg (by simp)] at hd
                  obtain ⟨z2, Hz2⟩ : ∃ z, Hid (isAt s q 44 = z) := ⟨_, rfl⟩
                  rw [Hz2.out] at hd
                  go_wp2_with fail
                  refine (HIS.out q 44 z2 (by omega) (by omega) (by omega) Hz2.out _ _ rfl).mono ?_
                  rintro e w1 ⟨rfl, rfl⟩
                  cases z2 with
                  | true =>
                    rw [if_pos rfl] at hd
                    replace HD := Lib.hid hd
                    have hql := (isAt_lt Hz2.out).1
                    clear hd
                    go_wp2_with fail
                    go_roundg k1
                    case measure => omega
                    case rel => exact ⟨acc ++ [(nm, x)], q + 1, .slice A7 (acc.length + 1) cc7, by go_num, ⟨by omega, by have := HI.out; omega, by have := HI.out; simp; omega⟩, HD.out, HV8.out, HR8.out, HB8.out, HL8.out, hn8⟩
                  | false =>
                    rw [if_neg (by simp)] at hd
                    have HA2 : Hid (valAt s (L + 1) i = (jz, badAt s q)) := hd.symm
                    clear hd HD
                    go_wp2_with fail
                    refine (r13_bad s q _ _ rfl (by omega) (by omega)).mono ?_
                    rintro e w9 ⟨rfl, hb9⟩
                    have HVa := Lib.hid (HV8.out.below hb9.out)
                    have HBa := Lib.hid (below_then HB8.out HB8.out.size hb9.out)
                    clear hb9
                    go_wp2_with (first | ((with_reducible refine wpl_put_got (cs := ?_) HVa.out rfl ?hx ?hy ?hs ?hz ?_); (case hx => rfl); (case hy => rfl); (case hs => rfl); (case hz => (first | exact one7 HC.out | (simp [Value.oneCell']; done))); intro W9 hr9 hw9; have HV9 := Lib.hid hr9; have HB9 := Lib.hid (hw9.below HBa.out (Nat.le_refl _)); have HW9 := Lib.hid hw9; clear hr9 hw9))
                    (try simp only [Exit.inBlock, Exit.then])
                    refine bodyPost_ret (v := .agg (gotZ (badAt s q).1 (badAt s q).2)) ?_ rfl ?_
                    · exact results_got rfl _ _ _ _ rfl HV9.out rfl
                    · exact GotIs.bad' (by rw [HA2.out]) HB9.out
              · rw [if_pos hc] at hd
                have HA2 : Hid (valAt s (L + 1) i = (jz, (valAt s L i3).2)) := hd.symm
                have HE := Lib.hid hc
                have ec : ((valAt s L i3).2.2 != 0) = true := by rw [bne_iff_ne]; exact hc
                generalize valAt s L i3 = r at *
                clear hd hc hm
                go_wp2_with (first
                  | ((with_reducible refine wpl_put_got (cs := ?_) H8.out rfl ?hx ?hy ?hs ?hz ?_); (case hx => rfl); (case hy => rfl); (case hs => rfl); (case hz => (first | exact one7 HC.out | (simp [Value.oneCell']; done))); intro w6 hr6 hw6; have HR6 := Lib.hid hr6; have HV6 := Lib.hid (hw6.row H8V.out (by omega)); have HB6 := Lib.hid (hw6.below H8B.out (by omega)); have c66 := hr6.cell 6 _ rfl; clear hr6 hw6)
                  | ((with_reducible refine wpl_load_got HR6.out ?hx ?_); (case hx => rfl))
                  | ((with_reducible refine wpl_put_got (cs := ?_) HV6.out rfl ?hx ?hy ?hs ?hz ?_); (case hx => rfl); (case hy => rfl); (case hs => rfl); (case hz => (first | exact one7 HC.out | (simp [Value.oneCell']; done))); intro W9 hr9 hw9; have HV9 := Lib.hid hr9; have HB9 := Lib.hid (hw9.below HB6.out (Nat.le_refl _)); have HW9 := Lib.hid hw9; clear hr9 hw9))
                (try simp only [Exit.inBlock, Exit.then])
                refine bodyPost_ret (v := .agg #[a0, a1, a2, a3, .string t, .int .i64 r.2.1, .int .i64 r.2.2]) ?_ rfl ?_
                · exact results_got rfl _ _ _ _ rfl HV9.out rfl
                · rw [HA2.out]
                  exact ⟨_, _, _, _, _, rfl, fun h => absurd h HE.out, HC.out, HB9.out⟩
      · rw [if_pos hc] at hd
        have HA2 : Hid (valAt s (L + 1) i = (jz, (strAt s (spc s j)).2)) := hd.symm
        have HE := Lib.hid hc
        have ec : ((strAt s (spc s j)).2.2 != 0) = true := by rw [bne_iff_ne]; exact hc
        generalize (strAt s (spc s j)).2 = r at *
        clear hd hc hnm
        go_wp2_with (first
          | ((with_reducible refine wpl_put_got (cs := ?_) G2.out rfl ?hx ?hy ?hs ?hz ?_); (case hx => rfl); (case hy => rfl); (case hs => rfl); (case hz => (first | exact one7 HC.out | (simp [Value.oneCell']; done))); intro w6 hr6 hw6; have HR6 := Lib.hid hr6; have HV6 := Lib.hid (hw6.row G2V.out (by omega)); have HB6 := Lib.hid (hw6.below G2B.out (by omega)); have c66 := hr6.cell 6 _ rfl; clear hr6 hw6)
          | ((with_reducible refine wpl_load_got HR6.out ?hx ?_); (case hx => rfl))
          | ((with_reducible refine wpl_put_got (cs := ?_) HV6.out rfl ?hx ?hy ?hs ?hz ?_); (case hx => rfl); (case hy => rfl); (case hs => rfl); (case hz => (first | exact one7 HC.out | (simp [Value.oneCell']; done))); intro W9 hr9 hw9; have HV9 := Lib.hid hr9; have HB9 := Lib.hid (hw9.below HB6.out (Nat.le_refl _)); have HW9 := Lib.hid hw9; clear hr9 hw9))
        (try simp only [Exit.inBlock, Exit.then])
        refine bodyPost_ret (v := .agg #[.int .i64 0, .string ⟨#[]⟩, .slice none 0 0, .slice none 0 0, .string nm, .int .i64 r.1, .int .i64 r.2]) ?_ rfl ?_
        · exact results_got rfl _ _ _ _ rfl HV9.out rfl
        · rw [HA2.out]
          exact ⟨_, _, _, _, _, rfl, fun h => absurd h HE.out, (show (_ : Bool) = true by simp [Value.oneCell']), HB9.out⟩
end

section
open Go.RowKit Go.PlainAid
open Go.Proofs.YtpdpgppaoipnlaaDoorW.PrintWords hiding bt
open Go.Proofs.YtpdpgppaoipnlaaDoorW.PrintMore

set_option maxHeartbeats 2000000 in
set_option maxRecDepth 100000 in
theorem rv_deep110 (s : ByteArray) (i : Nat) (w : World) (hl : s.size ≤ 100000) (hi : i < s.size) (hb : bt s i = 110) (hst : starter (bt s i) = true) :
    Calls Tryd.prog 20 #[.string s, .int .i64 i, .int .i64 33] w (GotIs 0 (valAt s 0 i) w) := by
  have HA : Hid (valAt s 0 i = (jz, (i : Int), 9)) := by
    show _ = _
    unfold valAt; rw [if_neg (by omega), if_neg (by rw [hst]; simp)]
  have h1 : decide (s.size ≤ i) = false := by simpa using hi
  have hbt := get_bt s
  have e110 : (bt s i == 110) = true := by rw [hb]; decide
  have e102 : (bt s i == 102) = false := by rw [hb]; decide
  have e116 : (bt s i == 116) = false := by rw [hb]; decide
  have e34 : (bt s i == 34) = false := by rw [hb]; decide
  have e91 : (bt s i == 91) = false := by rw [hb]; decide
  have e123 : (bt s i == 123) = false := by rw [hb]; decide
  have e45 : (bt s i == 45) = false := by rw [hb]; decide
  have n91 : (bt s i != 91) = true := by rw [hb]; decide
  have n123 : (bt s i != 123) = true := by rw [hb]; decide
  have HV0 : Hid (Row 32 w.heap.size (gotZ 0 0) (w.alloc (.cells (gotZ 0 0) 32))) := Row.new w _ _ rfl
  have HB0 : Hid (Below w.heap.size w (w.alloc (.cells (gotZ 0 0) 32))) := (Below.refl _ _).alloc (Nat.le_refl _) _
  clear hb hst
  go_enter Tryd.func20, Tryd.ntmps20
  go_wp2_with (first | ((with_reducible refine wpl_put_got (cs := ?_) HV0.out rfl ?hx ?hy ?hs ?hz ?_); (case hx => rfl); (case hy => rfl); (case hs => rfl); (case hz => (first | exact one7 HC.out | (simp [Value.oneCell']; done))); intro W9 hr9 hw9; have HV9 := Lib.hid hr9; have HB9 := Lib.hid (hw9.below HB0.out (by omega)); have HW9 := Lib.hid hw9; clear hr9 hw9))
  (try simp only [Exit.inBlock, Exit.then])
  refine bodyPost_ret (v := .agg (gotZ i 9)) ?_ rfl ?_
  · exact results_got rfl _ _ _ _ rfl HV9.out rfl
  · rw [HA.out]
    exact ⟨_, _, _, _, _, rfl, fun h => absurd h (show ¬ ((9 : Int) = 0) by omega), (show (_ : Bool) = true by simp [Value.oneCell']), HB9.out⟩

set_option maxHeartbeats 2000000 in
set_option maxRecDepth 100000 in
theorem rv_deep102 (s : ByteArray) (i : Nat) (w : World) (hl : s.size ≤ 100000) (hi : i < s.size) (hb : bt s i = 102) (hst : starter (bt s i) = true) :
    Calls Tryd.prog 20 #[.string s, .int .i64 i, .int .i64 33] w (GotIs 0 (valAt s 0 i) w) := by
  have HA : Hid (valAt s 0 i = (jz, (i : Int), 9)) := by
    show _ = _
    unfold valAt; rw [if_neg (by omega), if_neg (by rw [hst]; simp)]
  have h1 : decide (s.size ≤ i) = false := by simpa using hi
  have hbt := get_bt s
  have e110 : (bt s i == 110) = false := by rw [hb]; decide
  have e102 : (bt s i == 102) = true := by rw [hb]; decide
  have e116 : (bt s i == 116) = false := by rw [hb]; decide
  have e34 : (bt s i == 34) = false := by rw [hb]; decide
  have e91 : (bt s i == 91) = false := by rw [hb]; decide
  have e123 : (bt s i == 123) = false := by rw [hb]; decide
  have e45 : (bt s i == 45) = false := by rw [hb]; decide
  have n91 : (bt s i != 91) = true := by rw [hb]; decide
  have n123 : (bt s i != 123) = true := by rw [hb]; decide
  have HV0 : Hid (Row 32 w.heap.size (gotZ 0 0) (w.alloc (.cells (gotZ 0 0) 32))) := Row.new w _ _ rfl
  have HB0 : Hid (Below w.heap.size w (w.alloc (.cells (gotZ 0 0) 32))) := (Below.refl _ _).alloc (Nat.le_refl _) _
  clear hb hst
  go_enter Tryd.func20, Tryd.ntmps20
  go_wp2_with (first | ((with_reducible refine wpl_put_got (cs := ?_) HV0.out rfl ?hx ?hy ?hs ?hz ?_); (case hx => rfl); (case hy => rfl); (case hs => rfl); (case hz => (first | exact one7 HC.out | (simp [Value.oneCell']; done))); intro W9 hr9 hw9; have HV9 := Lib.hid hr9; have HB9 := Lib.hid (hw9.below HB0.out (by omega)); have HW9 := Lib.hid hw9; clear hr9 hw9))
  (try simp only [Exit.inBlock, Exit.then])
  refine bodyPost_ret (v := .agg (gotZ i 9)) ?_ rfl ?_
  · exact results_got rfl _ _ _ _ rfl HV9.out rfl
  · rw [HA.out]
    exact ⟨_, _, _, _, _, rfl, fun h => absurd h (show ¬ ((9 : Int) = 0) by omega), (show (_ : Bool) = true by simp [Value.oneCell']), HB9.out⟩

set_option maxHeartbeats 2000000 in
set_option maxRecDepth 100000 in
theorem rv_deep116 (s : ByteArray) (i : Nat) (w : World) (hl : s.size ≤ 100000) (hi : i < s.size) (hb : bt s i = 116) (hst : starter (bt s i) = true) :
    Calls Tryd.prog 20 #[.string s, .int .i64 i, .int .i64 33] w (GotIs 0 (valAt s 0 i) w) := by
  have HA : Hid (valAt s 0 i = (jz, (i : Int), 9)) := by
    show _ = _
    unfold valAt; rw [if_neg (by omega), if_neg (by rw [hst]; simp)]
  have h1 : decide (s.size ≤ i) = false := by simpa using hi
  have hbt := get_bt s
  have e110 : (bt s i == 110) = false := by rw [hb]; decide
  have e102 : (bt s i == 102) = false := by rw [hb]; decide
  have e116 : (bt s i == 116) = true := by rw [hb]; decide
  have e34 : (bt s i == 34) = false := by rw [hb]; decide
  have e91 : (bt s i == 91) = false := by rw [hb]; decide
  have e123 : (bt s i == 123) = false := by rw [hb]; decide
  have e45 : (bt s i == 45) = false := by rw [hb]; decide
  have n91 : (bt s i != 91) = true := by rw [hb]; decide
  have n123 : (bt s i != 123) = true := by rw [hb]; decide
  have HV0 : Hid (Row 32 w.heap.size (gotZ 0 0) (w.alloc (.cells (gotZ 0 0) 32))) := Row.new w _ _ rfl
  have HB0 : Hid (Below w.heap.size w (w.alloc (.cells (gotZ 0 0) 32))) := (Below.refl _ _).alloc (Nat.le_refl _) _
  clear hb hst
  go_enter Tryd.func20, Tryd.ntmps20
  go_wp2_with (first | ((with_reducible refine wpl_put_got (cs := ?_) HV0.out rfl ?hx ?hy ?hs ?hz ?_); (case hx => rfl); (case hy => rfl); (case hs => rfl); (case hz => (first | exact one7 HC.out | (simp [Value.oneCell']; done))); intro W9 hr9 hw9; have HV9 := Lib.hid hr9; have HB9 := Lib.hid (hw9.below HB0.out (by omega)); have HW9 := Lib.hid hw9; clear hr9 hw9))
  (try simp only [Exit.inBlock, Exit.then])
  refine bodyPost_ret (v := .agg (gotZ i 9)) ?_ rfl ?_
  · exact results_got rfl _ _ _ _ rfl HV9.out rfl
  · rw [HA.out]
    exact ⟨_, _, _, _, _, rfl, fun h => absurd h (show ¬ ((9 : Int) = 0) by omega), (show (_ : Bool) = true by simp [Value.oneCell']), HB9.out⟩

set_option maxHeartbeats 2000000 in
set_option maxRecDepth 100000 in
theorem rv_deep34 (s : ByteArray) (i : Nat) (w : World) (hl : s.size ≤ 100000) (hi : i < s.size) (hb : bt s i = 34) (hst : starter (bt s i) = true) :
    Calls Tryd.prog 20 #[.string s, .int .i64 i, .int .i64 33] w (GotIs 0 (valAt s 0 i) w) := by
  have HA : Hid (valAt s 0 i = (jz, (i : Int), 9)) := by
    show _ = _
    unfold valAt; rw [if_neg (by omega), if_neg (by rw [hst]; simp)]
  have h1 : decide (s.size ≤ i) = false := by simpa using hi
  have hbt := get_bt s
  have e110 : (bt s i == 110) = false := by rw [hb]; decide
  have e102 : (bt s i == 102) = false := by rw [hb]; decide
  have e116 : (bt s i == 116) = false := by rw [hb]; decide
  have e34 : (bt s i == 34) = true := by rw [hb]; decide
  have e91 : (bt s i == 91) = false := by rw [hb]; decide
  have e123 : (bt s i == 123) = false := by rw [hb]; decide
  have e45 : (bt s i == 45) = false := by rw [hb]; decide
  have n91 : (bt s i != 91) = true := by rw [hb]; decide
  have n123 : (bt s i != 123) = true := by rw [hb]; decide
  have HV0 : Hid (Row 32 w.heap.size (gotZ 0 0) (w.alloc (.cells (gotZ 0 0) 32))) := Row.new w _ _ rfl
  have HB0 : Hid (Below w.heap.size w (w.alloc (.cells (gotZ 0 0) 32))) := (Below.refl _ _).alloc (Nat.le_refl _) _
  clear hb hst
  go_enter Tryd.func20, Tryd.ntmps20
  go_wp2_with (first | ((with_reducible refine wpl_put_got (cs := ?_) HV0.out rfl ?hx ?hy ?hs ?hz ?_); (case hx => rfl); (case hy => rfl); (case hs => rfl); (case hz => (first | exact one7 HC.out | (simp [Value.oneCell']; done))); intro W9 hr9 hw9; have HV9 := Lib.hid hr9; have HB9 := Lib.hid (hw9.below HB0.out (by omega)); have HW9 := Lib.hid hw9; clear hr9 hw9))
  (try simp only [Exit.inBlock, Exit.then])
  refine bodyPost_ret (v := .agg (gotZ i 9)) ?_ rfl ?_
  · exact results_got rfl _ _ _ _ rfl HV9.out rfl
  · rw [HA.out]
    exact ⟨_, _, _, _, _, rfl, fun h => absurd h (show ¬ ((9 : Int) = 0) by omega), (show (_ : Bool) = true by simp [Value.oneCell']), HB9.out⟩

set_option maxHeartbeats 2000000 in
set_option maxRecDepth 100000 in
theorem rv_deep91 (s : ByteArray) (i : Nat) (w : World) (hl : s.size ≤ 100000) (hi : i < s.size) (hb : bt s i = 91) (hst : starter (bt s i) = true) :
    Calls Tryd.prog 20 #[.string s, .int .i64 i, .int .i64 33] w (GotIs 0 (valAt s 0 i) w) := by
  have HA : Hid (valAt s 0 i = (jz, (i : Int), 9)) := by
    show _ = _
    unfold valAt; rw [if_neg (by omega), if_neg (by rw [hst]; simp)]
  have h1 : decide (s.size ≤ i) = false := by simpa using hi
  have hbt := get_bt s
  have e110 : (bt s i == 110) = false := by rw [hb]; decide
  have e102 : (bt s i == 102) = false := by rw [hb]; decide
  have e116 : (bt s i == 116) = false := by rw [hb]; decide
  have e34 : (bt s i == 34) = false := by rw [hb]; decide
  have e91 : (bt s i == 91) = true := by rw [hb]; decide
  have e123 : (bt s i == 123) = false := by rw [hb]; decide
  have e45 : (bt s i == 45) = false := by rw [hb]; decide
  have n91 : (bt s i != 91) = false := by rw [hb]; decide
  have n123 : (bt s i != 123) = true := by rw [hb]; decide
  have HV0 : Hid (Row 32 w.heap.size (gotZ 0 0) (w.alloc (.cells (gotZ 0 0) 32))) := Row.new w _ _ rfl
  have HB0 : Hid (Below w.heap.size w (w.alloc (.cells (gotZ 0 0) 32))) := (Below.refl _ _).alloc (Nat.le_refl _) _
  clear hb hst
  go_enter Tryd.func20, Tryd.ntmps20
  go_wp2_with (first | ((with_reducible refine wpl_put_got (cs := ?_) HV0.out rfl ?hx ?hy ?hs ?hz ?_); (case hx => rfl); (case hy => rfl); (case hs => rfl); (case hz => (first | exact one7 HC.out | (simp [Value.oneCell']; done))); intro W9 hr9 hw9; have HV9 := Lib.hid hr9; have HB9 := Lib.hid (hw9.below HB0.out (by omega)); have HW9 := Lib.hid hw9; clear hr9 hw9))
  (try simp only [Exit.inBlock, Exit.then])
  refine bodyPost_ret (v := .agg (gotZ i 9)) ?_ rfl ?_
  · exact results_got rfl _ _ _ _ rfl HV9.out rfl
  · rw [HA.out]
    exact ⟨_, _, _, _, _, rfl, fun h => absurd h (show ¬ ((9 : Int) = 0) by omega), (show (_ : Bool) = true by simp [Value.oneCell']), HB9.out⟩

set_option maxHeartbeats 2000000 in
set_option maxRecDepth 100000 in
theorem rv_deep123 (s : ByteArray) (i : Nat) (w : World) (hl : s.size ≤ 100000) (hi : i < s.size) (hb : bt s i = 123) (hst : starter (bt s i) = true) :
    Calls Tryd.prog 20 #[.string s, .int .i64 i, .int .i64 33] w (GotIs 0 (valAt s 0 i) w) := by
  have HA : Hid (valAt s 0 i = (jz, (i : Int), 9)) := by
    show _ = _
    unfold valAt; rw [if_neg (by omega), if_neg (by rw [hst]; simp)]
  have h1 : decide (s.size ≤ i) = false := by simpa using hi
  have hbt := get_bt s
  have e110 : (bt s i == 110) = false := by rw [hb]; decide
  have e102 : (bt s i == 102) = false := by rw [hb]; decide
  have e116 : (bt s i == 116) = false := by rw [hb]; decide
  have e34 : (bt s i == 34) = false := by rw [hb]; decide
  have e91 : (bt s i == 91) = false := by rw [hb]; decide
  have e123 : (bt s i == 123) = true := by rw [hb]; decide
  have e45 : (bt s i == 45) = false := by rw [hb]; decide
  have n91 : (bt s i != 91) = true := by rw [hb]; decide
  have n123 : (bt s i != 123) = false := by rw [hb]; decide
  have HV0 : Hid (Row 32 w.heap.size (gotZ 0 0) (w.alloc (.cells (gotZ 0 0) 32))) := Row.new w _ _ rfl
  have HB0 : Hid (Below w.heap.size w (w.alloc (.cells (gotZ 0 0) 32))) := (Below.refl _ _).alloc (Nat.le_refl _) _
  clear hb hst
  go_enter Tryd.func20, Tryd.ntmps20
  go_wp2_with (first | ((with_reducible refine wpl_put_got (cs := ?_) HV0.out rfl ?hx ?hy ?hs ?hz ?_); (case hx => rfl); (case hy => rfl); (case hs => rfl); (case hz => (first | exact one7 HC.out | (simp [Value.oneCell']; done))); intro W9 hr9 hw9; have HV9 := Lib.hid hr9; have HB9 := Lib.hid (hw9.below HB0.out (by omega)); have HW9 := Lib.hid hw9; clear hr9 hw9))
  (try simp only [Exit.inBlock, Exit.then])
  refine bodyPost_ret (v := .agg (gotZ i 9)) ?_ rfl ?_
  · exact results_got rfl _ _ _ _ rfl HV9.out rfl
  · rw [HA.out]
    exact ⟨_, _, _, _, _, rfl, fun h => absurd h (show ¬ ((9 : Int) = 0) by omega), (show (_ : Bool) = true by simp [Value.oneCell']), HB9.out⟩

set_option maxHeartbeats 2000000 in
set_option maxRecDepth 100000 in
theorem rv_deep45 (s : ByteArray) (i : Nat) (w : World) (hl : s.size ≤ 100000) (hi : i < s.size) (hb : bt s i = 45) (hst : starter (bt s i) = true) :
    Calls Tryd.prog 20 #[.string s, .int .i64 i, .int .i64 33] w (GotIs 0 (valAt s 0 i) w) := by
  have HA : Hid (valAt s 0 i = (jz, (i : Int), 9)) := by
    show _ = _
    unfold valAt; rw [if_neg (by omega), if_neg (by rw [hst]; simp)]
  have h1 : decide (s.size ≤ i) = false := by simpa using hi
  have hbt := get_bt s
  have e110 : (bt s i == 110) = false := by rw [hb]; decide
  have e102 : (bt s i == 102) = false := by rw [hb]; decide
  have e116 : (bt s i == 116) = false := by rw [hb]; decide
  have e34 : (bt s i == 34) = false := by rw [hb]; decide
  have e91 : (bt s i == 91) = false := by rw [hb]; decide
  have e123 : (bt s i == 123) = false := by rw [hb]; decide
  have e45 : (bt s i == 45) = true := by rw [hb]; decide
  have n91 : (bt s i != 91) = true := by rw [hb]; decide
  have n123 : (bt s i != 123) = true := by rw [hb]; decide
  have HV0 : Hid (Row 32 w.heap.size (gotZ 0 0) (w.alloc (.cells (gotZ 0 0) 32))) := Row.new w _ _ rfl
  have HB0 : Hid (Below w.heap.size w (w.alloc (.cells (gotZ 0 0) 32))) := (Below.refl _ _).alloc (Nat.le_refl _) _
  clear hb hst
  go_enter Tryd.func20, Tryd.ntmps20
  go_wp2_with (first | ((with_reducible refine wpl_put_got (cs := ?_) HV0.out rfl ?hx ?hy ?hs ?hz ?_); (case hx => rfl); (case hy => rfl); (case hs => rfl); (case hz => (first | exact one7 HC.out | (simp [Value.oneCell']; done))); intro W9 hr9 hw9; have HV9 := Lib.hid hr9; have HB9 := Lib.hid (hw9.below HB0.out (by omega)); have HW9 := Lib.hid hw9; clear hr9 hw9))
  (try simp only [Exit.inBlock, Exit.then])
  refine bodyPost_ret (v := .agg (gotZ i 9)) ?_ rfl ?_
  · exact results_got rfl _ _ _ _ rfl HV9.out rfl
  · rw [HA.out]
    exact ⟨_, _, _, _, _, rfl, fun h => absurd h (show ¬ ((9 : Int) = 0) by omega), (show (_ : Bool) = true by simp [Value.oneCell']), HB9.out⟩

set_option maxHeartbeats 2000000 in
set_option maxRecDepth 100000 in
theorem rv_deepd (s : ByteArray) (i : Nat) (w : World) (hl : s.size ≤ 100000) (hi : i < s.size) (hb : 48 ≤ bt s i ∧ bt s i ≤ 57) (hst : starter (bt s i) = true) :
    Calls Tryd.prog 20 #[.string s, .int .i64 i, .int .i64 33] w (GotIs 0 (valAt s 0 i) w) := by
  have HA : Hid (valAt s 0 i = (jz, (i : Int), 9)) := by
    show _ = _
    unfold valAt; rw [if_neg (by omega), if_neg (by rw [hst]; simp)]
  have h1 : decide (s.size ≤ i) = false := by simpa using hi
  have hbt := get_bt s
  have e110 : (bt s i == 110) = false := by rw [beq_eq_false_iff_ne]; omega
  have e102 : (bt s i == 102) = false := by rw [beq_eq_false_iff_ne]; omega
  have e116 : (bt s i == 116) = false := by rw [beq_eq_false_iff_ne]; omega
  have e34 : (bt s i == 34) = false := by rw [beq_eq_false_iff_ne]; omega
  have e91 : (bt s i == 91) = false := by rw [beq_eq_false_iff_ne]; omega
  have e123 : (bt s i == 123) = false := by rw [beq_eq_false_iff_ne]; omega
  have e45 : (bt s i == 45) = false := by rw [beq_eq_false_iff_ne]; omega
  have hdg : digAt s i = true := by simp [digAt, isDig, hb, hi]
  have HD := Lib.hid (fun (W : World) => r13_digit s i i W rfl (by omega) (by omega))
  rw [hdg] at HD
  clear hdg
  have HV0 : Hid (Row 32 w.heap.size (gotZ 0 0) (w.alloc (.cells (gotZ 0 0) 32))) := Row.new w _ _ rfl
  have HB0 : Hid (Below w.heap.size w (w.alloc (.cells (gotZ 0 0) 32))) := (Below.refl _ _).alloc (Nat.le_refl _) _
  clear hb hst
  go_enter Tryd.func20, Tryd.ntmps20
  go_wp2_with fail
  refine (HD.out _).mono ?_
  rintro e w1 ⟨rfl, rfl⟩
  go_wp2_with (first | ((with_reducible refine wpl_put_got (cs := ?_) HV0.out rfl ?hx ?hy ?hs ?hz ?_); (case hx => rfl); (case hy => rfl); (case hs => rfl); (case hz => (first | exact one7 HC.out | (simp [Value.oneCell']; done))); intro W9 hr9 hw9; have HV9 := Lib.hid hr9; have HB9 := Lib.hid (hw9.below HB0.out (by omega)); have HW9 := Lib.hid hw9; clear hr9 hw9))
  (try simp only [Exit.inBlock, Exit.then])
  refine bodyPost_ret (v := .agg (gotZ i 9)) ?_ rfl ?_
  · exact results_got rfl _ _ _ _ rfl HV9.out rfl
  · rw [HA.out]
    exact ⟨_, _, _, _, _, rfl, fun h => absurd h (show ¬ ((9 : Int) = 0) by omega), (show (_ : Bool) = true by simp [Value.oneCell']), HB9.out⟩

theorem rv_zero : RefAll 0 := by
  intro s i I w lev hI hlev hl hi
  subst hI
  obtain rfl : lev = 33 := by omega
  by_cases he : s.size ≤ i
  · exact rv_end 0 s i w 33 hl hi he
  · cases hst : starter (bt s i) with
    | false => exact rv_not 0 s i w 33 hl (by omega) hst
    | true =>
      have hb : bt s i = 110 ∨ bt s i = 102 ∨ bt s i = 116 ∨ bt s i = 34 ∨ bt s i = 91 ∨ bt s i = 123 ∨ bt s i = 45 ∨ (48 ≤ bt s i ∧ bt s i ≤ 57) := by simpa [starter] using hst
      rcases hb with hb | hb | hb | hb | hb | hb | hb | hb
      · exact rv_deep110 s i w hl (by omega) hb hst
      · exact rv_deep102 s i w hl (by omega) hb hst
      · exact rv_deep116 s i w hl (by omega) hb hst
      · exact rv_deep34 s i w hl (by omega) hb hst
      · exact rv_deep91 s i w hl (by omega) hb hst
      · exact rv_deep123 s i w hl (by omega) hb hst
      · exact rv_deep45 s i w hl (by omega) hb hst
      · exact rv_deepd s i w hl (by omega) hb hst
theorem rv_step (L : Nat) (hL : L ≤ 31) (ih : RefAll L) : RefAll (L + 1) := by
  intro s i I w lev hI hlev hl hi
  subst hI
  by_cases he : s.size ≤ i
  · exact rv_end (L + 1) s i w lev hl hi he
  · cases hst : starter (bt s i) with
    | false => exact rv_not (L + 1) s i w lev hl (by omega) hst
    | true =>
      have hb : bt s i = 110 ∨ bt s i = 102 ∨ bt s i = 116 ∨ bt s i = 34 ∨ bt s i = 91 ∨ bt s i = 123 ∨ bt s i = 45 ∨ (48 ≤ bt s i ∧ bt s i ≤ 57) := by simpa [starter] using hst
      have hlv : lev = 32 - L := by omega
      rcases hb with hb | hb | hb | hb | hb | hb | hb | hb
      · exact rv_null L s i w lev hL hlv hl (by omega) hb
      · exact rv_false L s i w lev hL hlv hl (by omega) hb
      · exact rv_true L s i w lev hL hlv hl (by omega) hb
      · exact rv_str L s i w lev hL hlv hl (by omega) hb
      · exact rv_arr L s i w lev hL hlv hl (by omega) hb ih
      · exact rv_obj L s i w lev hL hlv hl (by omega) hb ih
      · exact rv_minus L s i w lev hL hlv hl (by omega) hb
      · exact rv_digit L s i w lev hL hlv hl (by omega) hb
theorem rv_all : ∀ L : Nat, L ≤ 32 → RefAll L
  | 0, _ => rv_zero
  | L + 1, h => rv_step L (by omega) (rv_all L (by omega))

set_option maxHeartbeats 2000000 in
set_option maxRecDepth 100000 in
theorem r13_Read (s : ByteArray) (w : World) (hl : s.size ≤ 100000) :
    Calls Tryd.prog 14 #[.string s] w (GotIs 32 (readV s) w) := by
  have HA : Hid (readV s = endG s (valAt s 32 (spc s 0))) := readV_eq s hl
  have hsp := spc_le s 0 (by omega)
  have HV0 : Hid (Row 32 w.heap.size (gotZ 0 0) (w.alloc (.cells (gotZ 0 0) 32))) := Row.new w _ _ rfl
  have HB0 : Hid (Below w.heap.size w (w.alloc (.cells (gotZ 0 0) 32))) := (Below.refl _ _).alloc (Nat.le_refl _) _
  have hvv : (valAt s 32 (spc s 0)).2.2 = 0 → ∃ p : Nat, (valAt s 32 (spc s 0)).2.1 = p ∧ spc s 0 < p ∧ p ≤ s.size := valAt_ends s 32 _
  have HP := Lib.hid hvv
  clear hvv
  go_enter Tryd.func14, Tryd.ntmps14
  go_wp2_with fail
  refine (r13_Space s 0 _ _ rfl (by omega) (by omega)).mono ?_
  rintro e w1 ⟨rfl, rfl⟩
  go_wp2_with fail
  refine (rv_all 32 (by omega) s (spc s 0) _ _ _ rfl (by omega) hl hsp.2).mono ?_
  rintro e w5 ⟨a0, a1, a2, a3, t, rfl, hm, HC, hb5⟩
  have hsz0 : (w.alloc (.cells (gotZ 0 0) 32)).heap.size = w.heap.size + 1 := by simp
  have HV5 := Lib.hid (HV0.out.below hb5.out)
  have HB5 := Lib.hid (below_then HB0.out HB0.out.size hb5.out)
  have HM5 : Hid ((valAt s 32 (spc s 0)).2.2 = 0 → (jd 32).M w5 (w.heap.size + 1) (fun k => w.heap.size + 1 ≤ k) (valAt s 32 (spc s 0)).1 [a0, a1, a2, a3]) := fun h => by have := hm.out h; rw [← hsz0]; exact this
  have hlt5 : w.heap.size < w5.heap.size := HV5.out.lt
  have H8 : Hid (Row 32 w5.heap.size (gotZ 0 0) (w5.alloc (.cells (gotZ 0 0) 32))) := Row.new w5 _ _ rfl
  have H8V := Lib.hid (HV5.out.old (.cells (gotZ 0 0) 32))
  have H8B := Lib.hid (HB5.out.alloc HB5.out.size (.cells (gotZ 0 0) 32))
  clear hb5 hm hsz0
  generalize valAt s 32 (spc s 0) = r at *
  obtain ⟨x, e1, e2⟩ := r
  dsimp only at HP HM5 ⊢
  by_cases hc : e2 = 0
  · subst hc
    obtain ⟨p, rfl, hp2, hp3⟩ := HP.out rfl
    have hsq := spc_le s p hp3
    have HA1 : Hid (readV s = if spc s p < s.size then (jz, (spc s p : Int), 1) else (x, (p : Int), 0)) := by
      show _ = _; rw [HA.out]; unfold endG; rw [if_neg (by simp), Int.toNat_natCast]
    have HM := Lib.hid (HM5.out rfl)
    clear HA HM5 HP
    go_wp2_with (first | ((with_reducible refine wpl_put_got (cs := ?_) H8.out rfl ?hx ?hy ?hs ?hz ?_); (case hx => rfl); (case hy => rfl); (case hs => rfl); (case hz => (first | exact one7 HC.out | (simp [Value.oneCell']; done))); intro w6 hr6 hw6; have HR6 := Lib.hid hr6; have HV6 := Lib.hid (hw6.row H8V.out (by omega)); have HB6 := Lib.hid (hw6.below H8B.out (by omega)); have c66 := hr6.cell 6 _ rfl; have c65 := hr6.cell 5 _ rfl; have hb6 := new_below hw6; have HM6 : Hid ((jd 32).M w6 (w.heap.size + 1) (fun k => w.heap.size + 1 ≤ k ∧ k < w5.heap.size) x [a0, a1, a2, a3]) := M_new HM.out hb6 (Nat.le_refl _); clear hr6 hw6 hb6))
    refine (r13_Space s p _ _ rfl (by omega) hp3).mono ?_
    rintro e w1 ⟨rfl, rfl⟩
    generalize spc s p = q at *
    by_cases hq : q < s.size
    · have HA2 : Hid (readV s = (jz, (q : Int), 1)) := by show _ = _; rw [HA1.out, if_pos hq]
      have hlt : decide (q < s.size) = true := by simpa using hq
      clear HA1
      go_wp2_with (first | ((with_reducible refine wpl_put_got (cs := ?_) HV6.out rfl ?hx ?hy ?hs ?hz ?_); (case hx => rfl); (case hy => rfl); (case hs => rfl); (case hz => (first | exact one7 HC.out | (simp [Value.oneCell']; done))); intro W9 hr9 hw9; have HV9 := Lib.hid hr9; have HB9 := Lib.hid (hw9.below HB6.out (by omega)); have HW9 := Lib.hid hw9; clear hr9 hw9))
      (try simp only [Exit.inBlock, Exit.then])
      refine bodyPost_ret (v := .agg (gotZ q 1)) ?_ rfl ?_
      · exact results_got rfl _ _ _ _ rfl HV9.out rfl
      · rw [HA2.out]
        exact ⟨_, _, _, _, _, rfl, fun h => absurd h (show ¬ ((1 : Int) = 0) by omega), (show (_ : Bool) = true by simp [Value.oneCell']), HB9.out⟩
    · have HA2 : Hid (readV s = (x, (p : Int), 0)) := by show _ = _; rw [HA1.out, if_neg hq]
      have hlt : decide (q < s.size) = false := by simpa using hq
      clear HA1
      go_wp2_with (first | ((with_reducible refine wpl_load_got HR6.out ?hx ?_); (case hx => rfl)) | ((with_reducible refine wpl_put_got (cs := ?_) HV6.out rfl ?hx ?hy ?hs ?hz ?_); (case hx => rfl); (case hy => rfl); (case hs => rfl); (case hz => (first | exact one7 HC.out | (simp [Value.oneCell']; done))); intro W9 hr9 hw9; have HV9 := Lib.hid hr9; have HB9 := Lib.hid (hw9.below HB6.out (by omega)); have HW9 := Lib.hid hw9; clear hr9 hw9))
      (try simp only [Exit.inBlock, Exit.then])
      refine bodyPost_ret (v := .agg #[a0, a1, a2, a3, .string t, .int .i64 (p : Int), .int .i64 0]) ?_ rfl ?_
      · exact results_got rfl _ _ _ _ rfl HV9.out rfl
      · rw [HA2.out]
        refine ⟨_, _, _, _, _, rfl, fun _ => ?_, HC.out, HB9.out⟩
        exact (jd 32).M_mono (fun k hk => by omega) ((jd 32).M_lower (base := w.heap.size + 1) (by omega) ((jd 32).M_move (fun k hk => HW9.out.rest k (by omega)) HM6.out))
  · have HA2 : Hid (readV s = (x, e1, e2)) := by show _ = _; rw [HA.out]; unfold endG; rw [if_pos hc]
    have ec : (e2 != 0) = true := by rw [bne_iff_ne]; exact hc
    have HE := Lib.hid hc
    have HM : Hid True := trivial
    clear HA HM5 HP hc
    go_wp2_with (first | ((with_reducible refine wpl_put_got (cs := ?_) H8.out rfl ?hx ?hy ?hs ?hz ?_); (case hx => rfl); (case hy => rfl); (case hs => rfl); (case hz => (first | exact one7 HC.out | (simp [Value.oneCell']; done))); intro w6 hr6 hw6; have HR6 := Lib.hid hr6; have HV6 := Lib.hid (hw6.row H8V.out (by omega)); have HB6 := Lib.hid (hw6.below H8B.out (by omega)); have c66 := hr6.cell 6 _ rfl; clear hr6 hw6) | ((with_reducible refine wpl_load_got HR6.out ?hx ?_); (case hx => rfl)) | ((with_reducible refine wpl_put_got (cs := ?_) HV6.out rfl ?hx ?hy ?hs ?hz ?_); (case hx => rfl); (case hy => rfl); (case hs => rfl); (case hz => (first | exact one7 HC.out | (simp [Value.oneCell']; done))); intro W9 hr9 hw9; have HV9 := Lib.hid hr9; have HB9 := Lib.hid (hw9.below HB6.out (by omega)); have HW9 := Lib.hid hw9; clear hr9 hw9))
    (try simp only [Exit.inBlock, Exit.then])
    refine bodyPost_ret (v := .agg #[a0, a1, a2, a3, .string t, .int .i64 e1, .int .i64 e2]) ?_ rfl ?_
    · exact results_got rfl _ _ _ _ rfl HV9.out rfl
    · rw [HA2.out]
      exact ⟨_, _, _, _, _, rfl, fun h => absurd h HE.out, HC.out, HB9.out⟩
end
end Go.Proofs.YtpdpgppaoipnlaaDoor
