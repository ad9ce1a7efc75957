/- What the claim uses of the text LD. -/
import Derived.Test.YtangheahliekeaaGreatDoorVLC
set_option linter.unusedVariables false
set_option linter.unusedSimpArgs false
namespace Go.Proofs.YtangheahliekeaaGreatDoor
open Go.RowKit Go.PlainAid
open Go.Proofs.YtangheahliekeaaGreatDoorW.PrintWords hiding bt
open Go.Proofs.YtangheahliekeaaGreatDoorW.PrintMore

theorem PreAt.rangeW {b : Nat} {p : PV} {w : World} (h : PreAt b p w) : w.rangeAt b 0 (preA p).toList := fun j v hv => by
  have := Row.cell h j v (by rwa [Array.getElem?_toList] at hv)
  rw [Nat.zero_add]; exact this
/-- Three networks in memory: what Ends works on. -/
structure Se (B : Nat) (p q r : PV) (w0 w : World) : Prop where
  p : PreAt B p w
  q : PreAt (B + 1) q w
  r : PreAt (B + 1 + 1) r w
  bel : Below B w0 w
theorem Se.q_st {B : Nat} {p q q' r : PV} {w0 w : World} (h : Se B p q r w0 w) : Se B p q' r w0 (w.setRow (B + 1) (preA q')) :=
  ⟨Row.other h.p (by omega) _, Row.set h.q, Row.other h.r (by omega) _, below_setRow h.bel (by omega)⟩
theorem Se.r_st {B : Nat} {p q r r' : PV} {w0 w : World} (h : Se B p q r w0 w) : Se B p q r' w0 (w.setRow (B + 1 + 1) (preA r')) :=
  ⟨Row.other h.p (by omega) _, Row.other h.q (by omega) _, Row.set h.r, below_setRow h.bel (by omega)⟩
theorem Se.q_bits {B : Nat} {p q r : PV} {w0 w : World} (h : Se B p q r w0 w) (x : Int) : Se B p ⟨q.six, q.addr, x⟩ r w0 (w.setCell ⟨B + 1, 17, none⟩ (.int .i64 x)) :=
  ⟨Row.far h.p (by omega) _, PreAt.setBits h.q x, Row.far h.r (by omega) _, h.bel.setCell (by show B ≤ B + 1; omega) _⟩
theorem Se.r_bits {B : Nat} {p q r : PV} {w0 w : World} (h : Se B p q r w0 w) (x : Int) : Se B p q ⟨r.six, r.addr, x⟩ w0 (w.setCell ⟨B + 1 + 1, 17, none⟩ (.int .i64 x)) :=
  ⟨Row.far h.p (by omega) _, Row.far h.q (by omega) _, PreAt.setBits h.r x, h.bel.setCell (by show B ≤ B + 1 + 1; omega) _⟩
theorem Se.r_byte {B : Nat} {p q r : PV} {w0 w : World} (h : Se B p q r w0 w) (i v : Nat) (hi : i < 16) : Se B p q ⟨r.six, fun j => if j = i then v else r.addr j, r.bits⟩ w0 (w.setCell ⟨B + 1 + 1, 1 + i, none⟩ (.int .u8 v)) :=
  ⟨Row.far h.p (by omega) _, Row.far h.q (by omega) _, PreAt.setByte h.r i v hi, h.bel.setCell (by show B ≤ B + 1 + 1; omega) _⟩
theorem Se.drew {B : Nat} {p q r : PV} {w0 w : World} (h : Se B p q r w0 w) : Se B p q r w0 w.drew := ⟨h.p, h.q, h.r, below_drew h.bel⟩
theorem Se.below {B : Nat} {p q r : PV} {w0 w w' : World} (h : Se B p q r w0 w) (hb : Below w.heap.size w w') : Se B p q r w0 w' :=
  ⟨h.p.below hb, h.q.below hb, h.r.below hb, h.bel.trans (hb.mono (by have := h.p.lt; omega))⟩
section
variable {P : Program}
theorem res_cc {fn : Func} {p p' : Tmp} {ty ty' : TypeId} (h : fn.results = #[.cell p ty, .cell p' ty']) (tmps : Array Value) (w : World) (g g' : Nat) (t t' : TypeId) (cs cs' : Array Value) (fr fr' : Nat × Nat) (d d' : TypeDesc)
    (hp : tmps.getD p undef = .pointer (some ⟨g, 0, none⟩)) (hg : w.heap[g]? = some (.cells cs t fr))
    (hu : P.underlying ty = some d) (hd : (match d with | .struct _ | .array _ _ => true | _ => false) = true) (hi : (P.info? ty).map (·.size) = some cs.size)
    (hp' : tmps.getD p' undef = .pointer (some ⟨g', 0, none⟩)) (hg' : w.heap[g']? = some (.cells cs' t' fr'))
    (hu' : P.underlying ty' = some d') (hd' : (match d' with | .struct _ | .array _ _ => true | _ => false) = true) (hi' : (P.info? ty').map (·.size) = some cs'.size) :
    (results fn tmps).run P w = .ok (.tuple #[.agg cs, .agg cs']) w := by
  have h1 : tmps[p]?.getD undef = .pointer (some ⟨g, 0, none⟩) := by simpa using hp
  have h2 : tmps[p']?.getD undef = .pointer (some ⟨g', 0, none⟩) := by simpa using hp'
  simp [results, h, h1, h2, asAddr, run_loadVar_row w g t ty cs fr d hg hu hd hi, run_loadVar_row w g' t' ty' cs' fr' d' hg' hu' hd' hi']
end
theorem z18_pre : z18 = preA ⟨false, fun _ => 0, 0⟩ := by kernel_rfl

set_option maxHeartbeats 8000000 in
set_option maxRecDepth 100000 in
theorem Ends_any (p : PV) (hp : ∀ i, i < 16 → p.addr i < 256) (m W : Nat) (hm : p.bits = m) (hW : widthV p = W) (hmW : m ≤ W) (h128 : W ≤ 128) (hz : ∀ j : Nat, m ≤ j → j < 128 → bitA p.addr j = 0) (w : World) :
    Calls Tryz.prog 6 #[.agg (preA p)] w fun e w' => e = .returned (.tuple #[.agg (preA ⟨p.six, p.addr, W⟩), .agg (preA ⟨p.six, endF p.addr m W, W⟩)]) ∧ Hid (Below w.heap.size w w') := by
  have HS0 : Hid (Se w.heap.size p ⟨false, fun _ => 0, 0⟩ ⟨false, fun _ => 0, 0⟩ w (((w.alloc (.cells (preA p) 24)).alloc (.cells z18 24)).alloc (.cells z18 24))) := by
    refine ⟨((Row.new w _ _ rfl).old _).old _, ?_, ?_, (((Below.refl _ _).alloc (Nat.le_refl _) _).alloc (by simp) _).alloc (by simp; omega) _⟩
    · show Row _ _ _ _
      rw [← z18_pre]
      exact (Row.new _ _ _ (by simp)).old _
    · show Row _ _ _ _
      rw [← z18_pre]
      exact Row.new _ _ _ (by simp)
  have HP := Lib.hid hp
  have HZ := Lib.hid hz
  clear hp hz
  go_enter Tryz.func6, Tryz.ntmps6
  go_upto_region 1 with (fail)
  change Code.wp _ _ _ _ (((w.alloc (.cells (preA p) 24)).alloc (.cells z18 24)).alloc (.cells z18 24))
  generalize ((w.alloc (.cells (preA p) 24)).alloc (.cells z18 24)).alloc (.cells z18 24) = w0 at *
  go_upto_region 2 with (first | ((with_reducible refine wpl_load_pre HS0.out.p ?hx ?_); (case hx => rfl)) | (go_at_call 13; refine (Width_any p _).mono ?_; rintro e w1 ⟨rfl, hb1⟩))
  have HS1 := Lib.hid (HS0.out.below hb1.out)
  clear HS0 hb1
  have HSd := Lib.hid HS1.out.drew
  refine wp_region_noPanic ?_
  refine wp_region_held_drew (S := (fun W => PreAt w.heap.size p W)) (by kernel_rfl) ?_ (fun hHeld => ?_)
  · exact HS1.out.p
  refine wpAnyH_take (i := 0) rfl (by kernel_rfl) (by kernel_rfl) (by kernel_rfl) (fun _ _ _ h => h) (yieldsIf_load_mid (by rfl) _ _ rfl w.heap.size 0 rfl (preA p).toList _ (fun W h => PreAt.rangeW h) Tryz.underlying24 rfl (by rw [Array.length_toList, preA_size]; exact info_pre)) (by assumption) ?_
  (try simp only [List.getElem_toArray, List.getElem_cons_succ, List.getElem_cons_zero, Act.put, List.setIfInBounds_toArray, List.set_cons_zero, List.set_cons_succ])
  refine wpAnyH_take (i := 1) rfl (by kernel_rfl) (by kernel_rfl) (by kernel_rfl) (fun _ _ _ h => h) (yieldsIf_load_mid (by rfl) _ _ rfl w.heap.size 0 rfl (preA p).toList _ (fun W h => PreAt.rangeW h) Tryz.underlying24 rfl (by rw [Array.length_toList, preA_size]; exact info_pre)) (by assumption) ?_
  (try simp only [List.getElem_toArray, List.getElem_cons_succ, List.getElem_cons_zero, Act.put, List.setIfInBounds_toArray, List.set_cons_zero, List.set_cons_succ])
  refine wpAnyH_ready (rs := [2]) (by kernel_rfl) (by simp) ?_
  refine AllReadyH.cons (o := _) rfl (fun K hK => ?_) AllReadyH.nil
  refine step_store (by rfl) 24 (.tmp 2) (.tmp 8) (by rfl) _ _ (by rfl) (by rfl) (pre_st (p := p) HSd.out.q (by first | rfl | exact preA_size _)) ?_
  (try dsimp only)
  refine hK.out _ _ HSd.out.q_st.p (fun hHeld => ?_)
  clear hK K
  (try simp only [List.getElem_toArray, List.getElem_cons_succ, List.getElem_cons_zero, Act.put, List.setIfInBounds_toArray, List.set_cons_zero, List.set_cons_succ])
  refine wpAnyH_ready (rs := [3]) (by kernel_rfl) (by simp) ?_
  refine AllReadyH.cons (o := _) rfl (fun K hK => ?_) AllReadyH.nil
  refine step_store (by rfl) 24 (.tmp 3) (.tmp 9) (by rfl) _ _ (by rfl) (by rfl) (pre_st (p := p) HSd.out.q_st.r (by first | rfl | exact preA_size _)) ?_
  (try dsimp only)
  refine hK.out _ _ HSd.out.q_st.r_st.p (fun hHeld => ?_)
  clear hK K
  (try simp only [List.getElem_toArray, List.getElem_cons_succ, List.getElem_cons_zero, Act.put, List.setIfInBounds_toArray, List.set_cons_zero, List.set_cons_succ])
  refine wpAnyH_done (by kernel_rfl) (NoPanic.normal ?_) _
  have HS2 := Lib.hid (Se.r_st (r' := p) (Se.q_st (q' := p) HSd.out))
  generalize (w1.drew.setRow (w.heap.size + 1) (preA p)).setRow (w.heap.size + 1 + 1) (preA p) = w2 at *
  clear HS1 HSd
  have cq : w2.cell? ⟨w.heap.size + 1, 17, none⟩ = some (.int .i64 p.bits) := PreAt.bits HS2.out.q
  have cr : w2.cell? ⟨w.heap.size + 1 + 1, 17, none⟩ = some (.int .i64 p.bits) := PreAt.bits HS2.out.r
  have fq : w2.frozen? ⟨w.heap.size + 1, 17, none⟩ = false := Row.frozen HS2.out.q 17
  have fr : w2.frozen? ⟨w.heap.size + 1 + 1, 17, none⟩ = false := Row.frozen HS2.out.r 17
  have cp : w2.cell? ⟨w.heap.size, 17, none⟩ = some (.int .i64 m) := by rw [← hm]; exact PreAt.bits HS2.out.p
  go_upto_region 5 with (fail)
  have HS3 := Lib.hid (Se.r_bits (Se.q_bits HS2.out W) W)
  generalize (w2.setCell ⟨w.heap.size + 1, 17, none⟩ (.int .i64 W)).setCell ⟨w.heap.size + 1 + 1, 17, none⟩ (.int .i64 W) = w3 at *
  clear HS2 cq cr fq fr cp
  go_loopg [5] (W - m) (fun g v5 wi => ∃ k : Nat, v5 = .int .i64 k ∧ Hid (k + g = W ∧ m ≤ k) ∧ Hid (Se w.heap.size p ⟨p.six, p.addr, W⟩ ⟨p.six, endF p.addr m k, W⟩ w wi))
  case atStart => exact ⟨m, rfl, ⟨by omega, Nat.le_refl m⟩, by show Se _ _ _ _ _ _; rw [endF_start]; exact HS3.out⟩
  case round =>
    obtain ⟨k, rfl, HK, HS⟩ := hrel
    clear HS3
    have hk := HK.out
    by_cases hlt : k < W
    · obtain ⟨g1, rfl⟩ : ∃ g1, gk = g1 + 1 := ⟨gk - 1, by omega⟩
      have e1 : decide (k < W) = true := decide_eq_true hlt
      have t1 : (k : Int).tdiv 8 = ((k / 8 : Nat) : Int) := by rw [Int.tdiv_eq_ediv_of_nonneg (by omega)]; omega
      have t2 : (k : Int).tmod 8 = ((k % 8 : Nat) : Int) := by rw [Int.tmod_eq_emod_of_nonneg (by omega)]; omega
      have hfin := endF_fin p.addr HP.out m k hk.2 (by omega) HZ.out
      have hor : bits .or .u8 ((endF p.addr m k (k / 8) : Nat) : Int) (128 / 2 ^ (k % 8)) = ((endF p.addr m (k + 1) (k / 8) : Nat) : Int) := by
        rw [pow_shr (k % 8) (by omega), u8_or_nat _ _ hfin.2.2.2 (by have : 2 ^ (7 - k % 8) ≤ 2 ^ 7 := Nat.pow_le_pow_right (by omega) (by omega); omega), hfin.1]
      have h16 : k / 8 < 16 := by omega
      have h8 : k % 8 ≤ 7 := by omega
      have cb : wr.cell? ⟨w.heap.size + 1 + 1, 1 + k / 8, none⟩ = some (.int .u8 ((endF p.addr m k (k / 8) : Nat) : Int)) := PreAt.byte HS.out.r (k / 8) h16
      have fb : wr.frozen? ⟨w.heap.size + 1 + 1, 1 + k / 8, none⟩ = false := Row.frozen HS.out.r _
      have HU := Lib.hid (endF_upd p.addr m k)
      have HS4 : Hid (Se w.heap.size p ⟨p.six, p.addr, W⟩ ⟨p.six, endF p.addr m (k + 1), W⟩ w (wr.drew.setCell ⟨w.heap.size + 1 + 1, 1 + k / 8, none⟩ (.int .u8 ((endF p.addr m (k + 1) (k / 8) : Nat) : Int)))) := by
        have h := Se.r_byte HS.out.drew (k / 8) (endF p.addr m (k + 1) (k / 8)) h16
        rw [show (fun j => if j = k / 8 then endF p.addr m (k + 1) (k / 8) else endF p.addr m k j) = endF p.addr m (k + 1) from HU.out] at h
        exact h
      clear hfin HU
      generalize k / 8 = q at *
      generalize k % 8 = r at *
      have k0 : (0 : Int) ≤ (q : Int) := by omega
      have k1 : (q : Int) < 16 := by omega
      have x1 : IntKind.i64.wrap (q : Int) = q := by rw [IntKind.wrap_i64]; omega
      have x2 : IntKind.i64.wrap (r : Int) = r := by rw [IntKind.wrap_i64]; omega
      go_wp2_with fail
      go_still_tail 11, (by kernel_rfl)
      change wpList _ _ _ _ _ wr.drew
      go_wp2_with fail
      go_roundg g1
      case measure => omega
      case rel => exact ⟨k + 1, by go_num, ⟨by omega, by omega⟩, HS4⟩
    · obtain rfl : k = W := by omega
      have e1 : decide (k < k) = false := by simp
      have HSd := Lib.hid HS.out.drew
      go_upto_region 8 with (fail)
      refine wp_region_noPanic ?_
      refine wp_region_held_drew (S := (fun W => PreAt (w.heap.size + 1) (⟨p.six, p.addr, k⟩ : PV) W ∧ PreAt (w.heap.size + 1 + 1) (⟨p.six, endF p.addr m k, k⟩ : PV) W)) (by kernel_rfl) ?_ (fun hHeld => ?_)
      · exact ⟨HS.out.q, HS.out.r⟩
      refine wpAnyH_take (i := 0) rfl (by kernel_rfl) (by kernel_rfl) (by kernel_rfl) (fun _ _ _ h => h) (yieldsIf_load_mid (by rfl) _ _ rfl (w.heap.size + 1) 0 rfl (preA (⟨p.six, p.addr, k⟩ : PV)).toList _ (fun W h => PreAt.rangeW h.1) Tryz.underlying24 rfl (by rw [Array.length_toList, preA_size]; exact info_pre)) (by assumption) ?_
      (try simp only [List.getElem_toArray, List.getElem_cons_succ, List.getElem_cons_zero, Act.put, List.setIfInBounds_toArray, List.set_cons_zero, List.set_cons_succ])
      refine wpAnyH_take (i := 1) rfl (by kernel_rfl) (by kernel_rfl) (by kernel_rfl) (fun _ _ _ h => h) (yieldsIf_load_mid (by rfl) _ _ rfl (w.heap.size + 1 + 1) 0 rfl (preA (⟨p.six, endF p.addr m k, k⟩ : PV)).toList _ (fun W h => PreAt.rangeW h.2) Tryz.underlying24 rfl (by rw [Array.length_toList, preA_size]; exact info_pre)) (by assumption) ?_
      (try simp only [List.getElem_toArray, List.getElem_cons_succ, List.getElem_cons_zero, Act.put, List.setIfInBounds_toArray, List.set_cons_zero, List.set_cons_succ])
      refine wpAnyH_ready (rs := [2]) (by kernel_rfl) (by simp) ?_
      refine AllReadyH.cons (o := _) rfl (fun K hK => ?_) AllReadyH.nil
      refine step_store (by rfl) 24 (.tmp 2) (.tmp 33) (by rfl) _ _ (by rfl) (by rfl) (pre_st (p := (⟨p.six, p.addr, k⟩ : PV)) HSd.out.q (by first | rfl | exact preA_size _)) ?_
      (try dsimp only)
      refine hK.out _ _ ⟨HSd.out.q_st.q, HSd.out.q_st.r⟩ (fun hHeld => ?_)
      clear hK K
      (try simp only [List.getElem_toArray, List.getElem_cons_succ, List.getElem_cons_zero, Act.put, List.setIfInBounds_toArray, List.set_cons_zero, List.set_cons_succ])
      refine wpAnyH_ready (rs := [3]) (by kernel_rfl) (by simp) ?_
      refine AllReadyH.cons (o := _) rfl (fun K hK => ?_) AllReadyH.nil
      refine step_store (by rfl) 24 (.tmp 3) (.tmp 34) (by rfl) _ _ (by rfl) (by rfl) (pre_st (p := (⟨p.six, endF p.addr m k, k⟩ : PV)) HSd.out.q_st.r (by first | rfl | exact preA_size _)) ?_
      (try dsimp only)
      refine hK.out _ _ ⟨HSd.out.q_st.r_st.q, HSd.out.q_st.r_st.r⟩ (fun hHeld => ?_)
      clear hK K
      (try simp only [List.getElem_toArray, List.getElem_cons_succ, List.getElem_cons_zero, Act.put, List.setIfInBounds_toArray, List.set_cons_zero, List.set_cons_succ])
      refine wpAnyH_done (by kernel_rfl) (NoPanic.normal ?_) _
      have HS9 := Lib.hid (Se.r_st (r' := (⟨p.six, endF p.addr m k, k⟩ : PV)) (Se.q_st (q' := (⟨p.six, p.addr, k⟩ : PV)) HSd.out))
      go_wp2_with fail
      (try simp only [Exit.inBlock, Exit.then])
      refine bodyPost_ret (v := .tuple #[.agg (preA ⟨p.six, p.addr, k⟩), .agg (preA ⟨p.six, endF p.addr m k, k⟩)]) ?_ rfl ⟨rfl, HS9.out.bel⟩
      exact res_cc rfl _ _ _ _ _ _ _ _ _ _ _ _ rfl HS9.out.q Tryz.underlying24 rfl (by rw [preA_size]; exact info_pre) rfl HS9.out.r Tryz.underlying24 rfl (by rw [preA_size]; exact info_pre)
end Go.Proofs.YtangheahliekeaaGreatDoor

