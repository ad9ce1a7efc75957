/- What the claim uses of the text LE. -/
import Derived.Test.YtangheahliekeaaGreatDoorVLD
set_option linter.unusedVariables false
set_option linter.unusedSimpArgs false
namespace Go.Proofs.YtangheahliekeaaGreatDoor
open Go.RowKit Go.PlainAid
open Go.Proofs.YtangheahliekeaaGreatDoorW.PrintWords hiding bt
open Go.Proofs.YtangheahliekeaaGreatDoorW.PrintMore

/-- Five networks in memory: what the document's Ends works on. -/
structure Sf (B c d : Nat) (p q r s t : PV) (w0 w : World) : Prop where
  p : PreAt (B) p w
  q : PreAt (B + 1) q w
  r : PreAt (B + 1 + 1) r w
  s : PreAt (c) s w
  t : PreAt (d) t w
  bel : Below B w0 w
  hc : B + 2 < c
  hd : c < d
theorem Sf.q_st {B c d : Nat} {p q r s t q' : PV} {w0 w : World} (h : Sf B c d p q r s t w0 w) : Sf B c d p q' r s t w0 (w.setRow (B + 1) (preA q')) :=
  ⟨Row.other h.p (by have := h.hc; have := h.hd; omega) _, Row.set h.q, Row.other h.r (by have := h.hc; have := h.hd; omega) _, Row.other h.s (by have := h.hc; have := h.hd; omega) _, Row.other h.t (by have := h.hc; have := h.hd; omega) _, below_setRow h.bel (by have := h.hc; have := h.hd; omega), h.hc, h.hd⟩
theorem Sf.r_st {B c d : Nat} {p q r s t r' : PV} {w0 w : World} (h : Sf B c d p q r s t w0 w) : Sf B c d p q r' s t w0 (w.setRow (B + 1 + 1) (preA r')) :=
  ⟨Row.other h.p (by have := h.hc; have := h.hd; omega) _, Row.other h.q (by have := h.hc; have := h.hd; omega) _, Row.set h.r, Row.other h.s (by have := h.hc; have := h.hd; omega) _, Row.other h.t (by have := h.hc; have := h.hd; omega) _, below_setRow h.bel (by have := h.hc; have := h.hd; omega), h.hc, h.hd⟩
theorem Sf.s_bits {B c d : Nat} {p q r s t : PV} {w0 w : World} (h : Sf B c d p q r s t w0 w) (x : Int) : Sf B c d p q r ⟨s.six, s.addr, x⟩ t w0 (w.setCell ⟨c, 17, none⟩ (.int .i64 x)) :=
  ⟨Row.far h.p (by have := h.hc; have := h.hd; omega) _, Row.far h.q (by have := h.hc; have := h.hd; omega) _, Row.far h.r (by have := h.hc; have := h.hd; omega) _, PreAt.setBits h.s x, Row.far h.t (by have := h.hc; have := h.hd; omega) _, h.bel.setCell (by have := h.hc; have := h.hd; show B ≤ c; omega) _, h.hc, h.hd⟩
theorem Sf.t_bits {B c d : Nat} {p q r s t : PV} {w0 w : World} (h : Sf B c d p q r s t w0 w) (x : Int) : Sf B c d p q r s ⟨t.six, t.addr, x⟩ w0 (w.setCell ⟨d, 17, none⟩ (.int .i64 x)) :=
  ⟨Row.far h.p (by have := h.hc; have := h.hd; omega) _, Row.far h.q (by have := h.hc; have := h.hd; omega) _, Row.far h.r (by have := h.hc; have := h.hd; omega) _, Row.far h.s (by have := h.hc; have := h.hd; omega) _, PreAt.setBits h.t x, h.bel.setCell (by have := h.hc; have := h.hd; show B ≤ d; omega) _, h.hc, h.hd⟩
theorem Sf.t_byte {B c d : Nat} {p q r s t : PV} {w0 w : World} (h : Sf B c d p q r s t w0 w) (i v : Nat) (hi : i < 16) : Sf B c d p q r s ⟨t.six, fun j => if j = i then v else t.addr j, t.bits⟩ w0 (w.setCell ⟨d, 1 + i, none⟩ (.int .u8 v)) :=
  ⟨Row.far h.p (by have := h.hc; have := h.hd; omega) _, Row.far h.q (by have := h.hc; have := h.hd; omega) _, Row.far h.r (by have := h.hc; have := h.hd; omega) _, Row.far h.s (by have := h.hc; have := h.hd; omega) _, PreAt.setByte h.t i v hi, h.bel.setCell (by have := h.hc; have := h.hd; show B ≤ d; omega) _, h.hc, h.hd⟩
theorem Sf.drew {B c d : Nat} {p q r s t : PV} {w0 w : World} (h : Sf B c d p q r s t w0 w) : Sf B c d p q r s t w0 w.drew := ⟨h.p, h.q, h.r, h.s, h.t, below_drew h.bel, h.hc, h.hd⟩
section
variable {ops : Array Oper} {rest : List Oper} {a : Act} {w : World} {Q : Exit → Act → World → Prop} {dst : Option Tmp} {x y : Operand} {ty : TypeId} {pos : String} {after : Array Edge} {b : Nat}
theorem wpl_put_pre {old : Array Value} {p : PV} (H : Row 24 b old w) (ho : old.size = 18) (hx : a.eval x = .pointer (some ⟨b, 0, none⟩)) (hy : a.eval y = .agg (preA p)) (h : ∀ W, Row 24 b (preA p) W → Wrote b w W → wpList Tryz.prog ops Q rest (a.put dst undef) W) :
    wpList Tryz.prog ops Q ({ dst := dst, op := .store 24 x y, type := ty, pos := pos, after := after, guard := none } :: rest) a w := wpl_put info_pre H ho hx hy (preA_size p) (preA_one p) h
end
set_option maxHeartbeats 8000000 in
set_option maxRecDepth 100000 in
theorem rEnds_any (p : PV) (hp : ∀ i, i < 16 → p.addr i < 256) (m W : Nat) (hm : p.bits = m) (hW : widthV p = W) (hmW : m ≤ W) (h128 : W ≤ 128) (hz : ∀ j : Nat, m ≤ j → j < 128 → bitA p.addr j = 0) (w : World) :
    Calls Tryz.prog 7 #[.agg (preA p)] w fun e w' => e = .returned (.tuple #[.agg (preA ⟨p.six, p.addr, W⟩), .agg (preA ⟨p.six, endF p.addr m W, W⟩)]) ∧ Hid (Below w.heap.size w w') := by
  have HS0 : Hid (Se w.heap.size p ⟨false, fun _ => 0, 0⟩ ⟨false, fun _ => 0, 0⟩ w (((w.alloc (.cells (preA p) 24)).alloc (.cells z18 24)).alloc (.cells z18 24))) := by
    refine ⟨((Row.new w _ _ rfl).old _).old _, ?_, ?_, (((Below.refl _ _).alloc (Nat.le_refl _) _).alloc (by simp) _).alloc (by simp; omega) _⟩
    · show Row _ _ _ _
      rw [← z18_pre]
      exact (Row.new _ _ _ (by simp)).old _
    · show Row _ _ _ _
      rw [← z18_pre]
      exact Row.new _ _ _ (by simp)
  have HN0 : Hid ((((w.alloc (.cells (preA p) 24)).alloc (.cells z18 24)).alloc (.cells z18 24)).heap.size = w.heap.size + 1 + 1 + 1) := by show _ = _; simp
  have HP := Lib.hid hp
  have HZ := Lib.hid hz
  clear hp hz
  go_enter Tryz.func7, Tryz.ntmps7
  go_upto_region 1 with (fail)
  change Code.wp _ _ _ _ (((w.alloc (.cells (preA p) 24)).alloc (.cells z18 24)).alloc (.cells z18 24))
  generalize ((w.alloc (.cells (preA p) 24)).alloc (.cells z18 24)).alloc (.cells z18 24) = w0 at *
  go_upto_region 2 with (first | ((with_reducible refine wpl_load_pre HS0.out.p ?hx ?_); (case hx => rfl)) | (go_at_call 11; refine (rWidth_any p _).mono ?_; rintro e w1 ⟨rfl, hb1⟩))
  have HS1 := Lib.hid (HS0.out.below hb1.out)
  clear HS0 hb1 HN0
  go_upto_region 3 with (first | ((with_reducible refine wpl_load_pre HS1.out.p ?hx ?_); (case hx => rfl)) | ((with_reducible refine wpl_put_pre (p := p) (Row.new w1 _ _ rfl) rfl ?hx ?hy ?_); (case hx => rfl); (case hy => rfl); intro w2 hr2 hw2))
  have HB2 : Hid (Below w1.heap.size w1 w2) := hw2.below ((Below.refl _ _).alloc (Nat.le_refl _) _) (Nat.le_refl _)
  have HS2 := Lib.hid (HS1.out.below HB2.out)
  have HR2 := Lib.hid hr2
  have HL1 := Lib.hid (HS1.out.r.lt)
  clear HS1 hr2 hw2 HB2
  go_upto_region 4 with (first | ((with_reducible refine wpl_load_pre HS2.out.p ?hx ?_); (case hx => rfl)) | ((with_reducible refine wpl_put_pre (p := p) (Row.new w2 _ _ rfl) rfl ?hx ?hy ?_); (case hx => rfl); (case hy => rfl); intro w3 hr3 hw3))
  have HB3 : Hid (Below w2.heap.size w2 w3) := hw3.below ((Below.refl _ _).alloc (Nat.le_refl _) _) (Nat.le_refl _)
  have HS3 : Hid (Sf w.heap.size w1.heap.size w2.heap.size p ⟨false, fun _ => 0, 0⟩ ⟨false, fun _ => 0, 0⟩ p p w w3) := by
    have h := HS2.out.below HB3.out
    exact ⟨h.p, h.q, h.r, Row.below HR2.out HB3.out, hr3, h.bel, by have := HL1.out; omega, HR2.out.lt⟩
  clear HS2 HR2 HL1 hr3 hw3 HB3
  have cs : w3.cell? ⟨w1.heap.size, 17, none⟩ = some (.int .i64 p.bits) := PreAt.bits HS3.out.s
  have ct : w3.cell? ⟨w2.heap.size, 17, none⟩ = some (.int .i64 p.bits) := PreAt.bits HS3.out.t
  have fs : w3.frozen? ⟨w1.heap.size, 17, none⟩ = false := Row.frozen HS3.out.s 17
  have ft : w3.frozen? ⟨w2.heap.size, 17, none⟩ = false := Row.frozen HS3.out.t 17
  have cp : w3.cell? ⟨w.heap.size, 17, none⟩ = some (.int .i64 m) := by rw [← hm]; exact PreAt.bits HS3.out.p
  have hne : w1.heap.size ≠ w2.heap.size := by have := HS3.out.hd; omega
  have hne2 : w.heap.size ≠ w1.heap.size := by have := HS3.out.hc; omega
  have hne3 : w.heap.size ≠ w2.heap.size := by have := HS3.out.hc; have := HS3.out.hd; omega
  generalize w1.heap.size = c at *
  generalize w2.heap.size = d at *
  go_upto_region 7 with (fail)
  have HS4 := Lib.hid (Sf.t_bits (Sf.s_bits HS3.out W) W)
  generalize (w3.setCell ⟨c, 17, none⟩ (.int .i64 W)).setCell ⟨d, 17, none⟩ (.int .i64 W) = w4 at *
  clear HS3 cs ct fs ft cp
  go_loopg [7] (W - m) (fun g v7 wi => ∃ k : Nat, v7 = .int .i64 k ∧ Hid (k + g = W ∧ m ≤ k) ∧ Hid (Sf w.heap.size c d p ⟨false, fun _ => 0, 0⟩ ⟨false, fun _ => 0, 0⟩ ⟨p.six, p.addr, W⟩ ⟨p.six, endF p.addr m k, W⟩ w wi))
  case atStart => exact ⟨m, rfl, ⟨by omega, Nat.le_refl m⟩, by show Sf _ _ _ _ _ _ _ _ _ _; rw [endF_start]; exact HS4.out⟩
  case round =>
    obtain ⟨k, rfl, HK, HS⟩ := hrel
    clear HS4
    have hk := HK.out
    by_cases hlt : k < W
    · obtain ⟨g1, rfl⟩ : ∃ g1, gk = g1 + 1 := ⟨gk - 1, by omega⟩
      have e1 : decide (k < W) = true := decide_eq_true hlt
      have t1 : (k : Int).tdiv 8 = ((k / 8 : Nat) : Int) := by rw [Int.tdiv_eq_ediv_of_nonneg (by omega)]; omega
      have t2 : (k : Int).tmod 8 = ((k % 8 : Nat) : Int) := by rw [Int.tmod_eq_emod_of_nonneg (by omega)]; omega
      have hfin := endF_fin p.addr HP.out m k hk.2 (by omega) HZ.out
      have h16 : k / 8 < 16 := by omega
      have h8 : k % 8 ≤ 7 := by omega
      have cb : wr.cell? ⟨d, 1 + k / 8, none⟩ = some (.int .u8 ((endF p.addr m k (k / 8) : Nat) : Int)) := PreAt.byte HS.out.t (k / 8) h16
      have fb : wr.frozen? ⟨d, 1 + k / 8, none⟩ = false := Row.frozen HS.out.t _
      have hp7 : 2 ^ (7 - k % 8) < 256 := by have : 2 ^ (7 - k % 8) ≤ 2 ^ 7 := Nat.pow_le_pow_right (by omega) (by omega); omega
      have HA : Hid (IntKind.u8.wrap (((endF p.addr m k (k / 8) : Nat) : Int) + ((2 ^ (7 - k % 8) : Nat) : Int)) = ((endF p.addr m (k + 1) (k / 8) : Nat) : Int)) := by
        show _ = _
        have h1 := hfin.2.1
        have h2 := hfin.2.2.1
        rw [IntKind.wrap_u8]
        omega
      have HU := Lib.hid (endF_upd p.addr m k)
      have HS5 : Hid (Sf w.heap.size c d p ⟨false, fun _ => 0, 0⟩ ⟨false, fun _ => 0, 0⟩ ⟨p.six, p.addr, W⟩ ⟨p.six, endF p.addr m (k + 1), W⟩ w (wr.setCell ⟨d, 1 + k / 8, none⟩ (.int .u8 ((endF p.addr m (k + 1) (k / 8) : Nat) : Int)))) := by
        have h := Sf.t_byte HS.out (k / 8) (endF p.addr m (k + 1) (k / 8)) h16
        rw [show (fun j => if j = k / 8 then endF p.addr m (k + 1) (k / 8) else endF p.addr m k j) = endF p.addr m (k + 1) from HU.out] at h
        exact h
      clear hfin HU
      generalize k / 8 = q at *
      generalize k % 8 = r at *
      have k0 : (0 : Int) ≤ (q : Int) := by omega
      have k1 : (q : Int) < 16 := by omega
      have x1 : IntKind.i64.wrap (q : Int) = q := by rw [IntKind.wrap_i64]; omega
      have x2 : IntKind.i64.wrap (r : Int) = r := by rw [IntKind.wrap_i64]; omega
      go_wp2_with fail
      go_loopg [8, 9] (7 - r) (fun g v8 v9 wi => ∃ n j : Nat, v8 = .int .i64 n ∧ v9 = .int .i64 j ∧ Hid (j = r + g ∧ j ≤ 7) ∧ Hid (n = 2 ^ (7 - j) ∧ n ≤ 128) ∧ wi = wr)
      case atStart => exact ⟨1, 7, rfl, rfl, ⟨by omega, Nat.le_refl 7⟩, ⟨rfl, by omega⟩, rfl⟩
      case round =>
        obtain ⟨n, j, rfl, rfl, HJ, HN, rfl⟩ := hrel
        have hj := HJ.out
        have hn := HN.out
        by_cases hjr : r < j
        · obtain ⟨g2, rfl⟩ : ∃ g2, gk = g2 + 1 := ⟨gk - 1, by omega⟩
          have d1 : decide ((r : Int) < (j : Int)) = true := decide_eq_true (by omega)
          have d2 : decide (r < j) = true := decide_eq_true hjr
          have hn1 : n * 2 = 2 ^ (7 - (j - 1)) := by
            have h2 : 7 - (j - 1) = 7 - j + 1 := by omega
            rw [hn.1, h2, Nat.pow_succ]
          have hn2 : n * 2 ≤ 128 := by
            rw [hn1]
            have : 2 ^ (7 - (j - 1)) ≤ 2 ^ 7 := Nat.pow_le_pow_right (by omega) (by omega)
            omega
          have HD : Hid (n * 2 = 2 ^ (7 - (j - 1)) ∧ n * 2 ≤ 128) := ⟨hn1, hn2⟩
          have hj1 : 1 ≤ j := by omega
          have hj7 : j ≤ 7 := hj.2
          clear hn1 hn hj
          go_wp2_with fail
          go_roundg g2
          case measure => omega
          case rel => exact ⟨n * 2, j - 1, by go_num, by go_num, by have := HJ.out; show _ ∧ _; omega, HD, rfl⟩
        · obtain rfl : j = r := by omega
          have d1 : decide ((j : Int) < (j : Int)) = false := by simp
          have d2 : decide (j < j) = false := by simp
          have HA2 : Hid (IntKind.u8.wrap (((endF p.addr m k q : Nat) : Int) + (n : Int)) = ((endF p.addr m (k + 1) q : Nat) : Int)) := by
            show _ = _
            rw [hn.1]; exact HA.out
          have hA := HA2.out
          have x3 : IntKind.u8.wrap (n : Int) = n := by have := hn.2; rw [IntKind.wrap_u8]; omega
          clear hn hj HJ HN
          go_wp2_with fail
          go_roundg g1
          case measure => omega
          case rel => exact ⟨k + 1, by go_num, ⟨by omega, by omega⟩, HS5⟩
    · obtain rfl : k = W := by omega
      have e1 : decide (k < k) = false := by simp
      have HSd := Lib.hid HS.out.drew
      go_upto_region 15 with (fail)
      refine wp_region_noPanic ?_
      refine wp_region_held_drew (S := (fun W => PreAt c (⟨p.six, p.addr, k⟩ : PV) W ∧ PreAt d (⟨p.six, endF p.addr m k, k⟩ : PV) W)) (by kernel_rfl) ?_ (fun hHeld => ?_)
      · exact ⟨HS.out.s, HS.out.t⟩
      refine wpAnyH_take (i := 0) rfl (by kernel_rfl) (by kernel_rfl) (by kernel_rfl) (fun _ _ _ h => h) (yieldsIf_load_mid (by rfl) _ _ rfl c 0 rfl (preA (⟨p.six, p.addr, k⟩ : PV)).toList _ (fun W h => PreAt.rangeW h.1) Tryz.underlying24 rfl (by rw [Array.length_toList, preA_size]; exact info_pre)) (by assumption) ?_
      (try simp only [List.getElem_toArray, List.getElem_cons_succ, List.getElem_cons_zero, Act.put, List.setIfInBounds_toArray, List.set_cons_zero, List.set_cons_succ])
      refine wpAnyH_take (i := 1) rfl (by kernel_rfl) (by kernel_rfl) (by kernel_rfl) (fun _ _ _ h => h) (yieldsIf_load_mid (by rfl) _ _ rfl d 0 rfl (preA (⟨p.six, endF p.addr m k, k⟩ : PV)).toList _ (fun W h => PreAt.rangeW h.2) Tryz.underlying24 rfl (by rw [Array.length_toList, preA_size]; exact info_pre)) (by assumption) ?_
      (try simp only [List.getElem_toArray, List.getElem_cons_succ, List.getElem_cons_zero, Act.put, List.setIfInBounds_toArray, List.set_cons_zero, List.set_cons_succ])
      refine wpAnyH_ready (rs := [2]) (by kernel_rfl) (by simp) ?_
      refine AllReadyH.cons (o := _) rfl (fun K hK => ?_) AllReadyH.nil
      refine step_store (by rfl) 24 (.tmp 2) (.tmp 45) (by rfl) _ _ (by rfl) (by rfl) (pre_st (p := (⟨p.six, p.addr, k⟩ : PV)) HSd.out.q (by first | rfl | exact preA_size _)) ?_
      (try dsimp only)
      refine hK.out _ _ ⟨HSd.out.q_st.s, HSd.out.q_st.t⟩ (fun hHeld => ?_)
      clear hK K
      (try simp only [List.getElem_toArray, List.getElem_cons_succ, List.getElem_cons_zero, Act.put, List.setIfInBounds_toArray, List.set_cons_zero, List.set_cons_succ])
      refine wpAnyH_ready (rs := [3]) (by kernel_rfl) (by simp) ?_
      refine AllReadyH.cons (o := _) rfl (fun K hK => ?_) AllReadyH.nil
      refine step_store (by rfl) 24 (.tmp 3) (.tmp 46) (by rfl) _ _ (by rfl) (by rfl) (pre_st (p := (⟨p.six, endF p.addr m k, k⟩ : PV)) HSd.out.q_st.r (by first | rfl | exact preA_size _)) ?_
      (try dsimp only)
      refine hK.out _ _ ⟨HSd.out.q_st.r_st.s, HSd.out.q_st.r_st.t⟩ (fun hHeld => ?_)
      clear hK K
      (try simp only [List.getElem_toArray, List.getElem_cons_succ, List.getElem_cons_zero, Act.put, List.setIfInBounds_toArray, List.set_cons_zero, List.set_cons_succ])
      refine wpAnyH_done (by kernel_rfl) (NoPanic.normal ?_) _
      have HS9 := Lib.hid (Sf.r_st (r' := (⟨p.six, endF p.addr m k, k⟩ : PV)) (Sf.q_st (q' := (⟨p.six, p.addr, k⟩ : PV)) HSd.out))
      go_wp2_with fail
      (try simp only [Exit.inBlock, Exit.then])
      refine bodyPost_ret (v := .tuple #[.agg (preA ⟨p.six, p.addr, k⟩), .agg (preA ⟨p.six, endF p.addr m k, k⟩)]) ?_ rfl ⟨rfl, HS9.out.bel⟩
      exact res_cc rfl _ _ _ _ _ _ _ _ _ _ _ _ rfl HS9.out.q Tryz.underlying24 rfl (by rw [preA_size]; exact info_pre) rfl HS9.out.r Tryz.underlying24 rfl (by rw [preA_size]; exact info_pre)

set_option maxHeartbeats 8000000 in
set_option maxRecDepth 100000 in
theorem Holds_any (sx : Bool) (f g : Nat → Nat) (m n : Nat) (hf : ∀ i, i < 16 → f i < 256) (hg : ∀ i, i < 16 → g i < 256) (hmn : m ≤ n) (h128 : n ≤ 128) (he : ∀ i, i < m → bitA f i = bitA g i) (w : World) :
    Calls Tryz.prog 8 #[.agg (preA ⟨sx, f, m⟩), .agg (preA ⟨sx, g, n⟩)] w fun e w' => e = .returned (.bool true) ∧ Hid (Below w.heap.size w w') := by
  have HP0 : Hid (PreAt w.heap.size ⟨sx, f, m⟩ ((w.alloc (.cells (preA ⟨sx, f, m⟩) 24)).alloc (.cells (preA ⟨sx, g, n⟩) 24))) := (Row.new w _ _ rfl).old _
  have HQ0 : Hid (PreAt (w.heap.size + 1) ⟨sx, g, n⟩ ((w.alloc (.cells (preA ⟨sx, f, m⟩) 24)).alloc (.cells (preA ⟨sx, g, n⟩) 24))) := Row.new _ _ _ (by simp)
  have HB0 : Hid (Below w.heap.size w ((w.alloc (.cells (preA ⟨sx, f, m⟩) 24)).alloc (.cells (preA ⟨sx, g, n⟩) 24))) := ((Below.refl _ _).alloc (Nat.le_refl _) _).alloc (by simp) _
  have HF := Lib.hid hf
  have HG := Lib.hid hg
  have HE := Lib.hid he
  clear hf hg he
  go_enter Tryz.func8, Tryz.ntmps8
  go_upto_region 1 with (fail)
  change Code.wp _ _ _ _ ((w.alloc (.cells (preA ⟨sx, f, m⟩) 24)).alloc (.cells (preA ⟨sx, g, n⟩) 24))
  generalize (w.alloc (.cells (preA ⟨sx, f, m⟩) 24)).alloc (.cells (preA ⟨sx, g, n⟩) 24) = w0 at *
  have cp0 : w0.cell? ⟨w.heap.size, 0, none⟩ = some (.bool sx) := PreAt.six HP0.out
  have cq0 : w0.cell? ⟨w.heap.size + 1, 0, none⟩ = some (.bool sx) := PreAt.six HQ0.out
  have cp1 : w0.cell? ⟨w.heap.size, 17, none⟩ = some (.int .i64 m) := PreAt.bits HP0.out
  have cq1 : w0.cell? ⟨w.heap.size + 1, 17, none⟩ = some (.int .i64 n) := PreAt.bits HQ0.out
  have e1 : decide (n < m) = false := decide_eq_false (by omega)
  have e2 : (sx != sx) = false := by simp
  go_upto_region 4 with (fail)
  clear cp0 cq0 cp1 cq1 e1 e2
  go_loopg [5] m (fun gk v5 wi => ∃ k : Nat, v5 = .int .i64 k ∧ Hid (k + gk = m) ∧ Hid (PreAt w.heap.size ⟨sx, f, m⟩ wi) ∧ Hid (PreAt (w.heap.size + 1) ⟨sx, g, n⟩ wi) ∧ Hid (Below w.heap.size w wi))
  case atStart => exact ⟨0, rfl, by show _ = _; omega, HP0, HQ0, HB0⟩
  case round =>
    obtain ⟨k, rfl, HK, HP, HQ, HB⟩ := hrel
    clear HP0 HQ0 HB0
    have hk := HK.out
    have cp1 : wr.cell? ⟨w.heap.size, 17, none⟩ = some (.int .i64 m) := PreAt.bits HP.out
    by_cases hlt : k < m
    · obtain ⟨g1, rfl⟩ : ∃ g1, gk = g1 + 1 := ⟨gk - 1, by omega⟩
      have d1 : decide (k < m) = true := decide_eq_true hlt
      go_upto_region 6 with (fail)
      have HBd : Hid (Below wr.heap.size wr wr.drew) := below_drew (Below.refl _ _)
      have HLP := Lib.hid HP.out.lt
      have HLQ := Lib.hid HQ.out.lt
      have hbk : bitA f k = bitA g k := HE.out k hlt
      have e3 : (bitA g k != bitA g k) = false := by simp

      refine wp_region_noPanic ?_
      refine wp_region_held_drew (S := (fun W => W.rangeAt w.heap.size 1 (arr f).toList ∧ W.rangeAt (w.heap.size + 1) 1 (arr g).toList)) (by kernel_rfl) ?_ (fun hHeld => ?_)
      · exact ⟨HP.out.range, HQ.out.range⟩
      refine wpAnyH_take (i := 0) (v := ?_) rfl (by kernel_rfl) (by kernel_rfl) (by kernel_rfl) (fun _ _ _ h => h) (Or.inl ⟨by rfl, ?_⟩) (by assumption) ?_
      rotate_left
      · intro W hSw
        (try dsimp only at hSw)
        go_simp
        (try with_reducible rfl)
      (try simp only [List.getElem_toArray, List.getElem_cons_succ, List.getElem_cons_zero, Act.put, List.setIfInBounds_toArray, List.set_cons_zero, List.set_cons_succ])
      refine wpAnyH_take (i := 1) rfl (by kernel_rfl) (by kernel_rfl) (by kernel_rfl) (fun _ _ _ h => h) (yieldsIf_load_mid (by rfl) _ _ rfl w.heap.size 1 rfl (arr f).toList _ (fun W h => h.1) Tryz.underlying22 rfl (by rw [Array.length_toList, arr_size]; exact info_arr)) (by assumption) ?_
      (try simp only [List.getElem_toArray, List.getElem_cons_succ, List.getElem_cons_zero, Act.put, List.setIfInBounds_toArray, List.set_cons_zero, List.set_cons_succ])
      refine wpAnyH_take (i := 2) (v := ?_) rfl (by kernel_rfl) (by kernel_rfl) (by kernel_rfl) (fun _ _ _ h => h) (Or.inl ⟨by rfl, ?_⟩) (by assumption) ?_
      rotate_left
      · intro W hSw
        (try dsimp only at hSw)
        go_simp
        (try with_reducible rfl)
      (try simp only [List.getElem_toArray, List.getElem_cons_succ, List.getElem_cons_zero, Act.put, List.setIfInBounds_toArray, List.set_cons_zero, List.set_cons_succ])
      refine wpAnyH_take (i := 4) (v := ?_) rfl (by kernel_rfl) (by kernel_rfl) (by kernel_rfl) (fun _ _ _ h => h) (Or.inl ⟨by rfl, ?_⟩) (by assumption) ?_
      rotate_left
      · intro W hSw
        (try dsimp only at hSw)
        go_simp
        (try with_reducible rfl)
      (try simp only [List.getElem_toArray, List.getElem_cons_succ, List.getElem_cons_zero, Act.put, List.setIfInBounds_toArray, List.set_cons_zero, List.set_cons_succ])
      refine wpAnyH_take (i := 5) rfl (by kernel_rfl) (by kernel_rfl) (by kernel_rfl) (fun _ _ _ h => h) (yieldsIf_load_mid (by rfl) _ _ rfl (w.heap.size + 1) 1 rfl (arr g).toList _ (fun W h => h.2) Tryz.underlying22 rfl (by rw [Array.length_toList, arr_size]; exact info_arr)) (by assumption) ?_
      (try simp only [List.getElem_toArray, List.getElem_cons_succ, List.getElem_cons_zero, Act.put, List.setIfInBounds_toArray, List.set_cons_zero, List.set_cons_succ])
      refine wpAnyH_take (i := 6) (v := ?_) rfl (by kernel_rfl) (by kernel_rfl) (by kernel_rfl) (fun _ _ _ h => h) (Or.inl ⟨by rfl, ?_⟩) (by assumption) ?_
      rotate_left
      · intro W hSw
        (try dsimp only at hSw)
        go_simp
        (try with_reducible rfl)
      (try simp only [List.getElem_toArray, List.getElem_cons_succ, List.getElem_cons_zero, Act.put, List.setIfInBounds_toArray, List.set_cons_zero, List.set_cons_succ])
      refine wpAnyH_ready (rs := [3]) (by kernel_rfl) (by simp) ?_
      refine AllReadyH.cons (o := _) rfl (fun K hK => ?_) AllReadyH.nil
      go_simp
      go_at_call 14
      refine (show Calls _ _ #[.agg (arr f), .int .i64 k] _ _ from bit_any f HF.out k (by omega) _).mono ?_
      rintro e w2 ⟨rfl, hbw2⟩
      have HBw2 := Lib.hid (below_then HBd.out HBd.out.size hbw2.out)
      (try dsimp only)
      refine hK.out _ _ ⟨PreAt.range (p := ⟨sx, f, m⟩) (HP.out.below HBw2.out), PreAt.range (p := ⟨sx, g, n⟩) (HQ.out.below HBw2.out)⟩ (fun hHeld => ?_)
      clear hK K
      (try simp only [List.getElem_toArray, List.getElem_cons_succ, List.getElem_cons_zero, Act.put, List.setIfInBounds_toArray, List.set_cons_zero, List.set_cons_succ])
      rw [hbk]
      refine wpAnyH_ready (rs := [7]) (by kernel_rfl) (by simp) ?_
      refine AllReadyH.cons (o := _) rfl (fun K hK => ?_) AllReadyH.nil
      go_simp
      go_at_call 14
      refine (show Calls _ _ #[.agg (arr g), .int .i64 k] _ _ from bit_any g HG.out k (by omega) _).mono ?_
      rintro e w3 ⟨rfl, hbw3⟩
      have HBw3 := Lib.hid (below_then HBw2.out HBw2.out.size hbw3.out)
      (try dsimp only)
      refine hK.out _ _ ⟨PreAt.range (p := ⟨sx, f, m⟩) (HP.out.below HBw3.out), PreAt.range (p := ⟨sx, g, n⟩) (HQ.out.below HBw3.out)⟩ (fun hHeld => ?_)
      clear hK K
      (try simp only [List.getElem_toArray, List.getElem_cons_succ, List.getElem_cons_zero, Act.put, List.setIfInBounds_toArray, List.set_cons_zero, List.set_cons_succ])
      refine wpAnyH_take (i := 8) (v := ?_) rfl (by kernel_rfl) (by kernel_rfl) (by kernel_rfl) (fun _ _ _ h => h) (Or.inl ⟨by rfl, ?_⟩) (by assumption) ?_
      rotate_left
      · intro W hSw
        (try dsimp only at hSw)
        go_simp
        (try with_reducible rfl)
      (try simp only [List.getElem_toArray, List.getElem_cons_succ, List.getElem_cons_zero, Act.put, List.setIfInBounds_toArray, List.set_cons_zero, List.set_cons_succ])
      refine wpAnyH_done (by kernel_rfl) (NoPanic.normal ?_) _
      go_wp2_with fail
      go_roundg g1
      case measure => omega
      case rel => exact ⟨k + 1, by go_num, by have := HK.out; show _ = _; omega, HP.out.below HBw3.out, HQ.out.below HBw3.out, below_then HB.out HB.out.size HBw3.out⟩
    · obtain rfl : k = m := by omega
      have d1 : decide (k < k) = false := by simp
      go_wp2_with fail
      go_ret
      exact ⟨rfl, HB⟩
end Go.Proofs.YtangheahliekeaaGreatDoor

