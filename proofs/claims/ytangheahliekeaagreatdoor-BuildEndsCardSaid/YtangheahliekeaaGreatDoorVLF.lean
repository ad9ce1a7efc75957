/- What the claim uses of the text LF. -/
import Derived.Test.YtangheahliekeaaGreatDoorVLE
set_option linter.unusedVariables false
set_option linter.unusedSimpArgs false
namespace Go.Proofs.YtangheahliekeaaGreatDoor
open Go.RowKit Go.PlainAid
open Go.Proofs.YtangheahliekeaaGreatDoorW.PrintWords hiding bt
open Go.Proofs.YtangheahliekeaaGreatDoorW.PrintMore

theorem ipOk_parts (p : PV) (h : ipOk p = true) : 0 ≤ p.bits ∧ p.bits ≤ widthV p := by
  unfold ipOk at h
  simp only [Bool.and_eq_true, decide_eq_true_eq] at h
  exact ⟨h.1, h.2.1⟩
theorem widthV_cases (p : PV) : widthV p = 32 ∨ widthV p = 128 := by
  unfold widthV
  split
  · exact .inr rfl
  · exact .inl rfl
section
variable {ops : Array Oper} {rest : List Oper} {a : Act} {w : World} {Q : Exit → Act → World → Prop} {dst : Option Tmp} {x y : Operand} {ty : TypeId} {pos : String} {after : Array Edge} {b : Nat} {p : PV}
theorem wpl_load_preG {o : Oper} (H : PreAt b p w) (hw : Region.wanted o (yielded ops a.tmps) = true) (ho : o.op = .load 24 x) (hx : a.eval x = .pointer (some ⟨b, 0, none⟩)) (h : wpList Tryz.prog ops Q rest (a.put o.dst (.agg (preA p))) w) : wpList Tryz.prog ops Q (o :: rest) a w := by
  refine wpList_step fun K' hK' => ?_
  rw [if_pos hw]
  exact wp_load_row 24 x ho b hx 24 _ (0, 0) _ H Tryz.underlying24 rfl (by rw [preA_size]; exact info_pre) (hK' _ _ h)
end

set_option maxHeartbeats 8000000 in
set_option maxRecDepth 100000 in
theorem buildEnds_walk {E : Nat → Addr} (p : PV) (w : World) (hg : Ges E w) (hc : Caps w) (hp : ∀ i, i < 16 → p.addr i < 256) :
    Calls Tryz.prog 3 #[.agg (preA p)] w fun e w' => e = .returned (.bool true) ∧ Hid (Below w.heap.size w w') := by
  have HP0 : Hid (PreAt w.heap.size p (w.alloc (.cells (preA p) 24))) := Row.new w _ _ rfl
  have HB0 : Hid (Below w.heap.size w (w.alloc (.cells (preA p) 24))) := (Below.refl _ _).alloc (Nat.le_refl _) _
  have HG := Lib.hid hg
  have HC := Lib.hid hc
  have HY := Lib.hid hp
  clear hg hc hp
  go_enter Tryz.func3, Tryz.ntmps3
  go_upto_region 1 with (fail)
  generalize w.alloc (.cells (preA p) 24) = w0 at *
  go_upto_region 3 with (go_at_call 4; refine (awake28 (E := E) _ (HG.out.below HB0.out) (HC.out.below HB0.out)).mono ?_; rintro e w1 ⟨rfl, hb1⟩)
  have HP1 := Lib.hid (HP0.out.below hb1.out)
  have HB1 := Lib.hid (below_then HB0.out HB0.out.size hb1.out)
  clear HP0 HB0 hb1 HG HC
  by_cases hok : ipOk p = true
  · obtain ⟨h0, h1⟩ := ipOk_parts p hok
    have hbits := (ipOk_bits p HY.out h0 h1).1 hok
    obtain ⟨m, hm⟩ : ∃ m : Nat, p.bits = m := ⟨p.bits.toNat, by omega⟩
    obtain ⟨W, hW⟩ : ∃ W : Nat, widthV p = W := ⟨(widthV p).toNat, by have := widthV_cases p; omega⟩
    have hmW : m ≤ W := by omega
    have hW8 : W % 8 = 0 := by have := widthV_cases p; omega
    have hW128 : W ≤ 128 := by have := widthV_cases p; omega
    have hz : ∀ j : Nat, m ≤ j → j < 128 → bitA p.addr j = 0 := fun j h2 h3 => hbits j (by omega) h3
    have HEn := Lib.hid (fun w => Ends_any p HY.out m W hm hW hmW hW128 hz w)
    have HRn := Lib.hid (fun w => rEnds_any p HY.out m W hm hW hmW hW128 hz w)
    have HH1 := Lib.hid (fun w => Holds_any p.six p.addr p.addr m W HY.out HY.out hmW hW128 (fun _ _ => rfl) w)
    have HH2 := Lib.hid (fun w => Holds_any p.six p.addr (endF p.addr m W) m W HY.out (endF_lt p.addr HY.out m hz W hmW hW128) hmW hW128 (fun i hi => (endF_bits p.addr HY.out m W hW8 hmW hW128 hz i hi).symm) w)
    have HPE : Hid (preA p = preA ⟨p.six, p.addr, m⟩) := by show _ = _; rw [← hm]
    clear hbits hz h0 h1 hm hW hmW hW8 hW128
    go_upto_region 5 with (first | ((with_reducible refine wpl_load_pre HP1.out ?hx ?_); (case hx => rfl)) | (go_at_call 5; refine (rCheck_any p HY.out _).mono ?_; rintro e w2 ⟨c, rfl, hc, hb2⟩; obtain rfl : c = 0 := hc.out.2 hok))
    have HP2 := Lib.hid (HP1.out.below hb2.out)
    have HB2 := Lib.hid (below_then HB1.out HB1.out.size hb2.out)
    clear HP1 HB1 hb2 hc
    go_upto_region 6 with (first | ((with_reducible refine wpl_load_pre HP2.out ?hx ?_); (case hx => rfl)) | (go_at_call 6; refine (HEn.out _).mono ?_; rintro e w3 ⟨rfl, hb3⟩) | ((with_reducible refine wpl_put_pre (p := ⟨p.six, endF p.addr m W, W⟩) HRt4.out rfl ?hx ?hy ?_); (case hx => rfl); (case hy => rfl); intro w5 hr5 hw5) | ((with_reducible refine wpl_put_pre (p := ⟨p.six, p.addr, W⟩) (Row.old (Row.new w3 _ _ rfl) _) rfl ?hx ?hy ?_); (case hx => rfl); (case hy => rfl); intro w4 hr4 hw4; have HRt4 : Hid (Row 24 (w3.heap.size + 1) z18 w4) := hw4.row (Row.new _ _ _ (by simp)) (by omega)))
    have hBx4 : Below w3.heap.size w3 w4 := hw4.below (((Below.refl _ _).alloc (Nat.le_refl _) _).alloc (by simp) _) (Nat.le_refl _)
    have hBx5 : Below w3.heap.size w3 w5 := hw5.below hBx4 (by omega)
    have HB5 := Lib.hid (below_then (below_then HB2.out HB2.out.size hb3.out) (below_then HB2.out HB2.out.size hb3.out).size hBx5)
    have HBs5 := Lib.hid (below_then hb3.out hb3.out.size hBx5)
    have HA5 : Hid (PreAt w3.heap.size ⟨p.six, p.addr, W⟩ w5) := hw5.row hr4 (by omega)
    have HZ5 : Hid (PreAt (w3.heap.size + 1) ⟨p.six, endF p.addr m W, W⟩ w5) := hr5
    have HP5 := Lib.hid (HP2.out.below HBs5.out)
    clear HP2 HB2 hb3 hr4 hw4 HRt4 hBx4 hBx5 hr5 hw5 HBs5
    go_upto_region 7 with (first | ((with_reducible refine wpl_load_pre HP5.out ?hx ?_); (case hx => rfl)) | (go_at_call 7; refine (HRn.out _).mono ?_; rintro e w6 ⟨rfl, hb6⟩) | ((with_reducible refine wpl_put_pre (p := ⟨p.six, endF p.addr m W, W⟩) HRt7.out rfl ?hx ?hy ?_); (case hx => rfl); (case hy => rfl); intro w8 hr8 hw8) | ((with_reducible refine wpl_put_pre (p := ⟨p.six, p.addr, W⟩) (Row.old (Row.new w6 _ _ rfl) _) rfl ?hx ?hy ?_); (case hx => rfl); (case hy => rfl); intro w7 hr7 hw7; have HRt7 : Hid (Row 24 (w6.heap.size + 1) z18 w7) := hw7.row (Row.new _ _ _ (by simp)) (by omega)))
    have hBx7 : Below w6.heap.size w6 w7 := hw7.below (((Below.refl _ _).alloc (Nat.le_refl _) _).alloc (by simp) _) (Nat.le_refl _)
    have hBx8 : Below w6.heap.size w6 w8 := hw8.below hBx7 (by omega)
    have HB8 := Lib.hid (below_then (below_then HB5.out HB5.out.size hb6.out) (below_then HB5.out HB5.out.size hb6.out).size hBx8)
    have HBs8 := Lib.hid (below_then hb6.out hb6.out.size hBx8)
    have HA8 : Hid (PreAt w6.heap.size ⟨p.six, p.addr, W⟩ w8) := hw8.row hr7 (by omega)
    have HZ8 : Hid (PreAt (w6.heap.size + 1) ⟨p.six, endF p.addr m W, W⟩ w8) := hr8
    have HP8 := Lib.hid (HP5.out.below HBs8.out)
    have HA5' := Lib.hid (HA5.out.below HBs8.out)
    have HZ5' := Lib.hid (HZ5.out.below HBs8.out)
    clear HP5 HB5 hb6 hr7 hw7 HRt7 hBx7 hBx8 hr8 hw8 HBs8 HA5 HZ5
    have q1 := fun W' => eq_pre ⟨p.six, p.addr, W⟩ W'
    have q2 := fun W' => eq_pre ⟨p.six, endF p.addr m W, W⟩ W'
    replace HP8 : Hid (PreAt w.heap.size ⟨p.six, p.addr, m⟩ w8) := by
      have h : Row 24 _ (preA p) w8 := HP8.out
      rw [HPE.out] at h
      exact h
    go_wp2_with (first | ((with_reducible refine wpl_load_pre HA5'.out ?hx ?_); (case hx => rfl)) | ((with_reducible refine wpl_load_pre HA8.out ?hx ?_); (case hx => rfl)) | ((with_reducible refine wpl_load_preG HZ5'.out rfl rfl ?hx ?_); (case hx => rfl)) | ((with_reducible refine wpl_load_preG HZ8.out rfl rfl ?hx ?_); (case hx => rfl)) | ((with_reducible refine wpl_load_preG HP8.out rfl rfl ?hx ?_); (case hx => rfl)) | ((with_reducible refine wpl_load_preG HA5'.out rfl rfl ?hx ?_); (case hx => rfl)) | ((with_reducible refine wpl_load_preG HP9.out rfl rfl ?hx ?_); (case hx => rfl)) | ((with_reducible refine wpl_load_preG HZ9.out rfl rfl ?hx ?_); (case hx => rfl)) | (go_at_call 8; first | (refine (HH1.out _).mono ?_; rintro e w9 ⟨rfl, hb9⟩; clear HH1; have HP9 := Lib.hid (HP8.out.below hb9.out); have HZ9 := Lib.hid (HZ5'.out.below hb9.out)) | (refine (HH2.out _).mono ?_; rintro e w10 ⟨rfl, hb10⟩)))
    go_ret
    exact ⟨rfl, below_then (below_then HB8.out HB8.out.size hb9.out) (below_then HB8.out HB8.out.size hb9.out).size hb10.out⟩
  · go_upto_region 3 with (fail)
    go_wp2_with (first | ((with_reducible refine wpl_load_pre HP1.out ?hx ?_); (case hx => rfl)) | (go_at_call 5; refine (rCheck_any p HY.out _).mono ?_; rintro e w2 ⟨c, rfl, hc, hb2⟩; have hc0 : (c != 0) = true := bne_iff_ne.2 (fun h => hok (hc.out.1 h))))
    go_ret
    exact ⟨rfl, below_then HB1.out HB1.out.size hb2.out⟩
end Go.Proofs.YtangheahliekeaaGreatDoor

