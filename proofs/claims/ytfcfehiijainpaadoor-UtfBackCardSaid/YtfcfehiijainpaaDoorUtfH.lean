/- utf.Valid by its contract; the statement UtfDecodes' walk. -/
import Derived.Test.YtfcfehiijainpaaDoorUtfG
import Derived.Test.YtfcfehiijainpaaDoorUtfE
set_option linter.unusedVariables false
set_option linter.unusedSimpArgs false
namespace Go.Proofs.YtfcfehiijainpaaDoor
open Go.RowKit Go.Proofs.YtfcfehiijainpaaDoorW.PrintWords Go.Proofs.YtfcfehiijainpaaDoorW.PrintMore PAll

theorem dcd_len (s : ByteArray) : ∀ (n : Nat) (at_ : Int) (acc : List Int), ((dcd s n at_ acc).1.length : Int) ≤ acc.length + n
  | 0, _, acc => by simp [dcd]
  | n + 1, at_, acc => by
    unfold dcd
    split
    · simp; omega
    · split
      · have := dcd_len s n (at_ + (nx s at_).2.1) (acc ++ [(nx s at_).1])
        simp at this ⊢
        omega
      · simp; omega
theorem dec_len (s : ByteArray) : (dec s).1.length ≤ s.size := by
  have := dcd_len s s.size 0 []
  unfold dec
  simp at this
  omega

theorem dcd_ok (s : ByteArray) : ∀ (n : Nat) (at_ : Int) (acc : List Int), (dcd s n at_ acc).2.2 = 0 → (dcd s n at_ acc).2.1 = 0
  | 0, _, _, _ => rfl
  | n + 1, at_, acc, h => by
    unfold dcd at h ⊢
    split
    · rfl
    · rename_i c; rw [if_neg c] at h
      split
      · rename_i c2; rw [if_pos c2] at h; exact dcd_ok s n _ _ h
      · rename_i c2; rw [if_neg c2] at h; exact absurd h c2
theorem dec_ok (s : ByteArray) (h : (dec s).2.2 = 0) : (dec s).2.1 = 0 := dcd_ok s _ _ _ h

set_option maxHeartbeats 600000 in
theorem utf_Valid_any {E : Nat → Addr} (s : ByteArray) (w : World) (hl : s.size ≤ 1000000) (hs : Sents E w) (b : Bool) (hb : b = decide ((dec s).2.2 = 0)) :
    Calls Tryd.prog 26 #[.string s] w fun e w' => e = .returned (.bool b) ∧ Below w.heap.size w w' := by
  have hal : Below w.heap.size w (w.alloc (.cells #[.pointer none] 69)) := (Below.refl _ _).alloc (Nat.le_refl _) _
  obtain ⟨l, at_, n, HD⟩ : ∃ l at_ n, Hid (dec s = (l, at_, n)) := ⟨_, _, _, rfl⟩
  rw [HD.out] at hb
  by_cases hn : n = 0
  · have HN := Lib.hid hn
    have HBB : Hid (b = true) := by rw [hb]; show _ = _; simp [hn]
    obtain rfl := HBB.out
    have hat : at_ = 0 := by
      have := dec_ok s (by rw [HD.out]; exact hn)
      rw [HD.out] at this
      exact this
    clear hb hn
    go_enter Tryd.func26, Tryd.ntmps26
    go_wp2_with fail
    refine (utf_Decode_ok s l _ hl (hs.below hal) (by rw [HD.out, HN.out, hat])).mono ?_
    rintro e w1 ⟨A, c, rfl, hc, hC, hb1⟩
    go_wp2_with (go_at_call 45; refine (as_nil _ _).mono ?_; rintro e w2 ⟨rfl, rfl⟩)
    go_ret
    exact ⟨rfl, below_step hal hb1⟩
  · have HBB : Hid (b = false) := by rw [hb]; show _ = _; simp [hn]
    obtain rfl := HBB.out
    have HN := Lib.hid hn
    clear hb hn
    go_enter Tryd.func26, Tryd.ntmps26
    go_wp2_with fail
    refine (utf_Decode_bad s l at_ n _ hl (hs.below hal) HD.out HN.out).mono ?_
    rintro e w1 ⟨A, c, p, rfl, hc, hC, hE, hb1⟩
    have hB1 := Lib.hid (below_step hal hb1)
    have t0 : w1.cell? ⟨w.heap.size, 0, none⟩ = some (.pointer none) := cell_below hb1 (by simp)
    have f0 : w1.frozen? ⟨w.heap.size, 0, none⟩ = false := (hb1.frozen (p := ⟨w.heap.size, 0, none⟩) (by simp)).trans (by simp)
    have HA := Lib.hid (as_hit p ⟨w.heap.size, 0, none⟩ _ w1 (hs.below hB1.out) t0 f0)
    clear hb1 t0 f0 hC hc
    go_wp2_with fail
    refine HA.out.mono ?_
    rintro e w2 ⟨rfl, w3, hb3, rfl⟩
    go_wp2
    go_ret
    exact ⟨rfl, (below_step hB1.out hb3).setCell (Nat.le_refl _) _⟩

set_option maxHeartbeats 1000000 in
theorem utfDecodes_walk {E : Nat → Addr} (s : ByteArray) (w : World) (hs : Sents E w) :
    Calls Tryd.prog 5 #[.string s] w fun e w' => e = .returned (.bool true) ∧ Below w.heap.size w w' := by
  by_cases hbig : 60 < s.size
  · go_enter Tryd.func5, Tryd.ntmps5
    go_wp2_with fail
    refine (awake01 _ hs).mono ?_
    rintro e w1 ⟨rfl, hb⟩
    go_wp2_with fail
    go_ret
    exact ⟨rfl, hb⟩
  · have hl := dec_len s
    obtain ⟨l, at_, n, HD⟩ : ∃ l at_ n, Hid (dec s = (l, at_, n)) := ⟨_, _, _, rfl⟩
    rw [HD.out] at hl
    have hll : l.length ≤ 60 := by simp only at hl; omega
    have HR := Lib.hid (ref_decode s (by omega))
    rw [HD.out] at HR
    have HS := Lib.hid (same_f l (by omega))
    have hv : ∀ w, Sents E w → Calls Tryd.prog 26 #[.string s] w fun e w' => e = .returned (.bool (decide (n = 0))) ∧ Below w.heap.size w w' := fun w h => utf_Valid_any s w (by omega) h _ (by rw [HD.out])
    have HV := Lib.hid hv
    obtain ⟨b, HBB⟩ : ∃ b, Hid (decide (n = 0) = b) := ⟨_, rfl⟩
    have hnb : (n == 0) = b := by rw [← HBB.out]; rfl
    rw [HBB.out] at HV
    clear hv hl
    go_enter Tryd.func5, Tryd.ntmps5
    go_wp2_with fail
    refine (awake01 _ hs).mono ?_
    rintro e w1 ⟨rfl, hb⟩
    go_wp2_with fail
    refine (utf_Decode_any s _ (by omega) (hs.below hb)).mono ?_
    rintro e w2 ⟨lv, ev, rfl, hR, hE, hb2⟩
    rw [HD.out] at hR hE
    obtain ⟨A, c, rfl, hc, hC⟩ := Kd.R_reads hR
    have hB2 := Lib.hid (below_step hb hb2)
    have hE2 := Lib.hid hE
    have hC2 := Lib.hid hC
    have hc2 := Lib.hid hc
    clear hb hb2 hR hE hC hc
    go_wp2_with fail
    refine (eponymref01_Decode.calls _ s l at_ n _ HR.out).mono ?_
    rintro e w3 ⟨lw, rfl, hR3, hb3⟩
    obtain ⟨A3, c3, rfl, hc3, hC3⟩ := Kd.R_reads hR3
    have hB3 := Lib.hid (below_step hB2.out hb3)
    have hE3 := Lib.hid (hE2.out.below hb3)
    have hC4 := Lib.hid (Kd.C_below hC2.out hb3)
    have hC5 := Lib.hid hC3
    have hc5 := Lib.hid hc3
    clear hb3 hR3 hC3 hc3 hB2 hE2 hC2
    go_wp2_with fail
    refine (is_any _ at_ n _ (hs.below hB3.out) hE3.out).mono ?_
    rintro e w4 ⟨rfl, hb4⟩
    have hB4 := Lib.hid (below_step hB3.out hb4)
    have hC6 := Lib.hid (Kd.C_below hC4.out hb4)
    have hC7 := Lib.hid (Kd.C_below hC5.out hb4)
    clear hb4 hB3 hE3 hC4 hC5
    go_wp2_with fail
    refine (eponymlaw01_Same.calls _ A c l A3 c3 l true _ hC6.out hc2.out hC7.out hc5.out HS.out).mono ?_
    rintro e w5 ⟨rfl, hdr⟩
    have hB5 := Lib.hid (below_step hB4.out hdr.below)
    clear hdr hB4 hC6 hC7
    go_wp2_with fail
    refine (HV.out _ (hs.below hB5.out)).mono ?_
    rintro e w6 ⟨rfl, hb6⟩
    go_wp2
    go_ret
    exact ⟨rfl, below_step hB5.out hb6⟩
end Go.Proofs.YtfcfehiijainpaaDoor
