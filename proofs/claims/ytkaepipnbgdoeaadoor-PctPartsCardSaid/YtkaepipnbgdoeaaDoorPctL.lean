/- The statements PctSplits and PctTexts: their walks. -/
import Derived.Test.YtkaepipnbgdoeaaDoorPctRR
set_option linter.unusedVariables false
set_option linter.unusedSimpArgs false
namespace Go.Proofs.YtkaepipnbgdoeaaDoor
open Go.RowKit Go.Proofs.YtkaepipnbgdoeaaDoorW.PrintWords Go.Proofs.YtkaepipnbgdoeaaDoorW.PrintMore PAll

set_option maxHeartbeats 1000000 in
theorem pctSplits_walk {E : Nat → Addr} (s : ByteArray) (c : Int) (w : World) (hs : Sents E w) (h0 : 0 ≤ c) (h1 : c ≤ 255) :
    Calls Tryd.prog 3 #[.string s, .int .u8 c] w fun e w' => e = .returned (.bool true) ∧ Below w.heap.size w w' := by
  by_cases hbig : 60 < s.size
  · go_enter Tryd.func3, Tryd.ntmps3
    go_wp2_with fail
    refine (awake02 _ hs).mono ?_
    rintro e w1 ⟨rfl, hb⟩
    go_wp2_with fail
    go_ret
    exact ⟨rfl, hb⟩
  · have hl := spl_len s c
    obtain ⟨l, at_, n, HD⟩ : ∃ l at_ n, Hid (spl s c = (l, at_, n)) := ⟨_, _, _, rfl⟩
    rw [HD.out] at hl
    have hll : l.length ≤ 61 := by simp only at hl; omega
    have HR := Lib.hid (ref_split s (by omega) c h0 h1)
    rw [HD.out] at HR
    have HS := Lib.hid (sameT_f l (by omega))
    clear hl
    go_enter Tryd.func3, Tryd.ntmps3
    go_wp2_with fail
    refine (awake02 _ hs).mono ?_
    rintro e w1 ⟨rfl, hb⟩
    go_wp2_with fail
    refine (pct_Split_any s c _ (by omega) h0 h1 (hs.below hb)).mono ?_
    rintro e w2 ⟨lv, ev, rfl, hR, hE, hb2⟩
    rw [HD.out] at hR hE
    obtain ⟨A, k, rfl, hc, hC⟩ := Kd.R_reads hR
    have hB2 := Lib.hid (below_step hb hb2)
    have hE2 := Lib.hid hE
    have hC2 := Lib.hid hC
    have hc2 := Lib.hid hc
    clear hb hb2 hR hE hC hc
    go_wp2_with fail
    refine (eponymref02_Split.calls _ s c l at_ n _ HR.out).mono ?_
    rintro e w3 ⟨lw, rfl, hR3, hb3⟩
    obtain ⟨A3, c3, rfl, hc3, hC3⟩ := Kd.R_reads hR3
    have hB3 := Lib.hid (below_step hB2.out hb3)
    have hE3 := Lib.hid (hE2.out.below hb3)
    have hC4 := Lib.hid (Kd.C_below hC2.out hb3)
    have hC5 := Lib.hid hC3
    have hc5 := Lib.hid hc3
    clear hb3 hR3 hC3 hc3 hB2 hE2 hC2
    go_wp2_with fail
    refine (is_any _ at_ n _ (hs.below hB3.out) hE3.out).mono ?_
    rintro e w4 ⟨rfl, hb4⟩
    have hB4 := Lib.hid (below_step hB3.out hb4)
    have hC6 := Lib.hid (Kd.C_below hC4.out hb4)
    have hC7 := Lib.hid (Kd.C_below hC5.out hb4)
    clear hb4 hB3 hE3 hC4 hC5
    go_wp2_with fail
    refine (eponymlaw02_SameTexts.calls _ A k l A3 c3 l true _ hC6.out hc2.out hC7.out hc5.out HS.out).mono ?_
    rintro e w5 ⟨rfl, hdr⟩
    have hB5 := Lib.hid (below_step hB4.out hdr.below)
    clear hdr hB4 hC6 hC7
    go_wp2
    go_ret
    exact ⟨rfl, hB5.out⟩

theorem dcd_len' (s : ByteArray) : ∀ (n : Nat) (at_ : Int) (acc : List Int), ((dcd s n at_ acc).1.length : Int) ≤ acc.length + n
  | 0, _, acc => by simp [dcd]
  | n + 1, at_, acc => by
    unfold dcd
    split
    · simp; omega
    · split
      · have := dcd_len' s n (at_ + (nx s at_).2.1) (acc ++ [(nx s at_).1])
        simp at this ⊢
        omega
      · simp; omega
theorem tx_len (s : ByteArray) : (tx s).1.length ≤ s.size := by
  unfold tx
  obtain ⟨_, hbl⟩ := ue_len s
  split
  · split
    · have := dcd_len' (strOfNums (ue s).1) (strOfNums (ue s).1).size 0 []
      rw [strOfNums_size] at this
      unfold dec
      rw [strOfNums_size]
      simp at this
      omega
    · simp
  · simp

set_option maxHeartbeats 1000000 in
theorem pctTexts_walk {E : Nat → Addr} (s : ByteArray) (w : World) (hs : Sents E w) :
    Calls Tryd.prog 9 #[.string s] w fun e w' => e = .returned (.bool true) ∧ Below w.heap.size w w' := by
  by_cases hbig : 60 < s.size
  · go_enter Tryd.func9, Tryd.ntmps9
    go_wp2_with fail
    refine (awake02 _ hs).mono ?_
    rintro e w1 ⟨rfl, hb⟩
    go_wp2_with fail
    go_ret
    exact ⟨rfl, hb⟩
  · have hl := tx_len s
    obtain ⟨l, at_, n, HD⟩ : ∃ l at_ n, Hid (tx s = (l, at_, n)) := ⟨_, _, _, rfl⟩
    rw [HD.out] at hl
    have hll : l.length ≤ 60 := by simp only at hl; omega
    have HR := Lib.hid (ref_text s (by omega))
    rw [HD.out] at HR
    have HS := Lib.hid (same_f l (by omega))
    clear hl
    go_enter Tryd.func9, Tryd.ntmps9
    go_wp2_with fail
    refine (awake02 _ hs).mono ?_
    rintro e w1 ⟨rfl, hb⟩
    go_wp2_with fail
    refine (pct_Text_any s _ (by omega) (hs.below hb)).mono ?_
    rintro e w2 ⟨A, k, ev, rfl, hc, hC, hE, hb2⟩
    rw [HD.out] at hc hC hE ⊢
    have hB2 := Lib.hid (below_step hb hb2)
    have hE2 := Lib.hid hE
    have hC2 := Lib.hid hC
    have hc2 := Lib.hid hc
    clear hb hb2 hE hC hc
    go_wp2_with fail
    refine (eponymref02_Text.calls _ s l at_ n _ HR.out).mono ?_
    rintro e w3 ⟨lw, rfl, hR3, hb3⟩
    obtain ⟨A3, c3, rfl, hc3, hC3⟩ := Kd.R_reads hR3
    have hB3 := Lib.hid (below_step hB2.out hb3)
    have hE3 := Lib.hid (hE2.out.below hb3)
    have hC4 := Lib.hid (Kd.C_below hC2.out hb3)
    have hC5 := Lib.hid hC3
    have hc5 := Lib.hid hc3
    clear hb3 hR3 hC3 hc3 hB2 hE2 hC2
    go_wp2_with fail
    refine (is_any _ at_ n _ (hs.below hB3.out) hE3.out).mono ?_
    rintro e w4 ⟨rfl, hb4⟩
    have hB4 := Lib.hid (below_step hB3.out hb4)
    have hC6 := Lib.hid (Kd.C_below hC4.out hb4)
    have hC7 := Lib.hid (Kd.C_below hC5.out hb4)
    clear hb4 hB3 hE3 hC4 hC5
    go_wp2_with fail
    refine (eponymlaw01_Same.calls _ A k l A3 c3 l true _ hC6.out hc2.out hC7.out hc5.out HS.out).mono ?_
    rintro e w5 ⟨rfl, hdr⟩
    have hB5 := Lib.hid (below_step hB4.out hdr.below)
    clear hdr hB4 hC6 hC7
    go_wp2
    go_ret
    exact ⟨rfl, hB5.out⟩
end Go.Proofs.YtkaepipnbgdoeaaDoor
