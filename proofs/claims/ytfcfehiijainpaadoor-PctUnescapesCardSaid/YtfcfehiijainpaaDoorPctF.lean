/- The awake of layer 2's statements; the statement PctUnescapes' walk. -/
import Derived.Test.YtfcfehiijainpaaDoorPctD
import Derived.Test.YtfcfehiijainpaaDoorPctE
import Derived.Test.YtfcfehiijainpaaDoorUtfE
set_option linter.unusedVariables false
set_option linter.unusedSimpArgs false
namespace Go.Proofs.YtfcfehiijainpaaDoor
open Go.RowKit Go.Proofs.YtfcfehiijainpaaDoorW.PrintWords Go.Proofs.YtfcfehiijainpaaDoorW.PrintMore PAll

theorem pct_Unescape_at {E : Nat → Addr} (s : ByteArray) (bs ps : List Int) (at_ n : Int) (w : World) (hl : s.size ≤ 1000000) (hs : Sents E w) (hu : ue s = (bs, ps, at_, n)) :
    Calls Tryd.prog 20 #[.string s] w fun e w' => ∃ v, e = .returned (.tuple #[.string (strOfNums bs), v]) ∧ Hid (ErrV E w' v at_ n) ∧ Below w.heap.size w w' := by
  refine (pct_Unescape_any s w hl hs).mono ?_
  rintro e w' ⟨v, he, hv, hb⟩
  rw [hu] at he hv
  exact ⟨v, he, hv, hb⟩
theorem pct_Places_at {E : Nat → Addr} (s : ByteArray) (bs ps : List Int) (at_ n : Int) (w : World) (hl : s.size ≤ 1000000) (hs : Sents E w) (hu : ue s = (bs, ps, at_, n)) :
    Calls Tryd.prog 22 #[.string s] w fun e w' => ∃ A c, e = .returned (.slice A ps.length c) ∧ Hid ((Kd.int .i64).C w' A ps.length ps) ∧ Below w.heap.size w w' := by
  refine (pct_Places_any s w hl hs).mono ?_
  rintro e w' ⟨v, he, hv, hb⟩
  rw [hu] at hv
  obtain ⟨A, c, rfl, hc, hC⟩ := Kd.R_reads hv
  exact ⟨A, c, he, hC, hb⟩
theorem ref_Unescape_at (s : ByteArray) (bs ps : List Int) (at_ n : Int) (w : World) (hl : s.size ≤ 1000000) (hu : ue s = (bs, ps, at_, n)) :
    Calls Tryd.prog 21 #[.string s] w fun e w' => ∃ A c, e = .returned (.agg #[.string (strOfNums bs), .slice A ps.length c, .int .i64 at_, .int .i64 n]) ∧ Hid ((Kd.int .i64).C w' A ps.length ps) ∧ Below w.heap.size w w' := by
  have h := ref_unescape s hl
  rw [hu] at h
  refine (eponymref02_Unescape.calls _ s _ _ _ _ w h).mono ?_
  rintro e w' ⟨v, he, hv, hb⟩
  obtain ⟨A, c, rfl, hc, hC⟩ := Kd.R_reads hv
  exact ⟨A, c, he, hC, hb⟩

theorem ue_a : ue ⟨#[97, 37, 50, 70, 98]⟩ = ([97, 47, 98], [0, 1, 4], 0, 0) := by decide +kernel
theorem ue_b : ue ⟨#[37, 52]⟩ = ([], [], 0, 2) := by decide +kernel
theorem nums_a : strOfNums [97, 47, 98] = ⟨#[97, 47, 98]⟩ := by rfl

set_option maxHeartbeats 600000 in
theorem awake02 {E : Nat → Addr} (w : World) (hs : Sents E w) :
    Calls Tryd.prog 19 #[] w fun e w' => e = .returned (.bool true) ∧ Below w.heap.size w w' := by
  go_enter Tryd.func19, Tryd.ntmps19
  go_wp2_with fail
  refine (pct_Unescape_at ⟨#[97, 37, 50, 70, 98]⟩ [97, 47, 98] [0, 1, 4] 0 0 _ (by decide) hs ue_a).mono ?_
  rintro e w1 ⟨v, rfl, hE, hb⟩
  obtain rfl : v = .nilIface := by
    rcases hE.out with ⟨_, h⟩ | ⟨h, _⟩
    · exact h
    · omega
  rw [nums_a]
  clear hE
  go_wp2_with fail
  refine (pct_Unescape_at ⟨#[37, 52]⟩ [] [] 0 2 _ (by decide) (hs.below hb) ue_b).mono ?_
  rintro e w2 ⟨v, rfl, hE, hb2⟩
  have hB := Lib.hid (below_step hb hb2)
  clear hb hb2
  go_wp2_with fail
  refine (is_any _ 0 2 _ (hs.below hB.out) hE.out).mono ?_
  rintro e w3 ⟨rfl, hb3⟩
  go_wp2
  go_ret
  exact ⟨rfl, below_step hB.out hb3⟩

set_option maxHeartbeats 1000000 in
set_option maxRecDepth 100000 in
theorem pctUnescapes_walk {E : Nat → Addr} (s : ByteArray) (w : World) (hs : Sents E w) :
    Calls Tryd.prog 4 #[.string s] w fun e w' => e = .returned (.bool true) ∧ Below w.heap.size w w' := by
  by_cases hbig : 60 < s.size
  · go_enter Tryd.func4, Tryd.ntmps4
    go_wp2_with fail
    refine (awake02 _ hs).mono ?_
    rintro e w1 ⟨rfl, hb⟩
    go_wp2_with fail
    go_ret
    exact ⟨rfl, hb⟩
  · obtain ⟨bs, ps, at_, n, HU⟩ : ∃ bs ps at_ n, Hid (ue s = (bs, ps, at_, n)) := ⟨_, _, _, _, rfl⟩
    go_enter Tryd.func4, Tryd.ntmps4
    go_wp2_with fail
    refine (awake02 _ hs).mono ?_
    rintro e w1 ⟨rfl, hb⟩
    go_wp2_with fail
    refine (pct_Unescape_at s bs ps at_ n _ (by omega) (hs.below hb) HU.out).mono ?_
    rintro e w2 ⟨v, rfl, hE, hb2⟩
    have hB2 := Lib.hid (below_step hb hb2)
    clear hb hb2
    go_wp2_with fail
    refine (ref_Unescape_at s bs ps at_ n _ (by omega) HU.out).mono ?_
    rintro e w3 ⟨A, c, rfl, hC, hb3⟩
    have hB3 := Lib.hid (below_step hB2.out hb3)
    have hE3 := Lib.hid (hE.out.below hb3)
    clear hb3 hE hB2
    go_wp2_with fail
    have hal : Below w3.heap.size w3 (w3.alloc (.cells #[.string (strOfNums bs), .slice A ps.length c, .int .i64 at_, .int .i64 n] 35)) := (Below.refl _ _).alloc (Nat.le_refl _) _
    refine (pct_Places_at s bs ps at_ n _ (by omega) (hs.below (below_step hB3.out hal)) HU.out).mono ?_
    rintro e w4 ⟨A4, c4, rfl, hC4, hb4⟩
    have hB4 := Lib.hid (below_step (below_step hB3.out hal) hb4)
    have hE4 := Lib.hid (hE3.out.below (below_step hal hb4))
    have hC5 := Lib.hid (Kd.C_below hC.out (below_step hal hb4))
    have k0 : w4.cell? ⟨w3.heap.size, 0, none⟩ = some (.string (strOfNums bs)) := cell_below hb4 (by simp)
    have k1 : w4.cell? ⟨w3.heap.size, 1, none⟩ = some (.slice A ps.length c) := cell_below hb4 (by simp)
    have k2 : w4.cell? ⟨w3.heap.size, 2, none⟩ = some (.int .i64 at_) := cell_below hb4 (by simp)
    have k3 : w4.cell? ⟨w3.heap.size, 3, none⟩ = some (.int .i64 n) := cell_below hb4 (by simp)
    clear hal hb4 hE3 hB3 hC
    go_wp2_with fail
    refine (is_any _ at_ n _ (hs.below hB4.out) hE4.out).mono ?_
    rintro e w5 ⟨rfl, hb5⟩
    have hB5 := Lib.hid (below_step hB4.out hb5)
    have hC6 := Lib.hid (Kd.C_below hC5.out hb5)
    have hC7 := Lib.hid (Kd.C_below hC4.out hb5)
    have j1 : w5.cell? ⟨w3.heap.size, 1, none⟩ = some (.slice A ps.length c) := cell_below hb5 k1
    clear hb5 k0 k1 k2 k3 hE4 hB4 hC5 hC4
    go_wp2_with fail
    have hlen : ps.length ≤ 9223372036854775807 := hC7.out.2.1
    go_loopg [7] ps.length (fun k v7 w' => ∃ i : Nat, i ≤ ps.length ∧ v7 = .int .i64 i ∧ Hid (ps.length ≤ i + k) ∧ ∃ m, w' = w5.drewN m)
    case atStart => exact ⟨0, Nat.zero_le _, rfl, by show ps.length ≤ 0 + ps.length; omega, 0, rfl⟩
    case round =>
      obtain ⟨i, hi, rfl, HK, m, rfl⟩ := hrel
      by_cases hlt : i < ps.length
      · cases gk with
        | zero => have := HK.out; omega
        | succ k1 =>
          obtain ⟨ad, rfl, h1⟩ := C_int_get hC6.out i hlt
          obtain ⟨ad4, rfl, h4⟩ := C_int_get hC7.out i hlt
          have HK1 : Hid (ps.length ≤ i + 1 + k1) := by have := HK.out; show _ ≤ _; omega
          clear HK
          go_wp2_with fail
          go_quiet (fail)
          go_wp2_with fail
          go_roundg k1
          case measure => omega
          case rel => exact ⟨i + 1, by omega, by go_num, HK1, _, rfl⟩
      · go_wp2
        go_ret
        exact ⟨rfl, below_step hB5.out (PrintB (Below.refl _ _) _)⟩
end Go.Proofs.YtfcfehiijainpaaDoor
