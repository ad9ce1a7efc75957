/- The statement UtfEncodes' walk. -/
import Derived.Test.YtkaepipnbgdoeaaDoorUtfX
import Derived.Test.YtkaepipnbgdoeaaDoorPAllx
import Derived.Deep.RegionWith
import Derived.Deep.QuietTactic
import Derived.BigQuiet
set_option linter.unusedVariables false
set_option linter.unusedSimpArgs false
namespace Go.Proofs.YtkaepipnbgdoeaaDoor
open Go.RowKit Go.Proofs.YtkaepipnbgdoeaaDoorW.PrintWords Go.Proofs.YtkaepipnbgdoeaaDoorW.PrintMore PAll

set_option maxHeartbeats 400000 in
theorem ref_Right_any (r : Int) (w : World) :
    Calls Tryd.prog 26 #[.int .i32 r] w fun e w' => e = .returned (.bool (utfRight r)) ∧ w' = w := by
  go_enter Tryd.func26, Tryd.ntmps26
  go_wp2
  all_goals
    go_ret
    exact ⟨ret_bool (by rw [Bool.eq_iff_iff]; simp [utfRight] <;> omega), rfl⟩

theorem ref_Form_any (r : Int) (w : World) (h0 : 0 ≤ r) (h1 : r ≤ 1114111) :
    Calls Tryd.prog 28 #[.int .i32 r] w fun e w' => e = .returned (.string (strOfNums (formL r))) ∧ Below w.heap.size w w' :=
  eponymref01_Form.calls r _ w (form_f r h0 h1)

theorem encode_l (l : List Int) (hl : l.length ≤ 100000) (hr : ∀ x ∈ l, utfRight x = true) : ∀ (n i k : Nat), i ≤ l.length → l.length ≤ i + n →
    eponymref01_Encode.l0 (k + n + 1) l (strOfNums (encL (l.take i))) i = some (strOfNums (encL l)) := by
  intro n
  induction n with
  | zero =>
    intro i k h1 h2
    obtain rfl : i = l.length := by omega
    rw [eponymref01_Encode.l0, if_neg (by omega), List.take_length]
  | succ n ih =>
    intro i k h1 h2
    rw [show k + (n + 1) + 1 = (k + n + 1) + 1 by omega, eponymref01_Encode.l0]
    by_cases h : i < l.length
    · have hx := hr _ (List.getElem_mem h)
      have e : rd l (i : Int) = l[i] := by simp [rd, List.getD, List.getElem?_eq_getElem h]
      rw [utfRight_iff] at hx
      have hlen := encL_len (l.take i)
      have hlen2 := formL_len l[i]
      simp only [List.length_take] at hlen
      rw [if_pos (by omega), if_pos (by omega), e, form_f _ hx.1 hx.2.1]
      simp only [Option.bind_some]
      rw [if_pos (by rw [strOfNums_size, strOfNums_size]; omega), w64 (by omega) (by omega), nums_append']
      have := ih (i + 1) k (by omega) (by omega)
      rw [encL_take l i h, show l.getD i 0 = l[i] by simp [List.getD, List.getElem?_eq_getElem h]] at this
      rw [show ((i : Int) + 1) = ((i + 1 : Nat) : Int) by omega]
      exact this
    · obtain rfl : i = l.length := by omega
      rw [if_neg (by omega), List.take_length]
theorem ref_encode (l : List Int) (hl : l.length ≤ 100000) (hr : ∀ x ∈ l, utfRight x = true) : eponymref01_Encode.f (l.length + 1) l = some (strOfNums (encL l)) := by
  have := encode_l l hl hr l.length 0 0 (by omega) (by omega)
  rw [show 0 + l.length + 1 = l.length + 1 by omega] at this
  exact this
theorem width_len (r : Int) (h : utfRight r = true) : utfWidth r = ((formL r).length : Int) := by
  have h' := h
  rw [utfRight_iff] at h'
  unfold utfWidth formL
  rw [if_neg (by simp [h])]
  (repeat' split) <;> first | rfl | omega

set_option maxHeartbeats 1000000 in
set_option maxRecDepth 100000 in
theorem utfEncodes_walk {E : Nat → Addr} (A : Option Addr) (c : Nat) (l : List Int) (w : World) (hs : Sents E w) (hC : (Kd.int .i32).C w A l.length l) (hc : l.length ≤ c) :
    Calls Tryd.prog 6 #[.slice A l.length c] w fun e w' => e = .returned (.bool true) ∧ Below w.heap.size w w' := by
  have HC := Lib.hid hC
  have Hc := Lib.hid hc
  have hlm : l.length ≤ 9223372036854775807 := hC.2.1
  clear hC hc
  by_cases hbig : 30 < l.length
  · go_enter Tryd.func6, Tryd.ntmps6
    go_wp2_with fail
    refine (awake01 _ hs).mono ?_
    rintro e w1 ⟨rfl, hb⟩
    go_wp2_with fail
    go_ret
    exact ⟨rfl, hb⟩
  · obtain ⟨n, hn⟩ := encAt_exists l
    have HN := Lib.hid hn
    clear hn
    by_cases hlt : n < l.length
    · have HL := Lib.hid hlt
      clear hlt
      go_enter Tryd.func6, Tryd.ntmps6
      go_wp2_with fail
      refine (awake01 _ hs).mono ?_
      rintro e w1 ⟨rfl, hb⟩
      have hB := Lib.hid hb
      clear hb
      go_wp2_with fail
      refine (utf_Encode_bad A c l n _ (by omega) (hs.below hB.out) (Kd.C_below HC.out hB.out) HN.out HL.out).mono ?_
      rintro e w2 ⟨p, rfl, hE, hb2⟩
      have hB2 := Lib.hid (below_step hB.out hb2)
      clear hb2 hB
      go_wp2_with fail
      go_loopg [5] l.length (fun k v5 w' => ∃ i : Nat, v5 = .int .i64 i ∧ Hid (i ≤ n ∧ l.length ≤ i + k) ∧ Hid (Below w2.heap.size w2 w'))
      case atStart => exact ⟨0, rfl, ⟨Nat.zero_le _, by omega⟩, Below.refl _ _⟩
      case round =>
        obtain ⟨i, rfl, HI, HW⟩ := hrel
        have hlt : i < l.length := Nat.lt_of_le_of_lt HI.out.1 HL.out
        cases gk with
        | zero => have := HI.out.2; omega
        | succ k1 =>
          obtain ⟨ad, rfl, hcell⟩ := C_int_get (Kd.C_below HC.out (below_step hB2.out HW.out)) i hlt
          by_cases hin : i < n
          · have hr := HN.out.good i hin
            obtain ⟨r, HRR⟩ : ∃ r, Hid (l.getD i 0 = r) := ⟨_, rfl⟩
            rw [HRR.out] at hcell hr
            have h' := hr
            rw [utfRight_iff] at h'
            have HR := Lib.hid hr
            have hcn : ∀ m, (wr.drewN m).cell? (ad.add i) = some (.int .i32 r) := fun m => hcell
            clear hr
            go_wp2_with fail
            go_quiet ((first | (go_at_call 25; exact Calls.quiet_of_same (utf_Right_any _ _)) | (go_at_call 26; exact Calls.quiet_of_same (ref_Right_any _ _))))
            go_wp2_with (go_at_call 26; refine (ref_Right_any _ _).mono ?_; rintro e w' ⟨rfl, rfl⟩; rw [HR.out])
            have hwl : (utfWidth r != ((strOfNums (formL r)).size : Int)) = false := by rw [bne_eq_false_iff_eq, strOfNums_size]; exact width_len r HR.out
            have hr0 : 0 ≤ r := h'.1
            have hr1 : r ≤ 1114111 := h'.2.1
            clear h'
            have HI2 : Hid (i + 1 ≤ n ∧ l.length ≤ i + 1 + k1) := ⟨hin, by have := HI.out.2; omega⟩
            go_region_with (first | (go_at_call 27; refine (utf_Width_any _ _).mono ?_; rintro e w' ⟨rfl, rfl⟩) | (go_at_call 28; refine (ref_Form_any r _ hr0 hr1).mono ?_; rintro e w6 ⟨rfl, hb6⟩; have h6 : w6.cell? (ad.add i) = some (.int .i32 r) := cell_below hb6 hcell; have HB6 := Lib.hid hb6; clear hb6))
            all_goals
              go_wp2_with fail
              go_roundg k1
              case measure => omega
              case rel => exact ⟨i + 1, by go_num, HI2, below_step (PrintB HW.out _) HB6.out⟩
          · obtain rfl : i = n := Nat.le_antisymm HI.out.1 (Nat.le_of_not_lt hin)
            have hr := HN.out.bad hlt
            obtain ⟨r, HRR⟩ : ∃ r, Hid (l.getD i 0 = r) := ⟨_, rfl⟩
            rw [HRR.out] at hcell hr
            have HR := Lib.hid hr
            have hw0 : utfWidth r = 0 := by unfold utfWidth; rw [if_pos hr]
            have HW0 := Lib.hid hw0
            have hcn : ∀ m, (wr.drewN m).cell? (ad.add i) = some (.int .i32 r) := fun m => hcell
            clear hr hw0 hin
            go_wp2_with fail
            go_quiet ((first | (go_at_call 25; exact Calls.quiet_of_same (utf_Right_any _ _)) | (go_at_call 26; exact Calls.quiet_of_same (ref_Right_any _ _))))
            go_wp2_with (first | (go_at_call 26; refine (ref_Right_any _ _).mono ?_; rintro e w' ⟨rfl, rfl⟩; rw [HR.out]) | (go_at_call 27; refine (utf_Width_any _ _).mono ?_; rintro e w' ⟨rfl, rfl⟩; rw [HW0.out]))
            refine (is_any _ i 4 _ (hs.below (below_step hB2.out (PrintB HW.out _))) (hE.out.below (PrintB HW.out _))).mono ?_
            rintro e w5 ⟨rfl, hb5⟩
            go_wp2
            go_ret
            exact ⟨rfl, below_step (below_step hB2.out (PrintB HW.out _)) hb5⟩
    · obtain rfl : n = l.length := Nat.le_antisymm HN.out.le (Nat.le_of_not_lt hlt)
      have HA := Lib.hid (encAt_all HN.out)
      have HE := Lib.hid (ref_encode l (by omega) HA.out)
      clear hlt
      go_enter Tryd.func6, Tryd.ntmps6
      go_wp2_with fail
      refine (awake01 _ hs).mono ?_
      rintro e w1 ⟨rfl, hb⟩
      have hB := Lib.hid hb
      clear hb
      go_wp2_with fail
      refine (utf_Encode_ok A c l _ (by omega) (hs.below hB.out) (Kd.C_below HC.out hB.out) HA.out).mono ?_
      rintro e w2 ⟨rfl, hb2⟩
      have hB2 := Lib.hid (below_step hB.out hb2)
      clear hb2 hB
      go_wp2_with fail
      go_loopg [5] l.length (fun k v5 w' => ∃ i : Nat, v5 = .int .i64 i ∧ Hid (i ≤ l.length ∧ l.length ≤ i + k) ∧ Hid (Below w2.heap.size w2 w'))
      case atStart => exact ⟨0, rfl, ⟨Nat.zero_le _, by omega⟩, Below.refl _ _⟩
      case round =>
        obtain ⟨i, rfl, HI, HW⟩ := hrel
        by_cases hin : i < l.length
        · cases gk with
          | zero => have := HI.out.2; omega
          | succ k1 =>
            obtain ⟨ad, rfl, hcell⟩ := C_int_get (Kd.C_below HC.out (below_step hB2.out HW.out)) i hin
            have hr := HN.out.good i hin
            obtain ⟨r, HRR⟩ : ∃ r, Hid (l.getD i 0 = r) := ⟨_, rfl⟩
            rw [HRR.out] at hcell hr
            have h' := hr
            rw [utfRight_iff] at h'
            have HR := Lib.hid hr
            have hcn : ∀ m, (wr.drewN m).cell? (ad.add i) = some (.int .i32 r) := fun m => hcell
            clear hr
            go_wp2_with fail
            go_quiet ((first | (go_at_call 25; exact Calls.quiet_of_same (utf_Right_any _ _)) | (go_at_call 26; exact Calls.quiet_of_same (ref_Right_any _ _))))
            go_wp2_with (go_at_call 26; refine (ref_Right_any _ _).mono ?_; rintro e w' ⟨rfl, rfl⟩; rw [HR.out])
            have hwl : (utfWidth r != ((strOfNums (formL r)).size : Int)) = false := by rw [bne_eq_false_iff_eq, strOfNums_size]; exact width_len r HR.out
            have hr0 : 0 ≤ r := h'.1
            have hr1 : r ≤ 1114111 := h'.2.1
            clear h'
            have HI2 : Hid (i + 1 ≤ l.length ∧ l.length ≤ i + 1 + k1) := ⟨hin, by have := HI.out.2; omega⟩
            go_region_with (first | (go_at_call 27; refine (utf_Width_any _ _).mono ?_; rintro e w' ⟨rfl, rfl⟩) | (go_at_call 28; refine (ref_Form_any r _ hr0 hr1).mono ?_; rintro e w6 ⟨rfl, hb6⟩; have h6 : w6.cell? (ad.add i) = some (.int .i32 r) := cell_below hb6 hcell; have HB6 := Lib.hid hb6; clear hb6))
            all_goals
              go_wp2_with fail
              go_roundg k1
              case measure => omega
              case rel => exact ⟨i + 1, by go_num, HI2, below_step (PrintB HW.out _) HB6.out⟩
        · have hcC := Kd.C_below HC.out (below_step hB2.out HW.out)
          have HCC := Lib.hid hcC
          clear hcC
          go_wp2_with fail
          refine (eponymref01_Encode.calls _ A c l _ _ HCC.out Hc.out HE.out).mono ?_
          rintro e w5 ⟨rfl, hb5⟩
          go_wp2
          go_ret
          exact ⟨rfl, below_step (below_step hB2.out HW.out) hb5⟩
end Go.Proofs.YtkaepipnbgdoeaaDoor
