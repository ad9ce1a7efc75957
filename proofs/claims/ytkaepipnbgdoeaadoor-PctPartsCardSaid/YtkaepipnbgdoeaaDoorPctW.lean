/- The statements PctEscapes and PctBack: their walks. -/
import Derived.Test.YtkaepipnbgdoeaaDoorPctL
set_option linter.unusedVariables false
set_option linter.unusedSimpArgs false
namespace Go.Proofs.YtkaepipnbgdoeaaDoor
open Go.RowKit Go.Proofs.YtkaepipnbgdoeaaDoorW.PrintWords Go.Proofs.YtkaepipnbgdoeaaDoorW.PrintMore PAll

theorem uesc_range (s : ByteArray) : ∀ (k : Nat) (at_ : Int) (bs ps : List Int), (∀ x ∈ bs, 0 ≤ x ∧ x ≤ 255) → ∀ x ∈ (uesc s k at_ bs ps).1, 0 ≤ x ∧ x ≤ 255
  | 0, _, _, _, h => h
  | k + 1, at_, bs, ps, h => by
    have n0 := PlainAid.bt_nonneg s at_.toNat
    have l0 := PlainAid.bt_le s at_.toNat
    have d1 := hexd_le (PlainAid.bt s (at_ + 1).toNat)
    have d2 := hexd_le (PlainAid.bt s (at_ + 2).toNat)
    unfold uesc
    split
    · exact h
    · split
      · apply uesc_range s k
        intro x hx
        rcases List.mem_append.1 hx with hx | hx
        · exact h x hx
        · rw [List.mem_singleton.1 hx]; omega
      · split
        · simp
        · split
          · simp
          · apply uesc_range s k
            intro x hx
            rcases List.mem_append.1 hx with hx | hx
            · exact h x hx
            · rw [List.mem_singleton.1 hx]; omega
theorem ue_range (s : ByteArray) : ∀ x ∈ (ue s).1, 0 ≤ x ∧ x ≤ 255 := uesc_range s _ _ _ _ (by simp)

theorem ref_Escape_at (s keep : ByteArray) (w : World) (hs : s.size ≤ 100000) (hk : keep.size ≤ 100000) (l : List Int) (hl : ints s = l) :
    Calls Tryd.prog 17 #[.string s, .string keep] w fun e w' => e = .returned (.string (strOfNums (escL (stay keep) l))) ∧ Below w.heap.size w w' := by
  subst hl
  exact eponymref02_Escape.calls _ s keep _ w (ref_escape s keep hs hk)

set_option maxHeartbeats 1000000 in
theorem pctEscapes_walk {E : Nat → Addr} (s keep : ByteArray) (b : Int) (w : World) (hs : Sents E w) (h0 : 0 ≤ b) (h1 : b ≤ 255) :
    Calls Tryd.prog 4 #[.string s, .string keep, .int .u8 b] w fun e w' => e = .returned (.bool true) ∧ Below w.heap.size w w' := by
  by_cases hbig : 60 < s.size ∨ 20 < keep.size
  · by_cases hb1 : 60 < s.size
    all_goals
      go_enter Tryd.func4, Tryd.ntmps4
      go_wp2_with fail
      refine (awake02 _ hs).mono ?_
      rintro e w1 ⟨rfl, hb⟩
      go_wp2_with fail
      first | (go_ret; exact ⟨rfl, hb⟩) | (exfalso; omega)
  · have hs60 : s.size ≤ 60 := by omega
    have hk20 : keep.size ≤ 20 := by omega
    clear hbig
    obtain ⟨bs, ps, at_, n, HU⟩ : ∃ bs ps at_ n, Hid (ue s = (bs, ps, at_, n)) := ⟨_, _, _, _, rfl⟩
    have hrng := ue_range s
    obtain ⟨_, hbl⟩ := ue_len s
    rw [HU.out] at hrng hbl
    simp only at hrng hbl
    have HI : Hid (ints (strOfNums bs) = bs) := ints_nums bs hrng
    have HRG := Lib.hid hrng
    have hsz : (strOfNums bs).size ≤ 60 := by rw [strOfNums_size]; omega
    clear hrng
    have HP := Lib.hid (plain_f b h0 h1)
    have hE1 : ∀ w, Calls Tryd.prog 18 #[.string s, .string keep] w fun e w' => e = .returned (.string (strOfNums (escL (stay keep) (ints s)))) ∧ Below w.heap.size w w' := fun w => pct_Escape_any s keep w (by omega) (by omega)
    have hE2 : ∀ w, Calls Tryd.prog 17 #[.string s, .string keep] w fun e w' => e = .returned (.string (strOfNums (escL (stay keep) (ints s)))) ∧ Below w.heap.size w w' := fun w => ref_Escape_at s keep w (by omega) (by omega) _ rfl
    have HE1 := Lib.hid hE1
    have HE2 := Lib.hid hE2
    clear hE1 hE2
    obtain ⟨sx, Hsx⟩ : ∃ t, Hid (strOfNums (escL (stay keep) (ints s)) = t) := ⟨_, rfl⟩
    rw [Hsx.out] at HE1 HE2
    by_cases hn : n = 0
    · subst hn
      go_enter Tryd.func4, Tryd.ntmps4
      go_wp2_with fail
      refine (awake02 _ hs).mono ?_
      rintro e w1 ⟨rfl, hb⟩
      go_wp2_with fail
      refine (pct_Canon_ok s keep bs ps at_ _ (by omega) (by omega) (hs.below hb) HU.out HRG.out (by omega)).mono ?_
      rintro e w2 ⟨rfl, hb2⟩
      have hB2 := Lib.hid (below_step hb hb2)
      clear hb hb2
      obtain ⟨tx1, Htx⟩ : ∃ t, Hid (strOfNums (escL (stay keep) bs) = t) := ⟨_, rfl⟩
      rw [Htx.out]
      go_wp2_with fail
      refine (ref_Unescape_at s bs ps at_ 0 _ (by omega) HU.out).mono ?_
      rintro e w3 ⟨A, c, rfl, hC, hb3⟩
      have hB3 := Lib.hid (below_step hB2.out hb3)
      have hal : Below w3.heap.size w3 (w3.alloc (.cells #[.string (strOfNums bs), .slice A ps.length c, .int .i64 at_, .int .i64 0] 37)) := (Below.refl _ _).alloc (Nat.le_refl _) _
      have hB4 := Lib.hid (below_step hB3.out hal)
      clear hb3 hB2 hC
      go_wp2_with fail
      refine (is_any (E := E) .nilIface at_ 0 _ (hs.below hB4.out) (.inl ⟨rfl, rfl⟩)).mono ?_
      rintro e w5 ⟨rfl, hb5⟩
      have k0 : w5.cell? ⟨w3.heap.size, 0, none⟩ = some (.string (strOfNums bs)) := cell_below hb5 (by simp)
      have hB5 := Lib.hid (below_step hB4.out hb5)
      clear hal hb5 hB4 hB3
      go_wp2_with fail
      refine (ref_Escape_at (strOfNums bs) keep _ (by omega) (by omega) bs HI.out).mono ?_
      rintro e w6 ⟨rfl, hb6⟩
      rw [Htx.out]
      have hB6 := Lib.hid (below_step hB5.out hb6)
      clear hb6 hB5 k0
      go_wp2_with fail
      refine (HE1.out _).mono ?_
      rintro e w7 ⟨rfl, hb7⟩
      have hB7 := Lib.hid (below_step hB6.out hb7)
      clear hb7 hB6
      go_wp2_with fail
      refine (HE2.out _).mono ?_
      rintro e w8 ⟨rfl, hb8⟩
      have hB8 := Lib.hid (below_step hB7.out hb8)
      clear hb8 hB7
      go_wp2_with fail
      refine (pct_Plain_any b _ h0 h1).mono ?_
      rintro e w9 ⟨rfl, hb9⟩
      have hB9 := Lib.hid (below_step hB8.out hb9)
      clear hb9 hB8
      go_wp2_with fail
      refine (eponymref02_Plain.calls b _ _ HP.out).mono ?_
      rintro e w10 ⟨rfl, hdr⟩
      have hB10 := Lib.hid (below_step hB9.out hdr.below)
      clear hdr hB9
      go_wp2
      go_ret
      exact ⟨rfl, hB10.out⟩
    · have HN := Lib.hid hn
      have hne : (n == 0) = false := by rw [beq_eq_false_iff_ne]; exact hn
      clear hn
      go_enter Tryd.func4, Tryd.ntmps4
      go_wp2_with fail
      refine (awake02 _ hs).mono ?_
      rintro e w1 ⟨rfl, hb⟩
      go_wp2_with fail
      refine (pct_Canon_bad s keep bs ps at_ n _ (by omega) (hs.below hb) HU.out HN.out).mono ?_
      rintro e w2 ⟨p, rfl, hE, hb2⟩
      have hB2 := Lib.hid (below_step hb hb2)
      clear hb hb2
      go_wp2_with fail
      refine (ref_Unescape_at s bs ps at_ n _ (by omega) HU.out).mono ?_
      rintro e w3 ⟨A, c, rfl, hC, hb3⟩
      have hB3 := Lib.hid (below_step hB2.out hb3)
      have hal : Below w3.heap.size w3 (w3.alloc (.cells #[.string (strOfNums bs), .slice A ps.length c, .int .i64 at_, .int .i64 n] 37)) := (Below.refl _ _).alloc (Nat.le_refl _) _
      have hB4 := Lib.hid (below_step hB3.out hal)
      have hE4 := Lib.hid (hE.out.below (below_step hb3 hal))
      clear hb3 hB2 hC hE hal
      go_wp2_with fail
      refine (is_any _ at_ n _ (hs.below hB4.out) hE4.out).mono ?_
      rintro e w6 ⟨rfl, hb6⟩
      have hB6 := Lib.hid (below_step hB4.out hb6)
      clear hb6 hB4 hE4 hB3
      go_wp2_with fail
      refine (HE1.out _).mono ?_
      rintro e w7 ⟨rfl, hb7⟩
      have hB7 := Lib.hid (below_step hB6.out hb7)
      clear hb7 hB6
      go_wp2_with fail
      refine (HE2.out _).mono ?_
      rintro e w8 ⟨rfl, hb8⟩
      have hB8 := Lib.hid (below_step hB7.out hb8)
      clear hb8 hB7
      go_wp2_with fail
      refine (pct_Plain_any b _ h0 h1).mono ?_
      rintro e w9 ⟨rfl, hb9⟩
      have hB9 := Lib.hid (below_step hB8.out hb9)
      clear hb9 hB8
      go_wp2_with fail
      refine (eponymref02_Plain.calls b _ _ HP.out).mono ?_
      rintro e w10 ⟨rfl, hdr⟩
      have hB10 := Lib.hid (below_step hB9.out hdr.below)
      clear hdr hB9
      go_wp2
      go_ret
      exact ⟨rfl, hB10.out⟩

/-- What was escaped is unescaped as it was. -/
theorem hexd_hexc (n : Int) (h0 : 0 ≤ n) (h1 : n ≤ 15) : hexd (hexc n) = n := by unfold hexd hexc; split <;> (repeat' split) <;> omega
theorem bt_pre (s : ByteArray) (pre l : List Int) (h : ints s = pre ++ l) (i : Nat) : PlainAid.bt s (pre.length + i) = l.getD i 0 := by
  rw [bt_ints, h, List.getD_eq_getElem?_getD, List.getD_eq_getElem?_getD, List.getElem?_append_right (by omega)]
  congr 2; omega
theorem uesc_esc (st : Nat → Bool) (h37 : st 37 = false) (s : ByteArray) : ∀ (l : List Int) (k : Nat) (pre bs ps : List Int), (∀ x ∈ l, 0 ≤ x ∧ x ≤ 255) → ints s = pre ++ escL st l → l.length ≤ k → bs.length = ps.length →
    ∃ qs, uesc s k pre.length bs ps = (bs ++ l, qs, 0, 0) ∧ qs.length = bs.length + l.length
  | [], k, pre, bs, ps, hr, h, hk, hl => by
    have hsz : s.size = pre.length := by rw [← ints_length, h]; simp [escL]
    refine ⟨ps, ?_, by simp [hl]⟩
    cases k with
    | zero => simp [uesc]
    | succ k => unfold uesc; rw [if_pos (by omega)]; simp
  | b :: l, 0, pre, bs, ps, hr, h, hk, hl => by simp at hk
  | b :: l, k + 1, pre, bs, ps, hr, h, hk, hl => by
    have hb := hr b (by simp)
    have he : escL st (b :: l) = esc1 st b ++ escL st l := by simp [escL]
    rw [he] at h
    have hsz : s.size = pre.length + ((esc1 st b).length + (escL st l).length) := by rw [← ints_length, h]; simp
    have b0 := bt_pre s pre _ h 0
    have b1 := bt_pre s pre _ h 1
    have b2 := bt_pre s pre _ h 2
    have ih := fun pre' bs' ps' => uesc_esc st h37 s l k pre' bs' ps' (fun x hx => hr x (by simp [hx]))
    unfold uesc
    by_cases hs : st b.toNat = true
    · have e : esc1 st b = [b] := by unfold esc1; rw [if_pos hs]
      rw [e] at h hsz b0
      simp at b0 hsz
      have hne : b ≠ 37 := by intro e; subst e; simp [h37] at hs
      rw [if_neg (by omega), Int.toNat_natCast, b0, if_pos hne]
      obtain ⟨qs, h1, h2⟩ := ih (pre ++ [b]) (bs ++ [b]) (ps ++ [(pre.length : Int)]) (by rw [h]; simp) (by simp at hk; omega) (by simp [hl])
      refine ⟨qs, ?_, by rw [h2]; simp; omega⟩
      rw [show ((pre.length : Int) + 1) = (((pre ++ [b]).length : Nat) : Int) by simp, h1]
      simp
    · have e : esc1 st b = [37, hexc (b / 16), hexc (b % 16)] := by unfold esc1; rw [if_neg hs]
      rw [e] at h hsz b0 b1 b2
      simp at b0 b1 b2 hsz
      rw [if_neg (by omega), Int.toNat_natCast, b0, if_neg (by simp), if_neg (by omega), show ((pre.length : Int) + 1).toNat = pre.length + 1 by omega, show ((pre.length : Int) + 2).toNat = pre.length + 2 by omega, b1, b2, hexd_hexc _ (by omega) (by omega), hexd_hexc _ (by omega) (by omega), if_neg (by omega)]
      obtain ⟨qs, h1, h2⟩ := ih (pre ++ [37, hexc (b / 16), hexc (b % 16)]) (bs ++ [16 * (b / 16) + b % 16]) (ps ++ [(pre.length : Int)]) (by rw [h]; simp) (by simp at hk; omega) (by simp [hl])
      refine ⟨qs, ?_, by rw [h2]; simp; omega⟩
      rw [show ((pre.length : Int) + 3) = (((pre ++ [37, hexc (b / 16), hexc (b % 16)]).length : Nat) : Int) by simp, h1, show 16 * (b / 16) + b % 16 = b by omega]
      simp
theorem escL_range (st : Nat → Bool) (l : List Int) (hr : ∀ x ∈ l, 0 ≤ x ∧ x ≤ 255) : ∀ x ∈ escL st l, 0 ≤ x ∧ x ≤ 255 := by
  intro x hx
  obtain ⟨y, hy, hx⟩ := List.mem_flatten.1 hx
  obtain ⟨r, h, rfl⟩ := List.mem_map.1 hy
  have h2 := hr r h
  unfold esc1 at hx
  split at hx
  · rw [List.mem_singleton.1 hx]; exact h2
  · have b1 := hexc_range (r / 16) (by omega) (by omega)
    have b2 := hexc_range (r % 16) (by omega) (by omega)
    simp at hx
    rcases hx with rfl | rfl | rfl <;> omega
theorem escL_ge (st : Nat → Bool) : ∀ l : List Int, l.length ≤ (escL st l).length
  | [] => by simp
  | x :: l => by
    have := escL_ge st l
    have h : 1 ≤ (esc1 st x).length := by unfold esc1; split <;> simp
    simp [escL] at *
    omega
theorem ue_esc (st : Nat → Bool) (h37 : st 37 = false) (l : List Int) (hr : ∀ x ∈ l, 0 ≤ x ∧ x ≤ 255) : ∃ qs, ue (strOfNums (escL st l)) = (l, qs, 0, 0) ∧ qs.length = l.length := by
  have hi := ints_nums (escL st l) (escL_range st l hr)
  have := uesc_esc st h37 (strOfNums (escL st l)) l (strOfNums (escL st l)).size [] [] [] hr (by rw [hi]; rfl) (by rw [strOfNums_size]; exact escL_ge st l) rfl
  simpa [ue] using this

set_option maxHeartbeats 1000000 in
theorem pctBack_walk {E : Nat → Addr} (s keep : ByteArray) (w : World) (hs : Sents E w) :
    Calls Tryd.prog 5 #[.string s, .string keep] w fun e w' => e = .returned (.bool true) ∧ Below w.heap.size w w' := by
  by_cases hbig : 60 < s.size ∨ 20 < keep.size
  · by_cases hb1 : 60 < s.size
    all_goals
      go_enter Tryd.func5, Tryd.ntmps5
      go_wp2_with fail
      refine (awake02 _ hs).mono ?_
      rintro e w1 ⟨rfl, hb⟩
      go_wp2_with fail
      first | (go_ret; exact ⟨rfl, hb⟩) | (exfalso; omega)
  · have hs60 : s.size ≤ 60 := by omega
    have hk20 : keep.size ≤ 20 := by omega
    clear hbig
    obtain ⟨qs, hu, hq⟩ := ue_esc (stay keep) (by unfold stay; simp) (ints s) (ints_range s)
    have hsn : strOfNums (ints s) = s := ints_inj (ints_nums _ (ints_range s))
    have hlen := escL_len (stay keep) (ints s)
    rw [ints_length] at hlen hq
    have HSN := Lib.hid hsn
    obtain ⟨t, HT⟩ : ∃ t, Hid (strOfNums (escL (stay keep) (ints s)) = t) := ⟨_, rfl⟩
    have hts : t.size ≤ 180 := by rw [← HT.out, strOfNums_size]; omega
    rw [HT.out] at hu
    have HU := Lib.hid hu
    have HQ := Lib.hid hq
    clear hu hsn hlen hq
    go_enter Tryd.func5, Tryd.ntmps5
    go_wp2_with fail
    refine (awake02 _ hs).mono ?_
    rintro e w1 ⟨rfl, hb⟩
    go_wp2_with fail
    refine (pct_Escape_any s keep _ (by omega) (by omega)).mono ?_
    rintro e w2 ⟨rfl, hb2⟩
    rw [HT.out]
    have hB2 := Lib.hid (below_step hb hb2)
    clear hb hb2
    go_wp2_with fail
    refine (pct_Unescape_at t (ints s) qs 0 0 _ (by omega) (hs.below hB2.out) HU.out).mono ?_
    rintro e w3 ⟨v, rfl, hE, hb3⟩
    obtain rfl : v = .nilIface := by
      rcases hE.out with ⟨_, h⟩ | ⟨h, _⟩
      · exact h
      · omega
    rw [HSN.out]
    have hB3 := Lib.hid (below_step hB2.out hb3)
    clear hb3 hE hB2
    go_wp2_with fail
    refine (pct_Canon_ok t keep (ints s) qs 0 _ (by omega) (by omega) (hs.below hB3.out) HU.out (ints_range s) (by rw [ints_length]; omega)).mono ?_
    rintro e w4 ⟨rfl, hb4⟩
    rw [HT.out]
    have hB4 := Lib.hid (below_step hB3.out hb4)
    clear hb4 hB3
    go_wp2_with fail
    refine (pct_Places_at t (ints s) qs 0 0 _ (by omega) (hs.below hB4.out) HU.out).mono ?_
    rintro e w5 ⟨A, c, rfl, hC, hb5⟩
    have hB5 := Lib.hid (below_step hB4.out hb5)
    clear hb5 hB4 hC
    rw [HQ.out]
    go_wp2
    go_ret
    exact ⟨rfl, hB5.out⟩
end Go.Proofs.YtkaepipnbgdoeaaDoor
