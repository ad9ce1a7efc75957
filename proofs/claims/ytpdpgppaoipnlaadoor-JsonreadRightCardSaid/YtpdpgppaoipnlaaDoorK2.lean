/- The document's answer of chapter 13: a string. -/
import Derived.Test.YtpdpgppaoipnlaaDoorK1
set_option linter.unusedVariables false
set_option linter.unusedSimpArgs false
namespace Go.Proofs.YtpdpgppaoipnlaaDoor
section
open Go.RowKit Go.PlainAid
open Go.Proofs.YtpdpgppaoipnlaaDoorW.PrintWords hiding bt
open Go.Proofs.YtpdpgppaoipnlaaDoorW.PrintMore

theorem txt_snoc (acc : List Int) (r : Int) : txtOf acc ++ strOfNums (formL r) = txtOf (acc ++ [r]) := by
  unfold txtOf
  rw [nums_append']
  simp
theorem txt_len (acc : List Int) : (txtOf acc).size ≤ 4 * acc.length := by
  unfold txtOf
  rw [strOfNums_size]
  induction acc with
  | nil => simp
  | cons a l ih => rw [List.map_cons, List.flatten_cons, List.length_append, List.length_cons]; have := formL_len a; omega
theorem form_calls (r : Int) (h0 : 0 ≤ r) (h1 : r ≤ 1114111) (w : World) : Calls Tryd.prog 62 #[.int .i32 r] w fun e w' => e = .returned (.string (strOfNums (formL r))) ∧ Below w.heap.size w w' := PAll.eponymref01_Form.calls r _ w (form_f r h0 h1)
theorem next_calls (s : ByteArray) (i : Nat) (h1 : i < s.size) (hs : s.size ≤ 1000000) (w : World) : Calls Tryd.prog 61 #[.string s, .int .i64 i] w fun e w' => e = .returned (.tuple #[.int .i32 (nx s i).1, .int .i64 (nx s i).2.1, .int .i64 (nx s i).2.2]) ∧ Below w.heap.size w w' :=
  PAll.eponymref01_Next.calls 400 s i _ _ _ w (ref_next s i (by omega) (by omega) hs 0)

theorem plain_esc (b : Int) (h : 0 ≤ escOf b) : plk [(116, 9), (114, 13), (110, 10), (102, 12), (98, 8), (47, 47), (92, 92), (34, 34)] b = escOf b ∧ 0 < escOf b ∧ escOf b ≤ 116 := by
  simp only [plk]
  unfold escOf at h ⊢
  by_cases h1 : b = 98
  · subst h1; simp
  by_cases h2 : b = 102
  · subst h2; simp
  by_cases h3 : b = 110
  · subst h3; simp
  by_cases h4 : b = 114
  · subst h4; simp
  by_cases h5 : b = 116
  · subst h5; simp
  by_cases h6 : b = 34
  · subst h6; simp
  by_cases h7 : b = 92
  · subst h7; simp
  by_cases h8 : b = 47
  · subst h8; simp
  simp [h1, h2, h3, h4, h5, h6, h7, h8] at h
theorem plain_none (b : Int) (h : escOf b < 0) : plk [(116, 9), (114, 13), (110, 10), (102, 12), (98, 8), (47, 47), (92, 92), (34, 34)] b = 0 := by
  simp only [plk]
  unfold escOf at h
  by_cases h1 : b = 98
  · subst h1; simp at h
  by_cases h2 : b = 102
  · subst h2; simp at h
  by_cases h3 : b = 110
  · subst h3; simp at h
  by_cases h4 : b = 114
  · subst h4; simp at h
  by_cases h5 : b = 116
  · subst h5; simp at h
  by_cases h6 : b = 34
  · subst h6; simp at h
  by_cases h7 : b = 92
  · subst h7; simp at h
  by_cases h8 : b = 47
  · subst h8; simp at h
  simp [h1, h2, h3, h4, h5, h6, h7, h8]
theorem form_open (r : Int) (h0 : 0 ≤ r) (h1 : r ≤ 1114111) (w : World) : Calls Tryd.prog 62 #[.int .i32 r] w fun e w' => ∃ t, e = .returned (.string t) ∧ Hid (t = strOfNums (formL r)) ∧ t.size ≤ 4 ∧ Below w.heap.size w w' :=
  (form_calls r h0 h1 w).mono fun e w' h => ⟨_, h.1, rfl, by rw [strOfNums_size]; exact formL_len r, h.2⟩
/-- The document's string: what the pure reader says. -/
def StrR (s : ByteArray) (i : Nat) (w : World) (e : Ending) (w' : World) : Prop :=
  ∃ t, e = .returned (.agg #[.int .i64 0, .string ⟨#[]⟩, .slice none 0 0, .slice none 0 0, .string t, .int .i64 (strAt s i).2.1, .int .i64 (strAt s i).2.2]) ∧ Hid ((strAt s i).2.2 = 0 → t = txtOf (strAt s i).1) ∧ Hid (Below w.heap.size w w')

set_option maxHeartbeats 4000000 in
set_option maxRecDepth 100000 in
theorem r13_Str (s : ByteArray) (i : Nat) (I : Int) (w : World) (hI : I = i) (hl : s.size ≤ 100000) (hi : i ≤ s.size) :
    Calls Tryd.prog 21 #[.string s, .int .i64 I] w (StrR s i w) := by
  subst hI
  have hbt := get_bt s
  have HIS : Hid (∀ (k : Nat) (c : Int) (b : Bool), k ≤ 1000100 → 0 ≤ c → c ≤ 255 → isAt s k c = b → ∀ (I : Int) (W : World), I = (k : Int) → Calls Tryd.prog 60 #[.string s, .int .i64 I, .int .u8 c] W fun e w' => e = .returned (.bool b) ∧ W = w') := fun k c b h1 h2 h3 h4 I W h => by rw [← h4]; exact r13_is s k I c W h (by omega) (by omega) h2 h3
  have HBD : Hid (∀ (k : Nat), k ≤ 1000100 → ∀ (I : Int) (W : World), I = (k : Int) → Calls Tryd.prog 56 #[.string s, .int .i64 I] W (GotBad s k W)) := fun k h1 I W h => r13_bad s k I W h (by omega) (by omega)
  have HV0 : Hid (Row 32 w.heap.size (gotZ 0 0) (w.alloc (.cells (gotZ 0 0) 32))) := Row.new w _ _ rfl
  have HB0 : Hid (Below w.heap.size w (w.alloc (.cells (gotZ 0 0) 32))) := (Below.refl _ _).alloc (Nat.le_refl _) _
  have hmk : ∀ w, (Instr.makeMap 85 none).run Tryd.prog w = .ok (.map (some w.heap.size)) (w.alloc (.map #[] 0)) := fun _ => rfl
  cases h34 : isAt s i 34 with
  | false =>
    have HA : Hid (strAt s i = ([], badAt s i)) := by show _ = _; unfold strAt; rw [if_neg (by simp [h34])]
    have H1 := Lib.hid (HIS.out i 34 false (by omega) (by omega) (by omega) h34)
    clear h34
    go_enter Tryd.func21, Tryd.ntmps21
    go_wp2_with (first | (go_at_call 60; refine (H1.out _ _ rfl).mono ?_; rintro e w2 ⟨rfl, rfl⟩))
    refine (HBD.out i (by omega) _ _ rfl).mono ?_
    rintro e w2 ⟨rfl, hb2⟩
    have HV2 := Lib.hid (HV0.out.below hb2.out)
    have HB2 := Lib.hid (below_then HB0.out HB0.out.size hb2.out)
    clear hb2
    go_wp2_with (first | ((with_reducible refine wpl_store_got (cs := ?_) HV2.out rfl ?hx ?hy ?hs ?hz ?_); (case hx => rfl); (case hy => rfl); (case hs => rfl); (case hz => (first | (simp [Value.oneCell']; done) | assumption))))
    (try simp only [Exit.inBlock, Exit.then])
    refine bodyPost_ret (v := .agg (gotZ (badAt s i).1 (badAt s i).2)) ?_ rfl ?_
    · exact results_got rfl _ _ _ _ rfl HV2.out.set rfl
    · exact ⟨_, by rw [HA.out]; rfl, fun h => by rw [HA.out] at h; exact absurd h (badAt_ne _ _), below_setRow HB2.out (Nat.le_refl _) _⟩
  | true =>
    have hil := (isAt_lt h34).1
    have HA : Hid (strAt s i = strK s (s.size - i) (i + 1) []) := by show _ = _; unfold strAt; rw [if_pos h34]
    have H1 := Lib.hid (HIS.out i 34 true (by omega) (by omega) (by omega) h34)
    clear h34
    go_enter Tryd.func21, Tryd.ntmps21
    go_wp2_with (first | (go_at_call 60; refine (H1.out _ _ rfl).mono ?_; rintro e w2 ⟨rfl, rfl⟩))
    change Code.wp _ _ _ _ (w.alloc (.cells (gotZ 0 0) 32))
    generalize w.alloc (.cells (gotZ 0 0) 32) = w0 at *
    go_loopg [5, 6] (s.size - i) (fun k v5 v6 w' => ∃ (acc : List Int) (j : Nat), v5 = .string (txtOf acc) ∧ v6 = .int .i64 j ∧ Hid (j ≤ s.size ∧ s.size + 1 ≤ j + k ∧ acc.length ≤ j) ∧ Hid (strK s k j acc = strAt s i) ∧ Hid (Row 32 w.heap.size (gotZ 0 0) w') ∧ Hid (Below w.heap.size w w'))
    case atStart => exact ⟨[], i + 1, rfl, by go_num, ⟨by omega, by omega, by simp⟩, HA.out.symm, HV0.out, HB0.out⟩
    case round =>
      obtain ⟨acc, j, rfl, rfl, HI, HD, HV, HB⟩ := hrel
      clear HV0 HB0 HA H1
      obtain ⟨k1, rfl⟩ : ∃ k1, gk = k1 + 1 := ⟨gk - 1, by have := HI.out; omega⟩
      have hd := HD.out
      unfold strK at hd
      have hj := HI.out.1
      have htl : (txtOf acc).size ≤ 1000000 := by have := txt_len acc; have := HI.out; omega
      by_cases hend : s.size ≤ j
      · rw [if_pos hend] at hd
        have HD2 : Hid (strAt s i = ([], badAt s j)) := by show _ = _; rw [← hd]; unfold badAt; rw [if_pos hend]
        have h1 : decide (s.size ≤ j) = true := by simpa using hend
        clear hd HD
        go_wp2_with fail
        refine (HBD.out (j) (by omega) _ _ (by first | rfl | (push_cast; rfl) | (push_cast; omega))).mono ?_
        rintro e w2 ⟨rfl, hb2⟩
        have HV2 := Lib.hid (HV.out.below hb2.out)
        have HB2 := Lib.hid (below_then HB.out HB.out.size hb2.out)
        clear hb2
        go_wp2_with (first | ((with_reducible refine wpl_store_got (cs := ?_) HV2.out rfl ?hx ?hy ?hs ?hz ?_); (case hx => rfl); (case hy => rfl); (case hs => rfl); (case hz => (first | (simp [Value.oneCell']; done) | assumption))))
        (try simp only [Exit.inBlock, Exit.then])
        refine bodyPost_ret (v := .agg (gotZ (badAt s (j)).1 (badAt s (j)).2)) ?_ rfl ?_
        · exact results_got rfl _ _ _ _ rfl HV2.out.set rfl
        · exact ⟨_, by rw [HD2.out]; rfl, fun h => by rw [HD2.out] at h; exact absurd h (badAt_ne _ _), below_setRow HB2.out (Nat.le_refl _) _⟩
      · rw [if_neg hend] at hd
        have h1 : decide (s.size ≤ j) = false := by simpa using hend
        have hjl : j < s.size := by omega
        by_cases h34 : bt s j = 34
        · rw [if_pos h34] at hd
          have HD2 : Hid (strAt s i = (acc, ((j : Nat) : Int) + 1, 0)) := hd.symm
          have e34 : (bt s j == 34) = true := by simpa using h34
          have e32 : ¬ bt s j < 32 := by omega
          clear hd HD h34
          go_wp2_with (first | ((with_reducible refine wpl_store_got (cs := ?_) HV.out rfl ?hx ?hy ?hs ?hz ?_); (case hx => rfl); (case hy => rfl); (case hs => rfl); (case hz => (first | (simp [Value.oneCell']; done) | assumption))))
          (try simp only [Exit.inBlock, Exit.then])
          refine bodyPost_ret (v := .agg #[.int .i64 0, .string ⟨#[]⟩, .slice none 0 0, .slice none 0 0, .string (txtOf acc), .int .i64 ((j : Int) + 1), .int .i64 0]) ?_ rfl ?_
          · exact results_got rfl _ _ _ _ rfl HV.out.set rfl
          · exact ⟨_, by rw [HD2.out], fun _ => by rw [HD2.out], below_setRow HB.out (Nat.le_refl _) _⟩
        · rw [if_neg h34] at hd
          have e34 : (bt s j == 34) = false := by simpa using h34
          by_cases h32 : bt s j < 32
          · rw [if_pos h32] at hd
            have HD2 : Hid (strAt s i = ([], badAt s j)) := by show _ = _; rw [← hd]; unfold badAt; rw [if_neg hend]
            have e32 : decide (bt s j < 32) = true := by simpa using h32
            clear hd HD h34
            go_wp2_with fail
            refine (HBD.out (j) (by omega) _ _ (by first | rfl | (push_cast; rfl) | (push_cast; omega))).mono ?_
            rintro e w2 ⟨rfl, hb2⟩
            have HV2 := Lib.hid (HV.out.below hb2.out)
            have HB2 := Lib.hid (below_then HB.out HB.out.size hb2.out)
            clear hb2
            go_wp2_with (first | ((with_reducible refine wpl_store_got (cs := ?_) HV2.out rfl ?hx ?hy ?hs ?hz ?_); (case hx => rfl); (case hy => rfl); (case hs => rfl); (case hz => (first | (simp [Value.oneCell']; done) | assumption))))
            (try simp only [Exit.inBlock, Exit.then])
            refine bodyPost_ret (v := .agg (gotZ (badAt s (j)).1 (badAt s (j)).2)) ?_ rfl ?_
            · exact results_got rfl _ _ _ _ rfl HV2.out.set rfl
            · exact ⟨_, by rw [HD2.out]; rfl, fun h => by rw [HD2.out] at h; exact absurd h (badAt_ne _ _), below_setRow HB2.out (Nat.le_refl _) _⟩
          · rw [if_neg h32] at hd
            have e32 : decide (bt s j < 32) = false := by simpa using h32
            by_cases h92 : bt s j = 92
            · rw [if_pos h92] at hd
              have e92 : (bt s j != 92) = false := by rw [bne_eq_false_iff_eq]; exact h92
              have HE92 := Lib.hid hd
              clear hd HD h34 h92 h32
              have HF := Lib.hid form_open
              by_cases he1 : s.size ≤ j + 1
              · have HD2 : Hid (strAt s i = ([], badAt s (j + 1))) := by
                  show _ = _; rw [← HE92.out]; unfold escAt; rw [if_pos he1, if_neg (by simp)]; unfold badAt; rw [if_pos he1]
                have h2 : decide ((s.size : Int) ≤ (j : Int) + 1) = true := by simp; omega
                have h3 : decide (s.size ≤ j + 1) = true := by simpa using he1
                clear he1 HE92
                go_wp2_with fail
                refine (HBD.out (j + 1) (by omega) _ _ (by first | rfl | (push_cast; rfl) | (push_cast; omega))).mono ?_
                rintro e w2 ⟨rfl, hb2⟩
                have HVx := Lib.hid (HV.out.below hb2.out)
                have HBx := Lib.hid (below_then HB.out HB.out.size hb2.out)
                clear hb2
                go_wp2_with (first | ((with_reducible refine wpl_store_got (cs := ?_) HVx.out rfl ?hx ?hy ?hs ?hz ?_); (case hx => rfl); (case hy => rfl); (case hs => rfl); (case hz => (first | (simp [Value.oneCell']; done) | assumption))))
                (try simp only [Exit.inBlock, Exit.then])
                refine bodyPost_ret (v := .agg (gotZ (badAt s (j + 1)).1 (badAt s (j + 1)).2)) ?_ rfl ?_
                · exact results_got rfl _ _ _ _ rfl HVx.out.set rfl
                · exact ⟨_, by rw [HD2.out]; rfl, fun h => by rw [HD2.out] at h; exact absurd h (badAt_ne _ _), below_setRow HBx.out (Nat.le_refl _) _⟩
              · have h2 : decide ((s.size : Int) ≤ (j : Int) + 1) = false := by simp; omega
                have h3 : decide (s.size ≤ j + 1) = false := by simpa using he1
                have n0 := bt_nonneg s (j + 1)
                have n1 := bt_le s (j + 1)
                have hjl2 : j + 1 < s.size := by omega
                have hwr : w.heap.size < wr.heap.size := HV.out.lt
                have HF0 := Lib.hid (SeenB.made' wr)
                have HVm := Lib.hid (HV.out.old (.map #[] 0))
                have HBm := Lib.hid (HB.out.alloc HB.out.size (.map #[] 0))
                by_cases hp : 0 ≤ escOf (bt s (j + 1))
                · obtain ⟨hp1, hp2, hp3⟩ := plain_esc _ hp
                  have HD2 : Hid (strK s k1 (j + 2) (acc ++ [escOf (bt s (j + 1))]) = strAt s i) := by
                    have := HE92.out; unfold escAt at this; rw [if_neg he1, if_pos hp, if_pos rfl] at this; exact this
                  rw [← hp1] at HD2 hp2 hp3
                  clear he1 HE92 hp hp1
                  go_wp2_with (first | ((with_reducible refine wpl_p_put (t := ?_) (c := ?_) HF0.out (by omega) ?hx ?hy ?hv ?ht ?hc ?_); (case hx => rfl); (case hy => rfl); (case hv => rfl); (case ht => exact ⟨by omega, by omega⟩); (case hc => exact ⟨by omega, by omega⟩); intro w6 hF6 hg6; have HF0 := Lib.hid hF6; have HVm := Lib.hid (HVm.out.kept hg6 (by simp; omega)); have HBm := Lib.hid (pw_below_grown HBm.out _ HBm.out.size hg6 (fun k hk => by injection hk with hk; omega)); clear hF6 hg6) | ((with_reducible refine wpl_b_look HF0.out ⟨n0, n1⟩ ?hx ?hy ?_); (case hx => rfl); (case hy => rfl)) | (go_at_call 62; refine (HF.out _ (by omega) (by omega) _).mono ?_; rintro e w3 ⟨ft, rfl, hft, hfz, hb3⟩; have HV3 := Lib.hid (HVm.out.below hb3); have HB3 := Lib.hid (below_then HBm.out HBm.out.size hb3); clear hb3))
                  go_roundg k1
                  case measure => omega
                  case rel => exact ⟨acc ++ [plk [(116, 9), (114, 13), (110, 10), (102, 12), (98, 8), (47, 47), (92, 92), (34, 34)] (bt s (j + 1))], j + 2, (by rw [← txt_snoc, hft.out]; first | done | rfl | (congr 4; omega)), (by first | rfl | (push_cast; rfl) | (push_cast; omega)), ⟨by omega, by have := HI.out; omega, by have := HI.out; simp; omega⟩, HD2.out, HV3.out, HB3.out⟩
                · have hp1 := plain_none _ (by omega : escOf (bt s (j + 1)) < 0)
                  by_cases h117 : bt s (j + 1) = 117
                  · have HE := HE92.out
                    unfold escAt at HE
                    have hne : ¬ bt s (j + 1) ≠ 117 := fun h => h h117
                    rw [if_neg he1, if_neg hp, if_neg hne] at HE
                    simp only [] at HE
                    have e117 : (bt s (j + 1) != 117) = false := by rw [bne_eq_false_iff_eq]; exact h117
                    replace HE92 := Lib.hid HE
                    clear HE he1 hp h117 hne
                    go_wp2_with (first | ((with_reducible refine wpl_p_put (t := ?_) (c := ?_) HF0.out (by omega) ?hx ?hy ?hv ?ht ?hc ?_); (case hx => rfl); (case hy => rfl); (case hv => rfl); (case ht => exact ⟨by omega, by omega⟩); (case hc => exact ⟨by omega, by omega⟩); intro w6 hF6 hg6; have HF0 := Lib.hid hF6; have HVm := Lib.hid (HVm.out.kept hg6 (by simp; omega)); have HBm := Lib.hid (pw_below_grown HBm.out _ HBm.out.size hg6 (fun k hk => by injection hk with hk; omega)); clear hF6 hg6) | ((with_reducible refine wpl_b_look HF0.out ⟨n0, n1⟩ ?hx ?hy ?_); (case hx => rfl); (case hy => rfl)))
                    refine (r13_unit s (j + 2) _ _ (by push_cast; rfl) (by omega) (by omega)).mono ?_
                    rintro e w7 ⟨v, rfl, hv, hb7⟩
                    have HV7 := Lib.hid (HVm.out.below hb7.out)
                    have HB7 := Lib.hid (below_then HBm.out HBm.out.size hb7.out)
                    clear hb7 HVm HBm HF0 hp1 e117
                    by_cases hu : (unitAt s 4 (j + 2) 0).2.2 = 0
                    · obtain ⟨_, rfl⟩ := Or.resolve_right hv.out (fun h => h.1 hu)
                      obtain ⟨u1, u2, _, u4⟩ := unitAt_range s 4 (j + 2) 0 (by omega) hu
                      have HE := HE92.out
                      have hu' : ¬ (unitAt s 4 (j + 2) 0).2.2 ≠ 0 := fun h => h hu
                      rw [if_neg hu'] at HE
                      generalize (unitAt s 4 (j + 2) 0).1 = n at *
                      have u5 : n ≤ 65535 := by omega
                      have u6 : j + 6 ≤ s.size := by simpa using u4
                      clear hv hu u2 u4 HE92 hu'
                      by_cases hh : 55296 ≤ n ∧ n ≤ 56319
                      · rw [if_pos hh] at HE
                        have HE92 := Lib.hid HE
                        obtain ⟨hh1, hh2⟩ := hh
                        clear HE
                        have hl6 : lowAt s (j + 6) = if isAt s (j + 6) 92 = true ∧ isAt s (j + 7) 117 = true ∧ (unitAt s 4 (j + 8) 0).2.2 = 0 ∧ 56320 ≤ (unitAt s 4 (j + 8) 0).1 ∧ (unitAt s 4 (j + 8) 0).1 ≤ 57343 then (unitAt s 4 (j + 8) 0).1 else -1 := rfl
                        have HBADL : Hid (lowAt s (j + 6) = -1 → strAt s i = ([], (j : Int), 4)) := by
                          intro h
                          have he := HE92.out
                          rw [if_pos (by omega : lowAt s (j + 6) < 0)] at he
                          simpa using he.symm
                        have HL6 := Lib.hid hl6
                        clear hl6
                        cases h6 : isAt s (j + 6) 92 with
                        | false =>
                          have HD2 : Hid (strAt s i = ([], (j : Int), 4)) := HBADL.out (by rw [HL6.out, if_neg (by simp [h6])])
                          have H6 := Lib.hid h6
                          clear HE92 HBADL HL6 h6
                          go_wp2_with fail
                          refine (HIS.out (j + 6) 92 false (by omega) (by omega) (by omega) H6.out _ _ (by push_cast; rfl)).mono ?_
                          rintro e w8 ⟨rfl, rfl⟩
                          go_wp2_with (first | ((with_reducible refine wpl_store_got (cs := ?_) HV7.out rfl ?hx ?hy ?hs ?hz ?_); (case hx => rfl); (case hy => rfl); (case hs => rfl); (case hz => (first | (simp [Value.oneCell']; done) | assumption))))
                          (try simp only [Exit.inBlock, Exit.then])
                          refine bodyPost_ret (v := .agg (gotZ (j) (4))) ?_ rfl ?_
                          · exact results_got rfl _ _ _ _ rfl HV7.out.set rfl
                          · exact ⟨_, by rw [HD2.out]; rfl, fun h => by rw [HD2.out] at h; exact absurd h (show ¬ ((4 : Int) = 0) by omega), below_setRow HB7.out (Nat.le_refl _) _⟩
                        | true =>
                          cases h7 : isAt s (j + 7) 117 with
                          | false =>
                            have HD2 : Hid (strAt s i = ([], (j : Int), 4)) := HBADL.out (by rw [HL6.out, if_neg (by simp [h7])])
                            have H6 := Lib.hid h6
                            have H7 := Lib.hid h7
                            clear HE92 HBADL HL6 h6 h7
                            go_wp2_with fail
                            refine (HIS.out (j + 6) 92 true (by omega) (by omega) (by omega) H6.out _ _ (by push_cast; rfl)).mono ?_
                            rintro e w8 ⟨rfl, rfl⟩
                            go_wp2_with fail
                            refine (HIS.out (j + 7) 117 false (by omega) (by omega) (by omega) H7.out _ _ (by push_cast; rfl)).mono ?_
                            rintro e w8 ⟨rfl, rfl⟩
                            go_wp2_with (first | ((with_reducible refine wpl_store_got (cs := ?_) HV7.out rfl ?hx ?hy ?hs ?hz ?_); (case hx => rfl); (case hy => rfl); (case hs => rfl); (case hz => (first | (simp [Value.oneCell']; done) | assumption))))
                            (try simp only [Exit.inBlock, Exit.then])
                            refine bodyPost_ret (v := .agg (gotZ (j) (4))) ?_ rfl ?_
                            · exact results_got rfl _ _ _ _ rfl HV7.out.set rfl
                            · exact ⟨_, by rw [HD2.out]; rfl, fun h => by rw [HD2.out] at h; exact absurd h (show ¬ ((4 : Int) = 0) by omega), below_setRow HB7.out (Nat.le_refl _) _⟩
                          | true =>
                            have H6 := Lib.hid h6
                            have H7 := Lib.hid h7
                            have h7l := (isAt_lt h7).1
                            clear h6 h7
                            go_wp2_with fail
                            refine (HIS.out (j + 6) 92 true (by omega) (by omega) (by omega) H6.out _ _ (by push_cast; rfl)).mono ?_
                            rintro e w8 ⟨rfl, rfl⟩
                            go_wp2_with fail
                            refine (HIS.out (j + 7) 117 true (by omega) (by omega) (by omega) H7.out _ _ (by push_cast; rfl)).mono ?_
                            rintro e w8 ⟨rfl, rfl⟩
                            go_wp2_with fail
                            refine (r13_unit s (j + 8) _ _ (by push_cast; rfl) (by omega) (by omega)).mono ?_
                            rintro e w9 ⟨v, rfl, hv, hb9⟩
                            have HV9 := Lib.hid (HV7.out.below hb9.out)
                            have HB9 := Lib.hid (below_then HB7.out HB7.out.size hb9.out)
                            clear hb9 HV7 HB7
                            by_cases hu : (unitAt s 4 (j + 8) 0).2.2 = 0
                            · obtain ⟨_, rfl⟩ := Or.resolve_right hv.out (fun h => h.1 hu)
                              have hL := HL6.out
                              rw [H6.out, H7.out, hu] at hL
                              obtain ⟨_, _, _, u8⟩ := unitAt_range s 4 (j + 8) 0 (by omega) hu
                              have u9 : j + 12 ≤ s.size := by simpa using u8
                              generalize (unitAt s 4 (j + 8) 0).1 = m at *
                              clear hv hu u8
                              by_cases hm : 56320 ≤ m ∧ m ≤ 57343
                              · rw [if_pos ⟨rfl, rfl, rfl, hm.1, hm.2⟩] at hL
                                have HD2 : Hid (strK s k1 (j + 12) (acc ++ [65536 + (n - 55296) * 1024 + m - 56320]) = strAt s i) := by
                                  have := HE92.out
                                  rw [hL, if_neg (by omega : ¬ m < 0), if_pos rfl] at this
                                  exact this
                                obtain ⟨hm1, hm2⟩ := hm
                                clear hL HE92 HBADL HL6
                                go_wp2_with (first | (go_at_call 62; refine (HF.out _ (by omega) (by omega) _).mono ?_; rintro e w3 ⟨ft, rfl, hft, hfz, hb3⟩; have HV3 := Lib.hid (HV9.out.below hb3); have HB3 := Lib.hid (below_then HB9.out HB9.out.size hb3); clear hb3))
                                go_roundg k1
                                case measure => omega
                                case rel => exact ⟨acc ++ [65536 + (n - 55296) * 1024 + m - 56320], j + 12, (by rw [← txt_snoc, hft.out]; first | done | rfl | (congr 4; omega)), (by first | rfl | (push_cast; rfl) | (push_cast; omega)), ⟨by omega, by have := HI.out; omega, by have := HI.out; simp; omega⟩, HD2.out, HV3.out, HB3.out⟩
                              · have HD2 : Hid (strAt s i = ([], (j : Int), 4)) := HBADL.out (by rw [hL, if_neg (fun h => hm h.2.2.2)])
                                clear hL HE92 HBADL HL6
                                by_cases hm1 : m < 56320
                                · clear hm
                                  go_wp2_with (first | ((with_reducible refine wpl_store_got (cs := ?_) HV9.out rfl ?hx ?hy ?hs ?hz ?_); (case hx => rfl); (case hy => rfl); (case hs => rfl); (case hz => (first | (simp [Value.oneCell']; done) | assumption))))
                                  (try simp only [Exit.inBlock, Exit.then])
                                  refine bodyPost_ret (v := .agg (gotZ (j) (4))) ?_ rfl ?_
                                  · exact results_got rfl _ _ _ _ rfl HV9.out.set rfl
                                  · exact ⟨_, by rw [HD2.out]; rfl, fun h => by rw [HD2.out] at h; exact absurd h (show ¬ ((4 : Int) = 0) by omega), below_setRow HB9.out (Nat.le_refl _) _⟩
                                · have hm2 : ¬ m ≤ 57343 := fun h => hm ⟨by omega, h⟩
                                  clear hm
                                  go_wp2_with (first | ((with_reducible refine wpl_store_got (cs := ?_) HV9.out rfl ?hx ?hy ?hs ?hz ?_); (case hx => rfl); (case hy => rfl); (case hs => rfl); (case hz => (first | (simp [Value.oneCell']; done) | assumption))))
                                  (try simp only [Exit.inBlock, Exit.then])
                                  refine bodyPost_ret (v := .agg (gotZ (j) (4))) ?_ rfl ?_
                                  · exact results_got rfl _ _ _ _ rfl HV9.out.set rfl
                                  · exact ⟨_, by rw [HD2.out]; rfl, fun h => by rw [HD2.out] at h; exact absurd h (show ¬ ((4 : Int) = 0) by omega), below_setRow HB9.out (Nat.le_refl _) _⟩
                            · obtain ⟨_, kk, hk1, hk2, rfl, hk3⟩ := Or.resolve_left hv.out (fun h => hu h.1)
                              have HD2 : Hid (strAt s i = ([], (j : Int), 4)) := HBADL.out (by rw [HL6.out, if_neg (fun h => hu h.2.2.1)])
                              clear hv hu hk3 HE92 HBADL HL6
                              go_wp2_with (first | ((with_reducible refine wpl_store_got (cs := ?_) HV9.out rfl ?hx ?hy ?hs ?hz ?_); (case hx => rfl); (case hy => rfl); (case hs => rfl); (case hz => (first | (simp [Value.oneCell']; done) | assumption))))
                              (try simp only [Exit.inBlock, Exit.then])
                              refine bodyPost_ret (v := .agg (gotZ (j) (4))) ?_ rfl ?_
                              · exact results_got rfl _ _ _ _ rfl HV9.out.set rfl
                              · exact ⟨_, by rw [HD2.out]; rfl, fun h => by rw [HD2.out] at h; exact absurd h (show ¬ ((4 : Int) = 0) by omega), below_setRow HB9.out (Nat.le_refl _) _⟩
                      · rw [if_neg hh] at HE
                        by_cases hl2 : 56320 ≤ n ∧ n ≤ 57343
                        · rw [if_pos hl2] at HE
                          have HD2 : Hid (strAt s i = ([], (j : Int), 4)) := by show _ = _; rw [← HE]; rw [if_neg (by simp)]
                          obtain ⟨hh1, hh2⟩ := hl2
                          have hh3 : ¬ n ≤ 56319 := by omega
                          clear HE hh
                          go_wp2_with (first | ((with_reducible refine wpl_store_got (cs := ?_) HV7.out rfl ?hx ?hy ?hs ?hz ?_); (case hx => rfl); (case hy => rfl); (case hs => rfl); (case hz => (first | (simp [Value.oneCell']; done) | assumption))))
                          (try simp only [Exit.inBlock, Exit.then])
                          refine bodyPost_ret (v := .agg (gotZ (j) (4))) ?_ rfl ?_
                          · exact results_got rfl _ _ _ _ rfl HV7.out.set rfl
                          · exact ⟨_, by rw [HD2.out]; rfl, fun h => by rw [HD2.out] at h; exact absurd h (show ¬ ((4 : Int) = 0) by omega), below_setRow HB7.out (Nat.le_refl _) _⟩
                        · rw [if_neg hl2] at HE
                          have HD2 : Hid (strK s k1 (j + 6) (acc ++ [n]) = strAt s i) := by rw [if_pos rfl] at HE; exact HE
                          clear HE
                          by_cases hA : n < 55296
                          · clear hh hl2
                            have hB : ¬ 56320 ≤ n := by omega
                            go_wp2_with (first | (go_at_call 62; refine (HF.out _ (by omega) (by omega) _).mono ?_; rintro e w3 ⟨ft, rfl, hft, hfz, hb3⟩; have HV3 := Lib.hid (HV7.out.below hb3); have HB3 := Lib.hid (below_then HB7.out HB7.out.size hb3); clear hb3))
                            go_roundg k1
                            case measure => omega
                            case rel => exact ⟨acc ++ [n], j + 6, (by rw [← txt_snoc, hft.out]; first | done | rfl | (congr 4; omega)), (by first | rfl | (push_cast; rfl) | (push_cast; omega)), ⟨by omega, by have := HI.out; omega, by have := HI.out; simp; omega⟩, HD2.out, HV3.out, HB3.out⟩
                          · have hA1 : ¬ n ≤ 56319 := by omega
                            have hA2 : 56320 ≤ n := by omega
                            have hA3 : ¬ n ≤ 57343 := by omega
                            clear hh hl2
                            go_wp2_with (first | (go_at_call 62; refine (HF.out _ (by omega) (by omega) _).mono ?_; rintro e w3 ⟨ft, rfl, hft, hfz, hb3⟩; have HV3 := Lib.hid (HV7.out.below hb3); have HB3 := Lib.hid (below_then HB7.out HB7.out.size hb3); clear hb3))
                            go_roundg k1
                            case measure => omega
                            case rel => exact ⟨acc ++ [n], j + 6, (by rw [← txt_snoc, hft.out]; first | done | rfl | (congr 4; omega)), (by first | rfl | (push_cast; rfl) | (push_cast; omega)), ⟨by omega, by have := HI.out; omega, by have := HI.out; simp; omega⟩, HD2.out, HV3.out, HB3.out⟩
                    · obtain ⟨_, kk, hk1, hk2, rfl, hk3⟩ := Or.resolve_left hv.out (fun h => hu h.1)
                      have HD2 : Hid (strAt s i = ([], badAt s kk)) := by
                        have HE := HE92.out
                        rw [if_pos hu, if_neg hu] at HE
                        show _ = _; rw [← HE, ← hk3]
                      clear hv hu hk3 HE92
                      go_wp2_with fail
                      refine (HBD.out (kk) (by omega) _ _ (by first | rfl | (push_cast; rfl) | (push_cast; omega))).mono ?_
                      rintro e w2 ⟨rfl, hb2⟩
                      have HVx := Lib.hid (HV7.out.below hb2.out)
                      have HBx := Lib.hid (below_then HB7.out HB7.out.size hb2.out)
                      clear hb2
                      go_wp2_with (first | ((with_reducible refine wpl_store_got (cs := ?_) HVx.out rfl ?hx ?hy ?hs ?hz ?_); (case hx => rfl); (case hy => rfl); (case hs => rfl); (case hz => (first | (simp [Value.oneCell']; done) | assumption))))
                      (try simp only [Exit.inBlock, Exit.then])
                      refine bodyPost_ret (v := .agg (gotZ (badAt s (kk)).1 (badAt s (kk)).2)) ?_ rfl ?_
                      · exact results_got rfl _ _ _ _ rfl HVx.out.set rfl
                      · exact ⟨_, by rw [HD2.out]; rfl, fun h => by rw [HD2.out] at h; exact absurd h (badAt_ne _ _), below_setRow HBx.out (Nat.le_refl _) _⟩
                  · have e117 : (bt s (j + 1) != 117) = true := by rw [bne_iff_ne]; exact h117
                    have HD2 : Hid (strAt s i = ([], badAt s (j + 1))) := by
                      have hE : escAt s j = (0, (j : Int) + 1, 1) := by unfold escAt; rw [if_neg he1, if_neg hp, if_pos h117]
                      show _ = _; rw [← HE92.out, hE, if_neg (show ¬ ((1 : Int) = 0) by omega)]; unfold badAt; rw [if_neg he1]; push_cast; rfl
                    clear he1 HE92 hp h117
                    go_wp2_with (first | ((with_reducible refine wpl_p_put (t := ?_) (c := ?_) HF0.out (by omega) ?hx ?hy ?hv ?ht ?hc ?_); (case hx => rfl); (case hy => rfl); (case hv => rfl); (case ht => exact ⟨by omega, by omega⟩); (case hc => exact ⟨by omega, by omega⟩); intro w6 hF6 hg6; have HF0 := Lib.hid hF6; have HVm := Lib.hid (HVm.out.kept hg6 (by simp; omega)); have HBm := Lib.hid (pw_below_grown HBm.out _ HBm.out.size hg6 (fun k hk => by injection hk with hk; omega)); clear hF6 hg6) | ((with_reducible refine wpl_b_look HF0.out ⟨n0, n1⟩ ?hx ?hy ?_); (case hx => rfl); (case hy => rfl)))
                    refine (HBD.out (j + 1) (by omega) _ _ (by first | rfl | (push_cast; rfl) | (push_cast; omega))).mono ?_
                    rintro e w2 ⟨rfl, hb2⟩
                    have HVx := Lib.hid (HVm.out.below hb2.out)
                    have HBx := Lib.hid (below_then HBm.out HBm.out.size hb2.out)
                    clear hb2
                    go_wp2_with (first | ((with_reducible refine wpl_store_got (cs := ?_) HVx.out rfl ?hx ?hy ?hs ?hz ?_); (case hx => rfl); (case hy => rfl); (case hs => rfl); (case hz => (first | (simp [Value.oneCell']; done) | assumption))))
                    (try simp only [Exit.inBlock, Exit.then])
                    refine bodyPost_ret (v := .agg (gotZ (badAt s (j + 1)).1 (badAt s (j + 1)).2)) ?_ rfl ?_
                    · exact results_got rfl _ _ _ _ rfl HVx.out.set rfl
                    · exact ⟨_, by rw [HD2.out]; rfl, fun h => by rw [HD2.out] at h; exact absurd h (badAt_ne _ _), below_setRow HBx.out (Nat.le_refl _) _⟩
            · rw [if_neg h92] at hd
              have e92 : (bt s j != 92) = true := by rw [bne_iff_ne]; exact h92
              have HNX := Lib.hid (fun (W : World) => next_calls s j hjl (by omega) W)
              obtain ⟨r, n, c, hn⟩ : ∃ r n c, nx s j = (r, n, c) := ⟨_, _, _, rfl⟩
              rw [hn] at hd HNX
              clear HD h34 h92 h32
              by_cases hc0 : c = 0
              · subst hc0
                rw [if_pos rfl] at hd
                obtain ⟨_, q2, q3, q4, q5, q6⟩ := nx_good s j r n hn
                obtain ⟨m, rfl⟩ : ∃ m : Nat, n = m := ⟨n.toNat, by omega⟩
                have HD2 : Hid (strK s k1 (j + m) (acc ++ [r]) = strAt s i) := by show _ = _; simpa using hd
                have HF := Lib.hid (fun (W : World) => form_calls r q5 q6 W)
                have hsz : (strOfNums (formL r)).size ≤ 4 := by rw [strOfNums_size]; exact formL_len r
                clear hd hn
                go_wp2_with (first | (go_at_call 61; refine (HNX.out _).mono ?_; rintro e w2 ⟨rfl, hb2⟩; have HV2 := Lib.hid (HV.out.below hb2); have HB2 := Lib.hid (below_then HB.out HB.out.size hb2); clear hb2) | (go_at_call 62; refine (HF.out _).mono ?_; rintro e w3 ⟨rfl, hb3⟩; have HV3 := Lib.hid (HV2.out.below hb3); have HB3 := Lib.hid (below_then HB2.out HB2.out.size hb3); clear hb3))
                go_roundg k1
                case measure => omega
                case rel => exact ⟨acc ++ [r], j + m, (by rw [← txt_snoc]), (by first | rfl | (push_cast; rfl) | (push_cast; omega)), ⟨by omega, by have := HI.out; omega, by have := HI.out; simp; omega⟩, HD2.out, HV3.out, HB3.out⟩
              · rw [if_neg hc0] at hd
                have HD2 : Hid (strAt s i = ([], (j : Int), c)) := hd.symm
                have HNE := Lib.hid hc0
                have ec : (c != 0) = true := by rw [bne_iff_ne]; exact hc0
                clear hd hn hc0
                go_wp2_with (first | (go_at_call 61; refine (HNX.out _).mono ?_; rintro e w2 ⟨rfl, hb2⟩; have HV2 := Lib.hid (HV.out.below hb2); have HB2 := Lib.hid (below_then HB.out HB.out.size hb2); clear hb2) | ((with_reducible refine wpl_store_got (cs := ?_) HV2.out rfl ?hx ?hy ?hs ?hz ?_); (case hx => rfl); (case hy => rfl); (case hs => rfl); (case hz => (first | (simp [Value.oneCell']; done) | assumption))))
                (try simp only [Exit.inBlock, Exit.then])
                refine bodyPost_ret (v := .agg (gotZ (j) (c))) ?_ rfl ?_
                · exact results_got rfl _ _ _ _ rfl HV2.out.set rfl
                · exact ⟨_, by rw [HD2.out]; rfl, fun h => by rw [HD2.out] at h; exact absurd h (by first | omega | (show ¬ ((c : Int) = 0); omega) | exact HNE.out), below_setRow HB2.out (Nat.le_refl _) _⟩
end
end Go.Proofs.YtpdpgppaoipnlaaDoor
