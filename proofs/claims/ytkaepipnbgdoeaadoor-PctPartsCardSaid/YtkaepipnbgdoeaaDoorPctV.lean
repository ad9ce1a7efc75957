/- The statement PctParts: its walk. -/
import Derived.Test.YtkaepipnbgdoeaaDoorPctW
set_option linter.unusedVariables false
set_option linter.unusedSimpArgs false
namespace Go.Proofs.YtkaepipnbgdoeaaDoor
open Go.RowKit Go.Proofs.YtkaepipnbgdoeaaDoorW.PrintWords Go.Proofs.YtkaepipnbgdoeaaDoorW.PrintMore PAll

theorem C_str_get {w : World} {A : Option Addr} {n : Nat} {xs : List ByteArray} (h : Kd.string.C w A n xs) (i : Nat) (hi : i < n) : ∃ ad, A = some ad ∧ w.cell? (ad.add i) = some (.string (xs.getD i ByteArray.empty)) := by
  obtain ⟨ad, c, e, hc, hk, hcell⟩ := Kd.C_get h ByteArray.empty i (by omega) (by omega)
  refine ⟨ad, e, ?_⟩
  have hk' : c = [.string (xs.getD (i : Int).toNat ByteArray.empty)] := hk
  have := hcell 0 (.string (xs.getD (i : Int).toNat ByteArray.empty)) (by rw [hk']; rfl)
  have e1 : Kd.string.sz = 1 := rfl
  simpa [e1] using this

theorem C_one (w : World) (c : Int) : (Kd.int .u8).C (w.alloc (.cells #[.int .u8 c] 5)) (some ⟨w.heap.size, 0, none⟩) 1 [c] := by
  refine ⟨rfl, by omega, fun _ => ⟨⟨w.heap.size, 0, none⟩, rfl, fun j p hj => ⟨[.int .u8 p], rfl, rfl, fun i u hu => ?_⟩⟩⟩
  have hjl : j < 1 := (List.getElem?_eq_some_iff.1 hj).1
  obtain rfl : j = 0 := by omega
  simp at hj
  subst hj
  cases i with
  | zero =>
    simp at hu
    subst hu
    simp [Addr.add]
  | succ i => simp at hu

/-- The escaped form of a part, with nothing kept; parts, put together. -/
def escP (p : ByteArray) : List Int := escL (stay ⟨#[]⟩) (ints p)
def jr (c : Int) : List ByteArray → List Int
  | [] => []
  | [p] => escP p
  | p :: q :: r => escP p ++ c :: jr c (q :: r)
theorem jr_snoc (c : Int) (p : ByteArray) : ∀ l : List ByteArray, l ≠ [] → jr c (l ++ [p]) = jr c l ++ c :: escP p
  | [], h => absurd rfl h
  | [a], _ => by simp [jr]
  | a :: b :: l, _ => by
    have := jr_snoc c p (b :: l) (by simp)
    simp only [List.cons_append] at this ⊢
    simp only [jr]
    rw [this]
    simp

theorem stay_nil : stay ⟨#[]⟩ = plainB := by
  funext j
  unfold stay bin
  by_cases h : j = 37
  · subst h; simp [plainB]
  · rw [if_neg h]; simp [ints]
theorem hexc_plain (n : Int) (h0 : 0 ≤ n) (h1 : n ≤ 15) : plainB (hexc n).toNat = true := by
  unfold hexc plainB
  rw [decide_eq_true_iff]
  split <;> omega
theorem escP_mem (c : Int) (h37 : c ≠ 37) (hp : plainB c.toNat = false) (p : ByteArray) : ∀ x ∈ escP p, x ≠ c := by
  intro x hx e
  subst e
  unfold escP at hx
  rw [stay_nil] at hx
  obtain ⟨y, hy, hx⟩ := List.mem_flatten.1 hx
  obtain ⟨r, h, rfl⟩ := List.mem_map.1 hy
  have h2 := ints_range p r h
  unfold esc1 at hx
  split at hx
  · rename_i hs
    rw [List.mem_singleton.1 hx] at hp
    rw [hs] at hp; simp at hp
  · simp at hx
    rcases hx with h | h | h
    · exact h37 h
    · rw [h, hexc_plain _ (by omega) (by omega)] at hp; simp at hp
    · rw [h, hexc_plain _ (by omega) (by omega)] at hp; simp at hp
theorem hexd_plain (c : Int) (h0 : 0 ≤ c) (hp : plainB c.toNat = false) : hexd c < 0 := by
  unfold plainB at hp
  rw [decide_eq_false_iff_not] at hp
  unfold hexd
  omega

theorem splt_jr (s : ByteArray) (c : Int) (h37 : c ≠ 37) (hp : plainB c.toNat = false) : ∀ (l : List ByteArray) (k : Nat) (pre : List Int) (acc : List ByteArray), l ≠ [] → ints s = pre ++ jr c l → l.length ≤ k →
    splt s c k pre.length acc = (acc ++ l, 0, 0)
  | [], _, _, _, h, _, _ => absurd rfl h
  | p :: l, 0, _, _, _, _, hk => by simp at hk
  | p :: l, k + 1, pre, acc, _, h, hk => by
    have hst : stay ⟨#[]⟩ 37 = false := by unfold stay; simp
    obtain ⟨post, hj, hpost⟩ : ∃ post, jr c (p :: l) = escP p ++ post ∧ (post = [] ∧ l = [] ∨ ∃ q, post = c :: jr c l ∧ l ≠ []) := by
      cases l with
      | nil => exact ⟨[], by simp [jr], .inl ⟨rfl, rfl⟩⟩
      | cons q r => exact ⟨c :: jr c (q :: r), by simp [jr], .inr ⟨0, rfl, by simp⟩⟩
    rw [hj] at h
    have hsz : s.size = pre.length + ((escP p).length + post.length) := by rw [← ints_length, h]; simp
    have hnb : nb s c (s.size - pre.length) pre.length = pre.length + (escP p).length := by
      apply nb_unique s c _ _ (by omega) (by omega) (by omega)
      · intro j h1 h2
        obtain ⟨i, rfl⟩ := Nat.exists_eq_add_of_le h1
        rw [bt_pre s pre _ h i, List.getD_eq_getElem?_getD, List.getElem?_append_left (by omega), List.getElem?_eq_getElem (by omega)]
        exact escP_mem c h37 hp p _ (List.getElem_mem _)
      · intro hlt
        rw [bt_pre s pre _ h (escP p).length, List.getD_eq_getElem?_getD, List.getElem?_append_right (Nat.le_refl _)]
        rcases hpost with ⟨rfl, _⟩ | ⟨_, rfl, _⟩
        · simp at hsz; omega
        · simp
    have hex : s.extract pre.length (pre.length + (escP p).length) = strOfNums (escP p) := by
      apply ints_inj
      rw [ints_extract, h, show ints (strOfNums (escP p)) = escP p from ints_nums _ (escL_range _ _ (ints_range p))]
      rw [List.take_append, List.drop_append]
      simp
    obtain ⟨qs, hu, _⟩ := ue_esc (stay ⟨#[]⟩) hst (ints p) (ints_range p)
    have hu' : ue (strOfNums (escP p)) = (ints p, qs, 0, 0) := hu
    have hpp : strOfNums (ints p) = p := ints_inj (ints_nums _ (ints_range p))
    rw [splt, if_neg (by omega), hnb, hex, hu']
    simp only [if_true]
    rw [hpp]
    rcases hpost with ⟨hp1, hp2⟩ | ⟨_, hp1, hp2⟩
    · subst hp2
      rw [hp1] at hsz
      cases k with
      | zero => simp [splt]
      | succ k => rw [splt, if_pos (by simp at hsz; omega)]
    · have := splt_jr s c h37 hp l k (pre ++ (escP p ++ [c])) (acc ++ [p]) hp2 (by rw [h, hp1]; simp) (by simp at hk; omega)
      rw [show (pre ++ (escP p ++ [c])).length = pre.length + (escP p).length + 1 by simp; omega] at this
      rw [this]; simp
theorem jr_range (c : Int) (h0 : 0 ≤ c) (h1 : c ≤ 255) : ∀ l : List ByteArray, ∀ x ∈ jr c l, 0 ≤ x ∧ x ≤ 255
  | [], x, hx => by simp [jr] at hx
  | [p], x, hx => escL_range _ _ (ints_range p) x hx
  | p :: q :: r, x, hx => by
    simp only [jr] at hx
    rcases List.mem_append.1 hx with hx | hx
    · exact escL_range _ _ (ints_range p) x hx
    · rcases List.mem_cons.1 hx with rfl | hx
      · exact ⟨h0, h1⟩
      · exact jr_range c h0 h1 (q :: r) x hx
theorem jr_ge (c : Int) : ∀ l : List ByteArray, l.length ≤ (jr c l).length + 1
  | [] => by simp
  | [p] => by simp
  | p :: q :: r => by
    have := jr_ge c (q :: r)
    simp [jr] at *
    omega
theorem spl_jr (c : Int) (h0 : 0 ≤ c) (h1 : c ≤ 255) (h37 : c ≠ 37) (hp : plainB c.toNat = false) (l : List ByteArray) (hl : l ≠ []) : spl (strOfNums (jr c l)) c = (l, 0, 0) := by
  have hx := hexd_plain c h0 hp
  have hi := ints_nums (jr c l) (jr_range c h0 h1 l)
  unfold spl
  rw [if_neg (by omega)]
  have hk := jr_ge c l
  have := splt_jr (strOfNums (jr c l)) c h37 hp l ((strOfNums (jr c l)).size + 1) [] [] hl (by rw [hi]; rfl) (by rw [strOfNums_size]; omega)
  simpa using this
theorem jr_len (c : Int) : ∀ l : List ByteArray, (∀ p ∈ l, p.size ≤ 20) → (jr c l).length ≤ 61 * l.length
  | [], _ => by simp [jr]
  | [p], h => by
    have := escL_len (stay ⟨#[]⟩) (ints p)
    rw [ints_length] at this
    have := h p (by simp)
    simp [jr, escP]; omega
  | p :: q :: r, h => by
    have h1 := jr_len c (q :: r) (fun x hx => h x (List.mem_cons_of_mem _ hx))
    have := escL_len (stay ⟨#[]⟩) (ints p)
    rw [ints_length] at this
    have := h p (by simp)
    simp [jr, escP] at *; omega

set_option maxHeartbeats 1000000 in
set_option maxRecDepth 100000 in
theorem pctParts_walk {E : Nat → Addr} (A : Option Addr) (k : Nat) (l : List ByteArray) (c : Int) (w : World) (hs : Sents E w) (hC : Kd.string.C w A l.length l) (hc : l.length ≤ k) (h0 : 0 ≤ c) (h1 : c ≤ 255) :
    Calls Tryd.prog 8 #[.slice A l.length k, .int .u8 c] w fun e w' => e = .returned (.bool true) ∧ Below w.heap.size w w' := by
  have hl0 : l.length ≤ 9223372036854775807 := hC.2.1
  have HC := Lib.hid hC
  clear hC
  by_cases a1 : l.length < 1 ∨ 8 < l.length
  · by_cases b1 : l.length < 1
    all_goals
      go_enter Tryd.func8, Tryd.ntmps8
      go_wp2_with fail
      refine (awake02 _ hs).mono ?_
      rintro e w1 ⟨rfl, hb⟩
      go_wp2_with fail
      first | (go_ret; exact ⟨rfl, hb⟩) | (exfalso; omega)
  · have l1 : 1 ≤ l.length := by omega
    have l8 : l.length ≤ 8 := by omega
    clear a1
    by_cases h37 : c = 37
    · have h37b : (c == 37) = true := by rw [beq_iff_eq]; exact h37
      clear h37
      go_enter Tryd.func8, Tryd.ntmps8
      go_wp2_with fail
      refine (awake02 _ hs).mono ?_
      rintro e w1 ⟨rfl, hb⟩
      go_wp2_with fail
      go_ret
      exact ⟨rfl, hb⟩
    · have h37b : (c == 37) = false := by rw [beq_eq_false_iff_ne]; exact h37
      have H37 := Lib.hid h37
      clear h37
      by_cases hp : plainB c.toNat = true
      · go_enter Tryd.func8, Tryd.ntmps8
        go_wp2_with fail
        refine (awake02 _ hs).mono ?_
        rintro e w1 ⟨rfl, hb⟩
        go_wp2_with fail
        refine (pct_Plain_any c _ h0 h1).mono ?_
        rintro e w2 ⟨rfl, hb2⟩
        go_wp2_with fail
        go_ret
        exact ⟨rfl, below_step hb hb2⟩
      · have hp' : plainB c.toNat = false := by simpa using hp
        have HP := Lib.hid hp'
        clear hp
        have HS := Lib.hid (sameT_f l (by omega))
        go_enter Tryd.func8, Tryd.ntmps8
        go_wp2_with fail
        refine (awake02 _ hs).mono ?_
        rintro e w1 ⟨rfl, hb⟩
        go_wp2_with fail
        refine (pct_Plain_any c _ h0 h1).mono ?_
        rintro e w2 ⟨rfl, hb2⟩
        have HB2 := Lib.hid (below_step hb hb2)
        clear hb hb2
        go_wp2_with fail
        go_loopg [5, 6] l.length (fun k v5 v6 w' => ∃ i : Nat, v6 = .int .i64 i ∧ v5 = .string (strOfNums (jr c (l.take i))) ∧ Hid (i ≤ l.length ∧ l.length ≤ i + k) ∧ Hid (∀ p ∈ l.take i, p.size ≤ 20) ∧ Hid (Below w.heap.size w w'))
        case atStart => exact ⟨0, rfl, rfl, ⟨Nat.zero_le _, by omega⟩, by show ∀ p ∈ _, _; simp, HB2.out⟩
        case round =>
          obtain ⟨i, rfl, rfl, HI, HP20, HB⟩ := hrel
          have hj := jr_len c (l.take i) HP20.out
          have hti : (l.take i).length ≤ 8 := by have := List.length_take_le i l; have := HI.out.1; rw [List.length_take]; omega
          obtain ⟨t, HT⟩ : ∃ t, Hid (strOfNums (jr c (l.take i)) = t) := ⟨_, rfl⟩
          have ht : t.size ≤ 500 := by rw [← HT.out, strOfNums_size]; omega
          rw [HT.out]
          clear hj hti
          by_cases hlt : i < l.length
          · cases gk with
            | zero => have := HI.out; omega
            | succ k1 =>
              obtain ⟨ad, rfl, hcell⟩ := C_str_get (Kd.C_below HC.out HB.out) i hlt
              obtain ⟨p, HPE⟩ : ∃ p, Hid (l.getD i ByteArray.empty = p) := ⟨_, rfl⟩
              rw [HPE.out] at hcell
              have htk : l.take (i + 1) = l.take i ++ [p] := by
                rw [List.take_succ_eq_append_getElem hlt, ← HPE.out, List.getD_eq_getElem?_getD, List.getElem?_eq_getElem hlt]; rfl
              have HTK := Lib.hid htk
              clear htk
              by_cases hbig : 20 < p.size
              · go_wp2_with fail
                go_ret
                exact ⟨rfl, HB.out⟩
              · have HP21 : Hid (∀ q ∈ l.take (i + 1), q.size ≤ 20) := by
                  show ∀ q ∈ _, _
                  rw [HTK.out]
                  intro q hq
                  rcases List.mem_append.1 hq with hq | hq
                  · exact HP20.out q hq
                  · rw [List.mem_singleton.1 hq]; omega
                have HI2 : Hid (i + 1 ≤ l.length ∧ l.length ≤ i + 1 + k1) := ⟨hlt, by have := HI.out.2; omega⟩
                have hpl := escL_len (stay ⟨#[]⟩) (ints p)
                rw [ints_length] at hpl
                obtain ⟨ep, HEP⟩ : ∃ ep, Hid (strOfNums (escL (stay ⟨#[]⟩) (ints p)) = ep) := ⟨_, rfl⟩
                have hep : ep.size ≤ 60 := by rw [← HEP.out, strOfNums_size]; omega
                clear hpl
                have hcd : ∀ W, Below wr.heap.size wr W → Hid (W.cell? (ad.add i) = some (.string p)) := fun W h => cell_below h hcell
                by_cases hi0 : i = 0
                · have hi0b : decide (0 < i) = false := by simp; omega
                  have HJ : Hid (t ++ ep = strOfNums (jr c (l.take (i + 1)))) := by
                    show _ = _
                    rw [HTK.out, ← HT.out, ← HEP.out, hi0]
                    simp only [List.take_zero, List.nil_append, jr]
                    exact nums_append' [] _
                  have hi1 : ¬ 0 < i := by omega
                  clear hi0
                  go_wp2_with fail
                  refine (pct_Escape_any p ⟨#[]⟩ _ (by omega) (by decide)).mono ?_
                  rintro e w4 ⟨rfl, hb4⟩
                  rw [HEP.out]
                  have HB4 := Lib.hid (below_step HB.out hb4)
                  clear hb4
                  go_wp2_with fail
                  go_roundg k1
                  case measure => omega
                  case rel => exact ⟨i + 1, by go_num, by rw [HJ.out], HI2, HP21, HB4.out⟩
                · have hi1 : 0 < i := by omega
                  have HJ : Hid (t ++ strOfNums [c] ++ ep = strOfNums (jr c (l.take (i + 1)))) := by
                    show _ = _
                    rw [HTK.out, ← HT.out, ← HEP.out, jr_snoc c p _ (by
                      intro h
                      have := congrArg List.length h
                      rw [List.length_take] at this
                      have h0 : ([] : List ByteArray).length = 0 := rfl
                      omega), nums_append', nums_append']
                    simp [escP]
                  have hcv : (convert 53 9 (.slice (some ⟨wr.heap.size, 0, none⟩) 1 1)).run Tryd.prog (wr.alloc (.cells #[.int .u8 c] 5)) = .ok (.string (strOfNums [c])) (wr.alloc (.cells #[.int .u8 c] 5)) :=
                    Kd.C_string Tryd.underlying53 Tryd.underlying5 Tryd.underlying9 (C_one wr c)
                  have hal : Below wr.heap.size wr (wr.alloc (.cells #[.int .u8 c] 5)) := (Below.refl _ _).alloc (Nat.le_refl _) _
                  have hcell2 : (wr.alloc (.cells #[.int .u8 c] 5)).cell? (ad.add i) = some (.string p) := cell_below hal hcell
                  have h1s : (strOfNums [c]).size = 1 := by rw [strOfNums_size]; rfl
                  obtain ⟨sc, HSC⟩ : ∃ sc, Hid (strOfNums [c] = sc) := ⟨_, rfl⟩
                  rw [HSC.out] at h1s hcv HJ
                  have hs1 : sc.size ≤ 1 := by omega
                  have hts : (t ++ sc).size ≤ 501 := by rw [ByteArray.size_append]; omega
                  clear hi0 h1s
                  go_wp2_with fail
                  refine (pct_Escape_any p ⟨#[]⟩ _ (by omega) (by decide)).mono ?_
                  rintro e w4 ⟨rfl, hb4⟩
                  rw [HEP.out]
                  have HB4 := Lib.hid (below_step (below_step HB.out hal) hb4)
                  clear hb4 hal
                  go_wp2_with fail
                  go_roundg k1
                  case measure => omega
                  case rel => exact ⟨i + 1, by go_num, by rw [HJ.out], HI2, HP21, HB4.out⟩
          · have HIE : i = l.length := by have := HI.out; omega
            have HSP : Hid (spl t c = (l, 0, 0)) := by
              show _ = _
              rw [← HT.out, HIE, List.take_length]
              exact spl_jr c h0 h1 H37.out HP.out l (by intro h; subst h; simp at l1)
            clear HIE HP20 HI
            go_wp2_with fail
            refine (pct_Split_any t c _ (by omega) h0 h1 (hs.below HB.out)).mono ?_
            rintro e w4 ⟨lv, ev, rfl, hR, hE, hb4⟩
            rw [HSP.out] at hR hE
            obtain ⟨A2, k2, rfl, hc2, hC2⟩ := Kd.R_reads hR
            obtain rfl : ev = .nilIface := by
              rcases hE with ⟨_, h⟩ | ⟨h, _⟩
              · exact h
              · simp at h
            have HB4 := Lib.hid (below_step HB.out hb4)
            have HC4 := Lib.hid (Kd.C_below HC.out HB4.out)
            have HC2 := Lib.hid hC2
            have Hc2 := Lib.hid hc2
            clear hb4 HB hR hE hC2 hc2
            go_wp2_with fail
            refine (eponymlaw02_SameTexts.calls _ A2 k2 l A k l true _ HC2.out Hc2.out HC4.out hc HS.out).mono ?_
            rintro e w5 ⟨rfl, hdr⟩
            go_wp2
            go_ret
            exact ⟨rfl, below_step HB4.out hdr.below⟩
end Go.Proofs.YtkaepipnbgdoeaaDoor
