/- The reference's Split and Text (as printed) come to what is told; texts are the same as themselves. -/
import Derived.Test.YtkaepipnbgdoeaaDoorPctR
import Derived.Test.YtkaepipnbgdoeaaDoorPctN
import Derived.Test.YtkaepipnbgdoeaaDoorPctT
set_option linter.unusedVariables false
set_option linter.unusedSimpArgs false
namespace Go.Proofs.YtkaepipnbgdoeaaDoor
open Go.RowKit Go.Proofs.YtkaepipnbgdoeaaDoorW.PrintWords PAll

theorem ref_text (s : ByteArray) (hs : s.size ≤ 100000) : eponymref02_Text.f (2 * s.size + 900) s = some (tx s) := by
  obtain ⟨hlen, hbl⟩ := ue_len s
  have hu : eponymref02_Unescape.f (2 * s.size + 900) s = _ := at_rounds (g := fun k => eponymref02_Unescape.f k s) (fun k => eponymref02_Unescape.mono s k) (by omega) (ref_unescape s (by omega))
  unfold eponymref02_Text.f
  rw [hu]
  simp only [Option.bind_some]
  unfold tx
  by_cases h : (ue s).2.2.2 = 0
  · rw [if_pos h, if_pos h]
    have hsz : (strOfNums (ue s).1).size = (ue s).1.length := strOfNums_size _
    have hd : eponymref01_Decode.f (2 * s.size + 900) (strOfNums (ue s).1) = _ := at_rounds (g := fun k => eponymref01_Decode.f k (strOfNums (ue s).1)) (fun k => eponymref01_Decode.mono _ k) (by omega) (ref_decode (strOfNums (ue s).1) (by omega))
    rw [hd]
    simp only [Option.bind_some]
    by_cases h2 : (dec (strOfNums (ue s).1)).2.2 = 0
    · rw [if_pos h2, if_pos h2]
      have h3 := dec_ok _ h2
      exact congrArg some (Prod.ext rfl (Prod.ext h3.symm h2.symm))
    · rw [if_neg h2, if_neg h2]
      have ha := dec_at _ h2
      rw [if_pos ha.1, if_pos (by omega)]
      congr 3
  · rw [if_neg h, if_neg h]

theorem spl_l0 (s : ByteArray) (hs : s.size ≤ 100000) (c : Int) (k : Nat) : ∀ (n i fr m : Nat) (acc : List ByteArray), i + n = s.size + 1 → fr ≤ i → (∀ j : Nat, fr ≤ j → j < i → PlainAid.bt s j ≠ c) → acc.length ≤ fr → s.size + 1 ≤ fr + m → (i = s.size + 1 → fr = s.size + 1) →
    eponymref02_Split.l0 (k + 2 * n + s.size + 12) s c acc fr i = some (splt s c m fr acc) := by
  intro n
  induction n with
  | zero =>
    intro i fr m acc hi hf hj ha hm hx
    rw [show k + 2 * 0 + s.size + 12 = (k + s.size + 11) + 1 by omega, eponymref02_Split.l0, if_neg (by omega)]
    cases m with
    | zero => rfl
    | succ m => rw [splt, if_pos (by omega)]
  | succ n ih =>
    intro i fr m acc hi hf hj ha hm hx
    have e1 : wrap64 ((i : Int) + 1) = ((i + 1 : Nat) : Int) := by rw [w64 (by omega) (by omega)]; omega
    have hend : PlainAid.bt s i = c ∨ i = s.size → eponymref02_Split.j2 (k + 2 * n + s.size + 13) s c acc fr i false = some (splt s c m fr acc) := by
      intro hc
      have hnb : nb s c (s.size - fr) fr = i := nb_unique s c fr i (by omega) hf (by omega) hj (fun h => by rcases hc with h' | h'; exact h'; omega)
      obtain ⟨m, rfl⟩ : ∃ m', m = m' + 1 := ⟨m - 1, by omega⟩
      have hps : (s.extract fr i).size ≤ s.size := by rw [ByteArray.size_extract]; omega
      have hu : eponymref02_Unescape.f (k + 2 * n + s.size + 12) (s.extract fr i) = _ := at_rounds (g := fun k => eponymref02_Unescape.f k (s.extract fr i)) (fun k => eponymref02_Unescape.mono _ k) (by omega) (ref_unescape (s.extract fr i) (by omega))
      have hat := ue_at (s.extract fr i)
      rw [show k + 2 * n + s.size + 13 = (k + 2 * n + s.size + 12) + 1 from rfl, eponymref02_Split.j2, if_neg (by simp), if_pos (by omega), if_pos (by omega), if_pos (by omega), Int.toNat_natCast, Int.toNat_natCast, hu]
      simp only [Option.bind_some]
      rw [splt, if_neg (show ¬ s.size < fr by omega), hnb]
      by_cases h : (ue (s.extract fr i)).2.2.2 = 0
      · rw [if_pos h, if_pos h, if_pos (by omega), e1]
        exact ih (i + 1) (i + 1) m _ (by omega) (Nat.le_refl _) (fun j h1 h2 => by omega) (by simp; omega) (by omega) (fun h => h)
      · rw [if_neg h, if_neg h, w64 (by omega) (by omega)]
    rw [show k + 2 * (n + 1) + s.size + 12 = (k + 2 * n + s.size + 13) + 1 by omega, eponymref02_Split.l0, if_pos (by omega)]
    by_cases hlt : i < s.size
    · rw [if_pos (by omega), if_pos (by omega), btP, Int.toNat_natCast]
      by_cases hc : PlainAid.bt s i = c
      · rw [show (PlainAid.bt s i != c) = false by rw [bne_eq_false_iff_eq]; exact hc]
        exact hend (.inl hc)
      · rw [show (PlainAid.bt s i != c) = true by rw [bne_iff_ne]; exact hc, show k + 2 * n + s.size + 13 = (k + 2 * n + s.size + 12) + 1 from rfl, eponymref02_Split.j2, if_pos rfl, e1]
        exact ih (i + 1) fr m acc (by omega) (by omega) (fun j h1 h2 => by
          by_cases e : j = i
          · subst e; exact hc
          · exact hj j h1 (by omega)) ha hm (fun h => by omega)
    · rw [if_neg (by omega)]
      exact hend (.inr (by omega))
theorem ref_split (s : ByteArray) (hs : s.size ≤ 100000) (c : Int) (h0 : 0 ≤ c) (h1 : c ≤ 255) : eponymref02_Split.f (3 * s.size + 15) s c = some (spl s c) := by
  unfold eponymref02_Split.f spl
  by_cases h : c = 37
  · rw [if_pos h, if_pos (.inl h), show 3 * s.size + 15 = (3 * s.size + 14) + 1 from rfl, eponymref02_Split.j0, if_pos rfl]
  · rw [if_neg h, show 3 * s.size + 15 = (3 * s.size + 10) + 5 from rfl, digit_f c h0 h1]
    simp only [Option.bind_some]
    rw [show 3 * s.size + 10 + 5 = (3 * s.size + 14) + 1 from rfl, eponymref02_Split.j0]
    by_cases hx : 0 ≤ hexd c
    · rw [if_pos (by simpa using hx), if_pos (.inr hx)]
    · rw [if_neg (by simpa using hx), if_neg (by omega)]
      have := spl_l0 s hs c 0 (s.size + 1) 0 0 (s.size + 1) [] (by omega) (Nat.le_refl _) (fun j h1 h2 => by omega) (Nat.le_refl _) (by omega) (fun h => by omega)
      rw [show 0 + 2 * (s.size + 1) + s.size + 12 = 3 * s.size + 14 by omega] at this
      exact this

theorem sameT_l (l : List ByteArray) (hl : l.length ≤ 1000000) : ∀ (n i : Nat) (k : Nat), i ≤ l.length → l.length ≤ i + n → eponymlaw02_SameTexts.l0 (k + n + 1) l l i = some true := by
  intro n
  induction n with
  | zero =>
    intro i k h1 h2
    rw [eponymlaw02_SameTexts.l0, if_neg (by omega)]
  | succ n ih =>
    intro i k h1 h2
    rw [show k + (n + 1) + 1 = (k + n + 1) + 1 by omega, eponymlaw02_SameTexts.l0]
    by_cases h : i < l.length
    · rw [if_pos (by omega), if_pos (by omega), if_pos (by omega), if_pos rfl, w64 (by omega) (by omega)]
      have := ih (i + 1) k (by omega) (by omega)
      rw [show ((i : Int) + 1) = ((i + 1 : Nat) : Int) by omega]
      exact this
    · rw [if_neg (by omega)]
theorem sameT_f (l : List ByteArray) (hl : l.length ≤ 1000000) : eponymlaw02_SameTexts.f (l.length + 1) l l = some true := by
  unfold eponymlaw02_SameTexts.f
  rw [if_pos rfl]
  have := sameT_l l hl l.length 0 0 (by omega) (by omega)
  rw [show 0 + l.length + 1 = l.length + 1 by omega] at this
  exact this

theorem splt_len (s : ByteArray) (c : Int) : ∀ (k fr : Nat) (acc : List ByteArray), (splt s c k fr acc).1.length ≤ acc.length + k
  | 0, _, acc => by simp [splt]
  | k + 1, fr, acc => by
    unfold splt
    split
    · simp
    · split
      · have := splt_len s c k (nb s c (s.size - fr) fr + 1) (acc ++ [strOfNums (ue (s.extract fr (nb s c (s.size - fr) fr))).1])
        simp at this ⊢; omega
      · simp
theorem spl_len (s : ByteArray) (c : Int) : (spl s c).1.length ≤ s.size + 1 := by
  unfold spl
  split
  · simp
  · have := splt_len s c (s.size + 1) 0 []
    simpa using this
end Go.Proofs.YtkaepipnbgdoeaaDoor
