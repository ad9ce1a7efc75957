/- pct.Text by its contract. -/
import Derived.Test.YtkaepipnbgdoeaaDoorPctM
set_option linter.unusedVariables false
set_option linter.unusedSimpArgs false
namespace Go.Proofs.YtkaepipnbgdoeaaDoor
open Go.RowKit Go.Proofs.YtkaepipnbgdoeaaDoorW.PrintWords Go.Proofs.YtkaepipnbgdoeaaDoorW.PrintMore

theorem uesc_len (s : ByteArray) : ∀ (k : Nat) (at_ : Int) (bs ps : List Int), bs.length = ps.length → (uesc s k at_ bs ps).1.length = (uesc s k at_ bs ps).2.1.length ∧ (uesc s k at_ bs ps).1.length ≤ bs.length + k
  | 0, _, _, _, h => by simp [uesc, h]
  | k + 1, at_, bs, ps, h => by
    unfold uesc
    split
    · simp [h]
    · split
      · have := uesc_len s k (at_ + 1) (bs ++ [PlainAid.bt s at_.toNat]) (ps ++ [at_]) (by simp [h])
        simp at this ⊢; omega
      · split
        · simp
        · split
          · simp
          · have := uesc_len s k (at_ + 3) (bs ++ [16 * hexd (PlainAid.bt s (at_ + 1).toNat) + hexd (PlainAid.bt s (at_ + 2).toNat)]) (ps ++ [at_]) (by simp [h])
            simp at this ⊢; omega
theorem ue_len (s : ByteArray) : (ue s).1.length = (ue s).2.1.length ∧ (ue s).1.length ≤ s.size := by
  have := uesc_len s s.size 0 [] [] rfl
  simpa [ue] using this
theorem dcd_at (s : ByteArray) : ∀ (k : Nat) (at_ : Int) (acc : List Int), 0 ≤ at_ → (dcd s k at_ acc).2.2 ≠ 0 → 0 ≤ (dcd s k at_ acc).2.1 ∧ (dcd s k at_ acc).2.1 < s.size
  | 0, _, _, _, h => absurd rfl h
  | k + 1, at_, acc, h0, h => by
    unfold dcd at h ⊢
    split
    · rename_i c; rw [if_pos c] at h; exact absurd rfl h
    · rename_i c; rw [if_neg c] at h
      split
      · rename_i c2; rw [if_pos c2] at h
        have := nx_good s at_ (nx s at_).1 (nx s at_).2.1 (Prod.ext rfl (Prod.ext rfl c2))
        exact dcd_at s k _ _ (by omega) h
      · exact ⟨h0, by show at_ < _; omega⟩
theorem dec_at (s : ByteArray) (h : (dec s).2.2 ≠ 0) : 0 ≤ (dec s).2.1 ∧ (dec s).2.1 < s.size := dcd_at s _ _ _ (Int.le_refl _) h

/-- The runes that a text stands for; or the place and the number of what is wrong. -/
def tx (s : ByteArray) : List Int × Int × Int :=
  if (ue s).2.2.2 = 0 then (if (dec (strOfNums (ue s).1)).2.2 = 0 then dec (strOfNums (ue s).1) else ([], (ue s).2.1.getD (dec (strOfNums (ue s).1)).2.1.toNat 0, (dec (strOfNums (ue s).1)).2.2))
  else ([], (ue s).2.2.1, (ue s).2.2.2)

def TxIs (E : Nat → Addr) (s : ByteArray) (w : World) (e : Ending) (w' : World) : Prop :=
  ∃ A c ev, e = .returned (.tuple #[.slice A (tx s).1.length c, ev]) ∧ (tx s).1.length ≤ c ∧ (Kd.int .i32).C w' A (tx s).1.length (tx s).1 ∧ ErrV E w' ev (tx s).2.1 (tx s).2.2 ∧ Below w.heap.size w w'

set_option maxHeartbeats 1000000 in
theorem pct_Text_any {E : Nat → Addr} (s : ByteArray) (w : World) (hl : s.size ≤ 100000) (hs : Sents E w) :
    Calls Tryd.prog 30 #[.string s] w (TxIs E s w) := by
  obtain ⟨bs, ps, at_, n, HU⟩ : ∃ bs ps at_ n, Hid (ue s = (bs, ps, at_, n)) := ⟨_, _, _, _, rfl⟩
  obtain ⟨hlen, hbl⟩ := ue_len s
  rw [HU.out] at hlen hbl
  simp only at hlen hbl
  by_cases hn : n = 0
  · subst hn
    obtain ⟨l, at2, n2, HD⟩ : ∃ l at2 n2, Hid (dec (strOfNums bs) = (l, at2, n2)) := ⟨_, _, _, rfl⟩
    have hsz : (strOfNums bs).size ≤ 1000000 := by rw [strOfNums_size]; omega
    by_cases hn2 : n2 = 0
    · have hat := dec_ok (strOfNums bs) (by rw [HD.out]; exact hn2)
      rw [HD.out] at hat
      simp only at hat
      subst hn2; subst hat
      have HT : Hid (tx s = (l, 0, 0)) := by show _ = _; unfold tx; rw [HU.out]; simp only [if_true]; rw [HD.out]; simp
      go_enter Tryd.func30, Tryd.ntmps30
      go_wp2_with fail
      refine (pct_Unescape_at s bs ps at_ 0 _ (by omega) hs HU.out).mono ?_
      rintro e w1 ⟨v, rfl, hE, hb⟩
      obtain rfl : v = .nilIface := by
        rcases hE.out with ⟨_, h⟩ | ⟨h, _⟩
        · exact h
        · omega
      clear hE
      go_wp2_with fail
      refine (utf_Decode_ok (strOfNums bs) l _ hsz (hs.below hb) HD.out).mono ?_
      rintro e w2 ⟨A, c, rfl, hc, hC, hb2⟩
      have HC : Hid (l.length ≤ c ∧ (Kd.int .i32).C w2 A l.length l ∧ Below w.heap.size w w2) := ⟨hc.out, hC.out, below_step hb hb2⟩
      clear hc hC hb hb2 hlen
      go_wp2
      go_ret2
      exact ⟨A, c, .nilIface, by rw [HT.out]; rfl, by rw [HT.out]; exact HC.out.1, by rw [HT.out]; exact HC.out.2.1, by rw [HT.out]; exact .inl ⟨rfl, rfl⟩, HC.out.2.2⟩
    · have hat := dec_at (strOfNums bs) (by rw [HD.out]; exact hn2)
      rw [HD.out, strOfNums_size] at hat
      simp only at hat
      obtain ⟨i, rfl⟩ := Int.eq_ofNat_of_zero_le hat.1
      have hi : i < ps.length := by omega
      obtain ⟨x, HX⟩ : ∃ x, Hid (ps.getD i 0 = x) := ⟨_, rfl⟩
      have HT : Hid (tx s = ([], x, n2)) := by show _ = _; unfold tx; rw [HU.out]; simp only [if_true]; rw [HD.out]; simp only [if_neg hn2, Int.toNat_natCast]; rw [HX.out]
      have HN2 := Lib.hid hn2
      clear hat hn2
      go_enter Tryd.func30, Tryd.ntmps30
      go_wp2_with fail
      refine (pct_Unescape_at s bs ps at_ 0 _ (by omega) hs HU.out).mono ?_
      rintro e w1 ⟨v, rfl, hE, hb⟩
      obtain rfl : v = .nilIface := by
        rcases hE.out with ⟨_, h⟩ | ⟨h, _⟩
        · exact h
        · omega
      clear hE
      go_wp2_with fail
      refine (utf_Decode_bad (strOfNums bs) l i n2 _ hsz (hs.below hb) HD.out HN2.out).mono ?_
      rintro e w2 ⟨A, c, p, rfl, hc, hC, hE, hb2⟩
      have HB2 := Lib.hid (below_step hb hb2)
      clear hc hC hb hb2 hlen
      go_wp2_with fail
      refine (pct_Places_at s bs ps at_ 0 _ (by omega) (hs.below HB2.out) HU.out).mono ?_
      rintro e w3 ⟨A3, c3, rfl, hC3, hb3⟩
      have HB3 := Lib.hid (below_step HB2.out hb3)
      have hE3 := Lib.hid (hE.out.below hb3)
      obtain ⟨b, hpb, h4, h5, n1, n3⟩ : ∃ b, p = ⟨b, 0, none⟩ ∧ w3.cell? ⟨b, 0, none⟩ = some (.int .i64 i) ∧ w3.cell? ⟨b, 1, none⟩ = some (.iface 126 (.pointer (some (E n2.toNat)))) ∧ 1 ≤ n2 ∧ n2 ≤ 18 := by
        rcases hE3.out with ⟨h, _⟩ | ⟨g1, g2, b, h, h4, h5⟩
        · exact absurd h HN2.out
        · injection h with _ h
          injection h with h
          injection h with h
          exact ⟨b, h, h4, h5, g1, g2⟩
      subst hpb
      have hal : Below w3.heap.size w3 (w3.alloc (.cells #[.slice A3 ps.length c3] 35)) := (Below.refl _ _).alloc (Nat.le_refl _) _
      have hmv := moved_Text (E := E) b w3.heap.size i A3 c3 ps n2 (w3.alloc (.cells #[.slice A3 ps.length c3] 35)) (hs.below (below_step HB3.out hal)) n1 n3 (cell_below hal h4) (cell_below hal h5) (by simp) (Kd.C_below hC3.out hal) hi x HX
      have HMV := Lib.hid hmv
      have HBA := Lib.hid (below_step HB3.out hal)
      clear hmv h4 h5 hE hE3 hb3 hC3 hal
      go_wp2_with fail
      refine HMV.out.mono ?_
      rintro e w4 ⟨p, rfl, hE4, hb4⟩
      go_wp2
      go_ret2
      exact ⟨none, 0, _, by rw [HT.out]; rfl, by rw [HT.out]; exact Nat.le_refl _, by rw [HT.out]; exact ⟨rfl, by simp, fun h => by simp at h⟩, by rw [HT.out]; exact hE4.out, below_step HBA.out hb4⟩
  · have HT : Hid (tx s = ([], at_, n)) := by show _ = _; unfold tx; rw [HU.out]; simp only [if_neg hn]
    have HN := Lib.hid hn
    clear hn hlen
    go_enter Tryd.func30, Tryd.ntmps30
    go_wp2_with fail
    refine (pct_Unescape_at s bs ps at_ n _ (by omega) hs HU.out).mono ?_
    rintro e w1 ⟨v, rfl, hE, hb⟩
    obtain ⟨p, rfl⟩ : ∃ p, v = .iface 65 (.pointer (some p)) := by
      rcases hE.out with ⟨h, _⟩ | ⟨_, _, b, h, _⟩
      · exact absurd h HN.out
      · exact ⟨_, h⟩
    go_wp2
    go_ret2
    exact ⟨none, 0, _, by rw [HT.out]; rfl, by rw [HT.out]; exact Nat.le_refl _, by rw [HT.out]; exact ⟨rfl, by simp, fun h => by simp at h⟩, by rw [HT.out]; exact hE.out, hb⟩
end Go.Proofs.YtkaepipnbgdoeaaDoor
