/- utf.Next by its contracts. -/
import Derived.Test.YtfcfehiijainpaaDoorUtfN
namespace Go.Proofs.YtfcfehiijainpaaDoor
open Go.RowKit Go.PlainAid
set_option linter.unusedVariables false
set_option linter.unusedSimpArgs false

theorem utf_Next_any {E : Nat → Addr} (s : ByteArray) (at_ : Int) (w : World) (hl : s.size ≤ 140737488351232) (hs : Sents E w) :
    Calls Tryd.prog 16 #[.string s, .int .i64 at_] w (NextIs E s at_ w) := by
  by_cases h : at_ < 0 ∨ s.size ≤ at_
  · exact utf_Next_out s at_ w hl hs h
  · have h0 := bt_nonneg s at_.toNat
    have h1 := bt_le s at_.toNat
    by_cases a : 245 ≤ bt s at_.toNat
    · exact utf_Next_n s at_ w hl hs (by omega) (by omega) 0 128 191 (by unfold utfFirst; rw [if_pos a]) (by omega) (by omega)
    · by_cases b : 240 ≤ bt s at_.toNat
      · exact utf_Next_3 s at_ w hl hs (by omega) (by omega) (bt s at_.toNat % 8) _ _ (by unfold utfFirst; rw [if_neg a, if_pos b]) (by omega) (by omega)
      · by_cases c : 224 ≤ bt s at_.toNat
        · exact utf_Next_2 s at_ w hl hs (by omega) (by omega) (bt s at_.toNat % 16) _ _ (by unfold utfFirst; rw [if_neg a, if_neg b, if_pos c]) (by omega) (by omega)
        · by_cases d : 194 ≤ bt s at_.toNat
          · exact utf_Next_1 s at_ w hl hs (by omega) (by omega) (bt s at_.toNat % 32) 128 191 (by unfold utfFirst; rw [if_neg a, if_neg b, if_neg c, if_pos d]) (by omega) (by omega)
          · by_cases e : 128 ≤ bt s at_.toNat
            · exact utf_Next_n s at_ w hl hs (by omega) (by omega) 0 128 191 (by unfold utfFirst; rw [if_neg a, if_neg b, if_neg c, if_neg d, if_pos e]) (by omega) (by omega)
            · exact utf_Next_0 s at_ w hl hs (by omega) (by omega) (bt s at_.toNat) 128 191 (by unfold utfFirst; rw [if_neg a, if_neg b, if_neg c, if_neg d, if_neg e]) (by omega) (by omega)

theorem utf_Next_ok {E : Nat → Addr} (s : ByteArray) (at_ r n : Int) (w : World) (hl : s.size ≤ 140737488351232) (hs : Sents E w) (hn : nx s at_ = (r, n, 0)) :
    Calls Tryd.prog 16 #[.string s, .int .i64 at_] w fun e w' => e = .returned (.tuple #[.int .i32 r, .int .i64 n, .nilIface]) ∧ Below w.heap.size w w' := by
  refine (utf_Next_any s at_ w hl hs).mono ?_
  rintro e w' ⟨v, he, hv, hb⟩
  rw [hn] at he hv
  rcases hv with ⟨_, rfl⟩ | ⟨h, _⟩
  · exact ⟨he, hb⟩
  · simp at h
theorem utf_Next_bad {E : Nat → Addr} (s : ByteArray) (at_ r n c : Int) (w : World) (hl : s.size ≤ 140737488351232) (hs : Sents E w) (hn : nx s at_ = (r, n, c)) (hc : c ≠ 0) :
    Calls Tryd.prog 16 #[.string s, .int .i64 at_] w fun e w' => ∃ p, e = .returned (.tuple #[.int .i32 r, .int .i64 n, .iface 69 (.pointer (some p))]) ∧ Hid (ErrV E w' (.iface 69 (.pointer (some p))) at_ c) ∧ Below w.heap.size w w' := by
  refine (utf_Next_any s at_ w hl hs).mono ?_
  rintro e w' ⟨v, he, hv, hb⟩
  rw [hn] at he hv
  have hv' := hv
  rcases hv with ⟨h, _⟩ | ⟨_, _, b, rfl, _⟩
  · exact absurd h hc
  · exact ⟨_, he, hv', hb⟩

end Go.Proofs.YtfcfehiijainpaaDoor
