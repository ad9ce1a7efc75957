/- The statement UtfNext's walk. -/
import Derived.Test.YtfcfehiijainpaaDoorUtfE
namespace Go.Proofs.YtfcfehiijainpaaDoor
open Go.RowKit Go.Proofs.YtfcfehiijainpaaDoorW.PrintWords Go.Proofs.YtfcfehiijainpaaDoorW.PrintMore PAll
set_option linter.unusedVariables false
set_option linter.unusedSimpArgs false

theorem utf_Next_at {E : Nat → Addr} (s : ByteArray) (at_ r n c : Int) (w : World) (hl : s.size ≤ 140737488351232) (hs : Sents E w) (hn : nx s at_ = (r, n, c)) :
    Calls Tryd.prog 16 #[.string s, .int .i64 at_] w fun e w' => ∃ v, e = .returned (.tuple #[.int .i32 r, .int .i64 n, v]) ∧ Hid (ErrV E w' v at_ c) ∧ Below w.heap.size w w' := by
  refine (utf_Next_any s at_ w hl hs).mono ?_
  rintro e w' ⟨v, he, hv, hb⟩
  rw [hn] at he hv
  exact ⟨v, he, hv, hb⟩

set_option maxHeartbeats 2000000 in
theorem utfNext_walk {E : Nat → Addr} (s : ByteArray) (at_ : Int) (w : World) (hs : Sents E w) :
    Calls Tryd.prog 3 #[.string s, .int .i64 at_] w fun e w' => e = .returned (.bool true) ∧ Below w.heap.size w w' := by
  by_cases hbig : 60 < s.size
  · go_enter Tryd.func3, Tryd.ntmps3
    go_wp2_with fail
    refine (awake01 _ hs).mono ?_
    rintro e w1 ⟨rfl, hb⟩
    go_wp2_with fail
    go_ret
    exact ⟨rfl, hb⟩
  · rcases hn : nx s at_ with ⟨r, n, c⟩
    have HN := Lib.hid hn
    by_cases hin : at_ < 0 ∨ s.size ≤ at_
    · obtain ⟨rfl, rfl, rfl⟩ : r = 0 ∧ n = 0 ∧ c = 4 := by
        unfold nx at hn; rw [if_pos hin] at hn; simpa using hn.symm
      clear hn
      go_enter Tryd.func3, Tryd.ntmps3
      go_wp2_with fail
      refine (awake01 _ hs).mono ?_
      rintro e w1 ⟨rfl, hb⟩
      go_wp2_with fail
      refine (utf_Next_at s at_ 0 0 4 _ (by omega) (hs.below hb) HN.out).mono ?_
      rintro e w2 ⟨v, rfl, hE, hb2⟩
      have hB := Lib.hid (below_step hb hb2)
      clear hb hb2
      go_wp2_with fail
      all_goals
        refine (is_any _ at_ 4 _ (hs.below hB.out) hE.out).mono ?_
        rintro e w3 ⟨rfl, hb3⟩
        go_wp2
        go_ret
        exact ⟨rfl, below_step hB.out hb3⟩
    · have HR := Lib.hid (ref_next s at_ (by omega) (by omega) (by omega) 0)
      rw [hn] at HR
      clear hn
      go_enter Tryd.func3, Tryd.ntmps3
      go_wp2_with fail
      refine (awake01 _ hs).mono ?_
      rintro e w1 ⟨rfl, hb⟩
      go_wp2_with fail
      refine (utf_Next_at s at_ r n c _ (by omega) (hs.below hb) HN.out).mono ?_
      rintro e w2 ⟨v, rfl, hE, hb2⟩
      have hB := Lib.hid (below_step hb hb2)
      clear hb hb2
      go_wp2_with fail
      refine (eponymref01_Next.calls _ s at_ r n c _ HR.out).mono ?_
      rintro e w3 ⟨rfl, hb3⟩
      have hE3 := Lib.hid (hE.out.below hb3)
      have hB3 := Lib.hid (below_step hB.out hb3)
      clear hb3 hE hB
      go_wp2_with fail
      refine (is_any _ at_ c _ (hs.below hB3.out) hE3.out).mono ?_
      rintro e w4 ⟨rfl, hb4⟩
      go_wp2
      go_ret
      exact ⟨rfl, below_step hB3.out hb4⟩
end Go.Proofs.YtfcfehiijainpaaDoor
