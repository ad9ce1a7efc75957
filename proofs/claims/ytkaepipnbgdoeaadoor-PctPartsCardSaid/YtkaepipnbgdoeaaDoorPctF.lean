/- The awake of layer 2's statements; the statement PctUnescapes' walk. -/
import Derived.Test.YtkaepipnbgdoeaaDoorPct
import Derived.Test.YtkaepipnbgdoeaaDoorRef
import Derived.Test.YtkaepipnbgdoeaaDoorUtfLaw
set_option linter.unusedVariables false
set_option linter.unusedSimpArgs false
namespace Go.Proofs.YtkaepipnbgdoeaaDoor
open Go.RowKit Go.Proofs.YtkaepipnbgdoeaaDoorW.PrintWords Go.Proofs.YtkaepipnbgdoeaaDoorW.PrintMore PAll

theorem pct_Unescape_at {E : Nat → Addr} (s : ByteArray) (bs ps : List Int) (at_ n : Int) (w : World) (hl : s.size ≤ 1000000) (hs : Sents E w) (hu : ue s = (bs, ps, at_, n)) :
    Calls Tryd.prog 21 #[.string s] w fun e w' => ∃ v, e = .returned (.tuple #[.string (strOfNums bs), v]) ∧ Hid (ErrV E w' v at_ n) ∧ Below w.heap.size w w' := by
  refine (pct_Unescape_any s w hl hs).mono ?_
  rintro e w' ⟨v, he, hv, hb⟩
  rw [hu] at he hv
  exact ⟨v, he, hv, hb⟩
theorem pct_Places_at {E : Nat → Addr} (s : ByteArray) (bs ps : List Int) (at_ n : Int) (w : World) (hl : s.size ≤ 1000000) (hs : Sents E w) (hu : ue s = (bs, ps, at_, n)) :
    Calls Tryd.prog 22 #[.string s] w fun e w' => ∃ A c, e = .returned (.slice A ps.length c) ∧ Hid ((Kd.int .i64).C w' A ps.length ps) ∧ Below w.heap.size w w' := by
  refine (pct_Places_any s w hl hs).mono ?_
  rintro e w' ⟨v, he, hv, hb⟩
  rw [hu] at hv
  obtain ⟨A, c, rfl, hc, hC⟩ := Kd.R_reads hv
  exact ⟨A, c, he, hC, hb⟩
theorem ref_Unescape_at (s : ByteArray) (bs ps : List Int) (at_ n : Int) (w : World) (hl : s.size ≤ 1000000) (hu : ue s = (bs, ps, at_, n)) :
    Calls Tryd.prog 16 #[.string s] w fun e w' => ∃ A c, e = .returned (.agg #[.string (strOfNums bs), .slice A ps.length c, .int .i64 at_, .int .i64 n]) ∧ Hid ((Kd.int .i64).C w' A ps.length ps) ∧ Below w.heap.size w w' := by
  have h := ref_unescape s hl
  rw [hu] at h
  refine (eponymref02_Unescape.calls _ s _ _ _ _ w h).mono ?_
  rintro e w' ⟨v, he, hv, hb⟩
  obtain ⟨A, c, rfl, hc, hC⟩ := Kd.R_reads hv
  exact ⟨A, c, he, hC, hb⟩

theorem ue_a : ue ⟨#[97, 37, 50, 70, 98]⟩ = ([97, 47, 98], [0, 1, 4], 0, 0) := by decide +kernel
theorem ue_b : ue ⟨#[37, 52]⟩ = ([], [], 0, 2) := by decide +kernel
theorem nums_a : strOfNums [97, 47, 98] = ⟨#[97, 47, 98]⟩ := by rfl

set_option maxHeartbeats 600000 in
theorem awake02 {E : Nat → Addr} (w : World) (hs : Sents E w) :
    Calls Tryd.prog 10 #[] w fun e w' => e = .returned (.bool true) ∧ Below w.heap.size w w' := by
  go_enter Tryd.func10, Tryd.ntmps10
  go_wp2_with fail
  refine (pct_Unescape_at ⟨#[97, 37, 50, 70, 98]⟩ [97, 47, 98] [0, 1, 4] 0 0 _ (by decide) hs ue_a).mono ?_
  rintro e w1 ⟨v, rfl, hE, hb⟩
  obtain rfl : v = .nilIface := by
    rcases hE.out with ⟨_, h⟩ | ⟨h, _⟩
    · exact h
    · omega
  rw [nums_a]
  clear hE
  go_wp2_with fail
  refine (pct_Unescape_at ⟨#[37, 52]⟩ [] [] 0 2 _ (by decide) (hs.below hb) ue_b).mono ?_
  rintro e w2 ⟨v, rfl, hE, hb2⟩
  have hB := Lib.hid (below_step hb hb2)
  clear hb hb2
  go_wp2_with fail
  refine (is_any _ 0 2 _ (hs.below hB.out) hE.out).mono ?_
  rintro e w3 ⟨rfl, hb3⟩
  go_wp2
  go_ret
  exact ⟨rfl, below_step hB.out hb3⟩

end Go.Proofs.YtkaepipnbgdoeaaDoor
