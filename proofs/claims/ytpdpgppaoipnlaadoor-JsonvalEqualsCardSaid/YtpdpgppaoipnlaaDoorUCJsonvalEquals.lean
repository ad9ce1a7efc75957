/- What the claim uses of the text CJsonvalEquals. -/
import Derived.Test.YtpdpgppaoipnlaaDoorUE4
import Derived.Test.YtpdpgppaoipnlaaDoorULift
import Derived.Test.YtpdpgppaoipnlaaDoorUQ1
import Derived.Test.YtpdpgppaoipnlaaDoorCards
import Derived.Test.YtpdpgppaoipnlaaDoorTie
import Derived.SevenTiedAt
set_option linter.unusedVariables false
set_option linter.unusedSimpArgs false
namespace Go.Proofs.YtpdpgppaoipnlaaDoor
open Go.ChangeShapes Go.WideShapes Go.ChangeAt Go.RowKit Go.WideMaps Go.WideElems
open Go.ChangeMaps (setBlock shut_map_nil open_string shut_string keptBut_setBlock frozen?_setBlock heap_setBlock_same)

set_option maxRecDepth 100000 in
def laidAll : List (String × DataW Unit) := [("math/bits.deBruijn32tab", Rows.laid_math_bits_deBruijn32tab), ("math/bits.deBruijn64tab", Rows.laid_math_bits_deBruijn64tab), ("internal/strconv.uint64pow10", Rows.laid_internal_strconv_uint64pow10), ("errors.errorType", Rows.laid_errors_errorType), ("eponym/api.ErrByte", Rows.laid_eponym_api_ErrByte), ("eponym/api.ErrEnd", Rows.laid_eponym_api_ErrEnd), ("eponym/api.ErrRange", Rows.laid_eponym_api_ErrRange), ("eponym/api.ErrForm", Rows.laid_eponym_api_ErrForm), ("eponym/api.ErrThere", Rows.laid_eponym_api_ErrThere), ("eponym/api.ErrDeep", Rows.laid_eponym_api_ErrDeep), ("eponym/api.ErrKind", Rows.laid_eponym_api_ErrKind)]
def laidNon : List (String × DataW Unit) := [("math/bits.deBruijn32tab", Rows.laid_math_bits_deBruijn32tab), ("math/bits.deBruijn64tab", Rows.laid_math_bits_deBruijn64tab), ("internal/strconv.uint64pow10", Rows.laid_internal_strconv_uint64pow10), ("eponym/api.ErrByte", Rows.laid_eponym_api_ErrByte), ("eponym/api.ErrEnd", Rows.laid_eponym_api_ErrEnd), ("eponym/api.ErrRange", Rows.laid_eponym_api_ErrRange), ("eponym/api.ErrForm", Rows.laid_eponym_api_ErrForm), ("eponym/api.ErrThere", Rows.laid_eponym_api_ErrThere), ("eponym/api.ErrDeep", Rows.laid_eponym_api_ErrDeep), ("eponym/api.ErrKind", Rows.laid_eponym_api_ErrKind)]
theorem laid_parts (W : World) : laidMetH Tryd.prog laidAll W = (laidMet Tryd.prog laidNon W ∧ handlesMet Tryd.prog [("errors.errorType", Rows.laid_errors_errorType)] W) := by kernel_rfl
theorem sents_of_laid {W : World} (h : laidMetH Tryd.prog laidAll W) : ∃ E, Sents E W := by
  rw [laid_parts] at h
  obtain ⟨h0, hh⟩ := h
  have het := et_of_laid rfl hh
  have h1 := h0.tail
  have h2 := h1.tail
  have h3 := h2.tail
  obtain ⟨⟨a1, c1⟩, h4⟩ := sent_head h3 (g := 1) (by kernel_rfl) (by kernel_rfl)
  obtain ⟨⟨a2, c2⟩, h5⟩ := sent_head h4 (g := 4) (by kernel_rfl) (by kernel_rfl)
  obtain ⟨⟨a4, c4⟩, h6⟩ := sent_head h5 (g := 2) (by kernel_rfl) (by kernel_rfl)
  obtain ⟨⟨a5, c5⟩, h7⟩ := sent_head h6 (g := 5) (by kernel_rfl) (by kernel_rfl)
  obtain ⟨⟨a7, c7⟩, h8⟩ := sent_head h7 (g := 7) (by kernel_rfl) (by kernel_rfl)
  obtain ⟨⟨a9, c9⟩, h9⟩ := sent_head h8 (g := 9) (by kernel_rfl) (by kernel_rfl)
  obtain ⟨⟨a17, c17⟩, h10⟩ := sent_head h9 (g := 17) (by kernel_rfl) (by kernel_rfl)
  exact ⟨fun k => ([⟨0, 0, none⟩, a1, a2, ⟨0, 0, none⟩, a4, a5, ⟨0, 0, none⟩, a7, ⟨0, 0, none⟩, a9, ⟨0, 0, none⟩, ⟨0, 0, none⟩, ⟨0, 0, none⟩, ⟨0, 0, none⟩, ⟨0, 0, none⟩, ⟨0, 0, none⟩, ⟨0, 0, none⟩, a17, ⟨0, 0, none⟩] : List Addr).getD k ⟨0, 0, none⟩, ⟨het, c1, c2, fun h => absurd (congrArg Addr.block (show (⟨0, 0, none⟩ : Addr) = ⟨1, 1, none⟩ from h)) (by decide), c4, c5, fun h => absurd (congrArg Addr.block (show (⟨0, 0, none⟩ : Addr) = ⟨1, 1, none⟩ from h)) (by decide), c7, fun h => absurd (congrArg Addr.block (show (⟨0, 0, none⟩ : Addr) = ⟨1, 1, none⟩ from h)) (by decide), c9, fun h => absurd (congrArg Addr.block (show (⟨0, 0, none⟩ : Addr) = ⟨1, 1, none⟩ from h)) (by decide), fun h => absurd (congrArg Addr.block (show (⟨0, 0, none⟩ : Addr) = ⟨1, 1, none⟩ from h)) (by decide), fun h => absurd (congrArg Addr.block (show (⟨0, 0, none⟩ : Addr) = ⟨1, 1, none⟩ from h)) (by decide), fun h => absurd (congrArg Addr.block (show (⟨0, 0, none⟩ : Addr) = ⟨1, 1, none⟩ from h)) (by decide), fun h => absurd (congrArg Addr.block (show (⟨0, 0, none⟩ : Addr) = ⟨1, 1, none⟩ from h)) (by decide), fun h => absurd (congrArg Addr.block (show (⟨0, 0, none⟩ : Addr) = ⟨1, 1, none⟩ from h)) (by decide), fun h => absurd (congrArg Addr.block (show (⟨0, 0, none⟩ : Addr) = ⟨1, 1, none⟩ from h)) (by decide), c17, fun h => absurd (congrArg Addr.block (show (⟨0, 0, none⟩ : Addr) = ⟨1, 1, none⟩ from h)) (by decide)⟩⟩
/-- The door's own heap meets the condition. -/
theorem door_met (os : Os) (args : Array Value) : laidMetH Tryd.prog laidAll ((World.doorLaid Tryd.prog 400 os).forCall (fun _ _ => 0) ⟨#[], args, []⟩).memory :=
  laidMetH_of_parts3 (fuel := 8) (laidMet_of_run' 8 (by kernel_rfl) (by kernel_rfl)) (by kernel_rfl) (by kernel_rfl)

set_option maxRecDepth 100000 in
theorem jsonvalEquals_lifted (os : Os) (started : os.Started) (H : Type) (enc : TypeId × Value → H) :
    ReturnsInHanded {} Tryd.checked os 8 .any (fun w args => (Rows.jsonvalEqualsSpec.pre enc Tryd.prog Tryd.f8 [] false w args ∧ laidMetH Tryd.prog laidAll w) ∧ sizedMet enc Tryd.prog Tryd.f8 (OpenSpec.ofChange Rows.jsonvalEqualsSpec) false w args)
      (Rows.jsonvalEqualsSpec.post enc Tryd.prog Tryd.f8 false true false false) := by
  refine returnsInHanded_of_change_and (C := Tryd.checked) (X := fun w _ => laidMetH Tryd.prog laidAll w) (fun _ _ _ hh h => h.of_heap hh) own started (by kernel_rfl) Tryd.func8
    (ChangeSpec.witness_shaped (enc := enc) (C := Tryd.checked) (os := os) (X := fun w _ => laidMetH Tryd.prog laidAll w) false (World.doorLaid Tryd.prog 400 os) #[.agg #[.int .i64 0, .string ByteArray.empty, .slice none 0 0, .slice none 0 0], .agg #[.int .i64 0, .string ByteArray.empty, .slice none 0 0, .slice none 0 0], .string ByteArray.empty] 8 rfl (World.shaped_of_RefB (by kernel_rfl) (by kernel_rfl)) (by kernel_rfl) (by kernel_rfl) (by kernel_rfl) (door_met os _)) ?_
  intro W base args ds gs before hval0 hW _ hsz0 hL _
  have hsz : (DataW.weightsEach Tryd.prog (Tryd.f8.params.toList ++ Rows.jsonvalEqualsSpec.plain.varTypes Tryd.prog) (ds ++ gs)).all (· ≤ reachBytes) = true := hsz0
  have hval : ∀ (j : Nat) t v, Tryd.f8.params[j]? = some t → args[j]? = some v → Value.okWide Tryd.prog W .any base t v := hval0
  have hW' := hW
  obtain ⟨p, q, hA0, hV, rfl, hfz, hnd⟩ := hW
  have hA : DataW.TrodAll enc Tryd.prog W 0 (fun _ => true) true Tryd.f8.params.toList args.toList ds p := hA0
  rw [Tryd.params8] at hA hval
  obtain ⟨v0, v1, v2, d0, d1, d2, p0, p1, p2, rfl, rfl, rfl, h0, h1, h2⟩ := trodAll_three hA
  obtain ⟨rfl, rfl⟩ := trodVars_none hV
  have k0 := h0
  have k1 := h1
  have k2 := h2
  have hlt : ∀ x ∈ p0 ++ p1 ++ p2, x.block < W.heap.size := fun x hx => hW'.lt x (by simpa using hx)
  obtain ⟨n0, s0, cs0, rfl, hk0, hz0⟩ := open_value (j := 0) (hval 0 26 v0 rfl rfl) h0 hsz rfl rfl
  obtain ⟨n1, s1, cs1, rfl, hk1, hz1⟩ := open_value (j := 1) (hval 1 26 v1 rfl rfl) h1 hsz rfl rfl
  obtain ⟨s2, rfl, rfl, rfl, hs2⟩ := open_string Tryd.underlying9 (hval 2 9 v2 rfl rfl) h2
  obtain ⟨E, hS⟩ := sents_of_laid hL
  clear hA0 hval0
  simp only [List.append_nil] at hW'
  refine (jsonvalEquals_walk n0 s0 cs0 n1 s1 cs1 s2 W hS hk0 hz0 hk1 hz1).mono fun e W' ⟨he, hb⟩ => ?_
  subst he
  refine ⟨_, rfl, _, _, _, [], p0 ++ p1 ++ [], [], hW', ?_, ?_, ?_, hb.frame _, fun h => by cases h⟩
  · exact trodAll_mk1 (shut_bool Tryd.underlying4 true)
  · first | exact trodAll_mk3 (Below.trod laidOut (by kernel_rfl) (of_decide_eq_true (by kernel_rfl)) k0 hb (fun x hx => hlt x (by simp [hx]))) (Below.trod laidOut (by kernel_rfl) (of_decide_eq_true (by kernel_rfl)) k1 hb (fun x hx => hlt x (by simp [hx]))) (Below.trod laidOut (by kernel_rfl) (of_decide_eq_true (by kernel_rfl)) k2 hb (fun x hx => absurd hx (by simp))) | (rw [List.append_assoc]; exact trodAll_mk3 (Below.trod laidOut (by kernel_rfl) (of_decide_eq_true (by kernel_rfl)) k0 hb (fun x hx => hlt x (by simp [hx]))) (Below.trod laidOut (by kernel_rfl) (of_decide_eq_true (by kernel_rfl)) k1 hb (fun x hx => hlt x (by simp [hx]))) (Below.trod laidOut (by kernel_rfl) (of_decide_eq_true (by kernel_rfl)) k2 hb (fun x hx => absurd hx (by simp))))
  · rfl

theorem jsonvalEquals_holds : Rows.JsonvalEqualsSaid :=
  OpenClaim.holds_of_wide 8 Tryd.f8 rfl rfl rfl rfl rfl rfl rfl ⟨rfl, rfl, rfl, rfl, rfl⟩ rfl rfl rfl rfl rfl (by kernel_rfl) Tryd.func8 (by kernel_rfl)
    (of_decide_eq_true (by kernel_rfl)) (by unfold Func.isWrapper; first | (rw [if_pos (by decide +kernel)]; kernel_rfl) | (rw [if_neg (by decide +kernel)]; exact ⟨rfl, rfl⟩))
    (fun os started H enc _ => jsonvalEquals_lifted os started H enc)

theorem jsonvalEquals_card_holds : Rows.JsonvalEqualsCardSaid :=
  Claim7.holds_tied_plain_at .later [] _ true _ true
    jsonvalEquals_holds (fun _ h => by cases h) (by kernel_rfl) (fun _ h => by cases h) jsonvalEquals_row_tie rfl ⟨rfl, rfl⟩ (by kernel_rfl) rfl
    (fun f fn hf hfn => by
      obtain rfl : f = 8 := Option.some.inj ((show Tryd.prog.funcNamed "eponym/eponymlaw12.JsonvalEquals" = some 8 by kernel_rfl).symm.trans hf) |>.symm
      obtain rfl : fn = Tryd.f8 := (Option.some.inj (Tryd.func8.symm.trans hfn)).symm
      exact ⟨by kernel_rfl, fun j t ht => by
        rw [Tryd.params8] at ht
        have hm : t ∈ [26, 26, 9] := by simpa using Array.mem_of_getElem? ht
        have hall : ([26, 26, 9].all fun u => !Tryd.prog.wantsStandIn u) = true := by kernel_rfl
        exact (show Tryd.prog.wantsStandIn t = false by simpa using List.all_eq_true.1 hall t hm)⟩)
    (by kernel_rfl)
end Go.Proofs.YtpdpgppaoipnlaaDoor

