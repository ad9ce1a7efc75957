/- What the claim uses of the text CJsonvalMakes. -/
import Derived.Test.YtpdpgppaoipnlaaDoorUM4
import Derived.Test.YtpdpgppaoipnlaaDoorULift
import Derived.Test.YtpdpgppaoipnlaaDoorUQ1
import Derived.Test.YtpdpgppaoipnlaaDoorCards
import Derived.Test.YtpdpgppaoipnlaaDoorTie
import Derived.SevenTiedAt
set_option linter.unusedVariables false
set_option linter.unusedSimpArgs false
namespace Go.Proofs.YtpdpgppaoipnlaaDoor
open Go.ChangeShapes Go.WideShapes Go.ChangeAt Go.RowKit Go.WideMaps Go.WideElems
open Go.ChangeMaps (setBlock shut_map_nil open_string shut_string keptBut_setBlock frozen?_setBlock heap_setBlock_same)

set_option maxRecDepth 100000 in
def laidAll : List (String × DataW Unit) := [("math/bits.deBruijn32tab", Rows.laid_math_bits_deBruijn32tab), ("math/bits.deBruijn64tab", Rows.laid_math_bits_deBruijn64tab), ("internal/strconv.uint64pow10", Rows.laid_internal_strconv_uint64pow10), ("errors.errorType", Rows.laid_errors_errorType), ("eponym/api.ErrByte", Rows.laid_eponym_api_ErrByte), ("eponym/api.ErrEnd", Rows.laid_eponym_api_ErrEnd), ("eponym/api.ErrRange", Rows.laid_eponym_api_ErrRange), ("eponym/api.ErrForm", Rows.laid_eponym_api_ErrForm), ("eponym/api.ErrThere", Rows.laid_eponym_api_ErrThere), ("eponym/api.ErrDeep", Rows.laid_eponym_api_ErrDeep), ("eponym/api.ErrKind", Rows.laid_eponym_api_ErrKind)]
def laidNon : List (String × DataW Unit) := [("math/bits.deBruijn32tab", Rows.laid_math_bits_deBruijn32tab), ("math/bits.deBruijn64tab", Rows.laid_math_bits_deBruijn64tab), ("internal/strconv.uint64pow10", Rows.laid_internal_strconv_uint64pow10), ("eponym/api.ErrByte", Rows.laid_eponym_api_ErrByte), ("eponym/api.ErrEnd", Rows.laid_eponym_api_ErrEnd), ("eponym/api.ErrRange", Rows.laid_eponym_api_ErrRange), ("eponym/api.ErrForm", Rows.laid_eponym_api_ErrForm), ("eponym/api.ErrThere", Rows.laid_eponym_api_ErrThere), ("eponym/api.ErrDeep", Rows.laid_eponym_api_ErrDeep), ("eponym/api.ErrKind", Rows.laid_eponym_api_ErrKind)]
theorem laid_parts (W : World) : laidMetH Tryd.prog laidAll W = (laidMet Tryd.prog laidNon W ∧ handlesMet Tryd.prog [("errors.errorType", Rows.laid_errors_errorType)] W) := by kernel_rfl
theorem sents_of_laid {W : World} (h : laidMetH Tryd.prog laidAll W) : ∃ E, Sents E W ∧ Tab W := by
  rw [laid_parts] at h
  obtain ⟨h0, hh⟩ := h
  have het := et_of_laid rfl hh
  have h1 := h0.tail
  have h2 := h1.tail
  have htab : Tab W := Lib.tabIs_of_head (g := 20) (t := 172) (e := 163) (n := 20) (by kernel_rfl) (by kernel_rfl) (by kernel_rfl) (by kernel_rfl) (by kernel_rfl) (by kernel_rfl) (show laidMet Tryd.prog (("internal/strconv.uint64pow10", Lib.tabData .u64 Lib.pow10Tab) :: _) W from h2)
  have h3 := h2.tail
  obtain ⟨⟨a1, c1⟩, h4⟩ := sent_head h3 (g := 1) (by kernel_rfl) (by kernel_rfl)
  obtain ⟨⟨a2, c2⟩, h5⟩ := sent_head h4 (g := 4) (by kernel_rfl) (by kernel_rfl)
  obtain ⟨⟨a4, c4⟩, h6⟩ := sent_head h5 (g := 2) (by kernel_rfl) (by kernel_rfl)
  obtain ⟨⟨a5, c5⟩, h7⟩ := sent_head h6 (g := 5) (by kernel_rfl) (by kernel_rfl)
  obtain ⟨⟨a7, c7⟩, h8⟩ := sent_head h7 (g := 7) (by kernel_rfl) (by kernel_rfl)
  obtain ⟨⟨a9, c9⟩, h9⟩ := sent_head h8 (g := 9) (by kernel_rfl) (by kernel_rfl)
  obtain ⟨⟨a17, c17⟩, h10⟩ := sent_head h9 (g := 17) (by kernel_rfl) (by kernel_rfl)
  exact ⟨fun k => ([⟨0, 0, none⟩, a1, a2, ⟨0, 0, none⟩, a4, a5, ⟨0, 0, none⟩, a7, ⟨0, 0, none⟩, a9, ⟨0, 0, none⟩, ⟨0, 0, none⟩, ⟨0, 0, none⟩, ⟨0, 0, none⟩, ⟨0, 0, none⟩, ⟨0, 0, none⟩, ⟨0, 0, none⟩, a17, ⟨0, 0, none⟩] : List Addr).getD k ⟨0, 0, none⟩, ⟨het, c1, c2, fun h => absurd (congrArg Addr.block (show (⟨0, 0, none⟩ : Addr) = ⟨1, 1, none⟩ from h)) (by decide), c4, c5, fun h => absurd (congrArg Addr.block (show (⟨0, 0, none⟩ : Addr) = ⟨1, 1, none⟩ from h)) (by decide), c7, fun h => absurd (congrArg Addr.block (show (⟨0, 0, none⟩ : Addr) = ⟨1, 1, none⟩ from h)) (by decide), c9, fun h => absurd (congrArg Addr.block (show (⟨0, 0, none⟩ : Addr) = ⟨1, 1, none⟩ from h)) (by decide), fun h => absurd (congrArg Addr.block (show (⟨0, 0, none⟩ : Addr) = ⟨1, 1, none⟩ from h)) (by decide), fun h => absurd (congrArg Addr.block (show (⟨0, 0, none⟩ : Addr) = ⟨1, 1, none⟩ from h)) (by decide), fun h => absurd (congrArg Addr.block (show (⟨0, 0, none⟩ : Addr) = ⟨1, 1, none⟩ from h)) (by decide), fun h => absurd (congrArg Addr.block (show (⟨0, 0, none⟩ : Addr) = ⟨1, 1, none⟩ from h)) (by decide), fun h => absurd (congrArg Addr.block (show (⟨0, 0, none⟩ : Addr) = ⟨1, 1, none⟩ from h)) (by decide), fun h => absurd (congrArg Addr.block (show (⟨0, 0, none⟩ : Addr) = ⟨1, 1, none⟩ from h)) (by decide), c17, fun h => absurd (congrArg Addr.block (show (⟨0, 0, none⟩ : Addr) = ⟨1, 1, none⟩ from h)) (by decide)⟩, htab⟩
/-- The door's own heap meets the condition. -/
theorem door_met (os : Os) (args : Array Value) : laidMetH Tryd.prog laidAll ((World.doorLaid Tryd.prog 400 os).forCall (fun _ _ => 0) ⟨#[], args, []⟩).memory :=
  laidMetH_of_parts3 (fuel := 8) (laidMet_of_run' 8 (by kernel_rfl) (by kernel_rfl)) (by kernel_rfl) (by kernel_rfl)

set_option maxRecDepth 100000 in
theorem jsonvalMakes_lifted (os : Os) (started : os.Started) (H : Type) (enc : TypeId × Value → H) :
    ReturnsInHanded {} Tryd.checked os 6 .any (fun w args => (Rows.jsonvalMakesSpec.pre enc Tryd.prog Tryd.f6 [] false w args ∧ laidMetH Tryd.prog laidAll w) ∧ sizedMet enc Tryd.prog Tryd.f6 (OpenSpec.ofChange Rows.jsonvalMakesSpec) false w args)
      (Rows.jsonvalMakesSpec.post enc Tryd.prog Tryd.f6 false true false false) := by
  refine returnsInHanded_of_change_and (C := Tryd.checked) (X := fun w _ => laidMetH Tryd.prog laidAll w) (fun _ _ _ hh h => h.of_heap hh) own started (by kernel_rfl) Tryd.func6
    (ChangeSpec.witness_shaped (enc := enc) (C := Tryd.checked) (os := os) (X := fun w _ => laidMetH Tryd.prog laidAll w) false (World.doorLaid Tryd.prog 400 os) #[.string ByteArray.empty, .int .i64 0, .slice none 0 0] 8 rfl (World.shaped_of_RefB (by kernel_rfl) (by kernel_rfl)) (by kernel_rfl) (by kernel_rfl) (by kernel_rfl) (door_met os _)) ?_
  intro W base args ds gs before hval0 hW _ hsz0 hL _
  have hsz : (DataW.weightsEach Tryd.prog (Tryd.f6.params.toList ++ Rows.jsonvalMakesSpec.plain.varTypes Tryd.prog) (ds ++ gs)).all (· ≤ reachBytes) = true := hsz0
  have hval : ∀ (j : Nat) t v, Tryd.f6.params[j]? = some t → args[j]? = some v → Value.okWide Tryd.prog W .any base t v := hval0
  have hW' := hW
  obtain ⟨p, q, hA0, hV, rfl, hfz, hnd⟩ := hW
  have hA : DataW.TrodAll enc Tryd.prog W 0 (fun _ => true) true Tryd.f6.params.toList args.toList ds p := hA0
  rw [Tryd.params6] at hA hval
  obtain ⟨v0, v1, v2, d0, d1, d2, p0, p1, p2, rfl, rfl, rfl, h0, h1, h2⟩ := trodAll_three hA
  obtain ⟨rfl, rfl⟩ := trodVars_none hV
  have k0 := h0
  have k1 := h1
  have k2 := h2
  have hlt : ∀ x ∈ p0 ++ p1 ++ p2, x.block < W.heap.size := fun x hx => hW'.lt x (by simpa using hx)
  obtain ⟨s0, rfl, rfl, rfl, hs0⟩ := open_string Tryd.underlying9 (hval 0 9 v0 rfl rfl) h0
  obtain ⟨s1, rfl, rfl, rfl, hs1⟩ := open_int Tryd.underlying3 (hval 1 3 v1 rfl rfl) h1
  obtain ⟨n2, A2, c2, s2, rfl, hc2, ha2, hC2, hz2⟩ := open_values2 (j := 2) (hval 2 23 v2 rfl rfl) h2 hsz rfl rfl
  obtain ⟨E, hS, hT⟩ := sents_of_laid hL
  clear hA0 hval0
  simp only [List.append_nil] at hW'
  refine (jsonvalMakes_walk s0 s1 n2 A2 c2 s2 W hS hT (bounds_i64 hs1).1 (bounds_i64 hs1).2 hC2 hc2 ha2 hz2).mono fun e W' ⟨he, hb⟩ => ?_
  subst he
  refine ⟨_, rfl, _, _, _, [], [] ++ [] ++ p2, [], hW', ?_, ?_, ?_, hb.frame _, fun h => by cases h⟩
  · exact trodAll_mk1 (shut_bool Tryd.underlying4 true)
  · exact trodAll_mk3 (Below.trod laidOut (by kernel_rfl) (of_decide_eq_true (by kernel_rfl)) k0 hb (fun x hx => absurd hx (by simp))) (Below.trod laidOut (by kernel_rfl) (of_decide_eq_true (by kernel_rfl)) k1 hb (fun x hx => absurd hx (by simp))) (Below.trod laidOut (by kernel_rfl) (of_decide_eq_true (by kernel_rfl)) k2 hb (fun x hx => hlt x (by simp [hx])))
  · rfl

theorem jsonvalMakes_holds : Rows.JsonvalMakesSaid :=
  OpenClaim.holds_of_wide 6 Tryd.f6 rfl rfl rfl rfl rfl rfl rfl ⟨rfl, rfl, rfl, rfl, rfl⟩ rfl rfl rfl rfl rfl (by kernel_rfl) Tryd.func6 (by kernel_rfl)
    (of_decide_eq_true (by kernel_rfl)) (by unfold Func.isWrapper; first | (rw [if_pos (by decide +kernel)]; kernel_rfl) | (rw [if_neg (by decide +kernel)]; exact ⟨rfl, rfl⟩))
    (fun os started H enc _ => jsonvalMakes_lifted os started H enc)

theorem jsonvalMakes_card_holds : Rows.JsonvalMakesCardSaid :=
  Claim7.holds_tied_plain_at .later [] _ true _ true
    jsonvalMakes_holds (fun _ h => by cases h) (by kernel_rfl) (fun _ h => by cases h) jsonvalMakes_row_tie rfl ⟨rfl, rfl⟩ (by kernel_rfl) rfl
    (fun f fn hf hfn => by
      obtain rfl : f = 6 := Option.some.inj ((show Tryd.prog.funcNamed "eponym/eponymlaw12.JsonvalMakes" = some 6 by kernel_rfl).symm.trans hf) |>.symm
      obtain rfl : fn = Tryd.f6 := (Option.some.inj (Tryd.func6.symm.trans hfn)).symm
      exact ⟨by kernel_rfl, fun j t ht => by
        rw [Tryd.params6] at ht
        have hm : t ∈ [9, 3, 23] := by simpa using Array.mem_of_getElem? ht
        have hall : ([9, 3, 23].all fun u => !Tryd.prog.wantsStandIn u) = true := by kernel_rfl
        exact (show Tryd.prog.wantsStandIn t = false by simpa using List.all_eq_true.1 hall t hm)⟩)
    (by kernel_rfl)
end Go.Proofs.YtpdpgppaoipnlaaDoor

