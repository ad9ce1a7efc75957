/- What the claim uses of the text CJsonreadBack. -/
import Derived.Test.YtpdpgppaoipnlaaDoorUB3
import Derived.Test.YtpdpgppaoipnlaaDoorULift
import Derived.Test.YtpdpgppaoipnlaaDoorUQ1
import Derived.Test.YtpdpgppaoipnlaaDoorCards
import Derived.Test.YtpdpgppaoipnlaaDoorTie
import Derived.SevenTiedAt
set_option linter.unusedVariables false
set_option linter.unusedSimpArgs false
namespace Go.Proofs.YtpdpgppaoipnlaaDoor
open Go.ChangeShapes Go.WideShapes Go.ChangeAt Go.RowKit Go.WideMaps Go.WideElems
open Go.ChangeMaps (setBlock shut_map_nil open_string shut_string keptBut_setBlock frozen?_setBlock heap_setBlock_same)

set_option maxRecDepth 100000 in
def laidAll : List (String × DataW Unit) := [("errors.errorType", Rows.laid_errors_errorType), ("eponym/api.ErrByte", Rows.laid_eponym_api_ErrByte), ("eponym/api.ErrEnd", Rows.laid_eponym_api_ErrEnd), ("eponym/api.ErrLong", Rows.laid_eponym_api_ErrLong), ("eponym/api.ErrRange", Rows.laid_eponym_api_ErrRange), ("eponym/api.ErrForm", Rows.laid_eponym_api_ErrForm), ("eponym/api.ErrOrder", Rows.laid_eponym_api_ErrOrder), ("eponym/api.ErrThere", Rows.laid_eponym_api_ErrThere), ("eponym/api.ErrNone", Rows.laid_eponym_api_ErrNone), ("eponym/api.ErrDeep", Rows.laid_eponym_api_ErrDeep), ("eponym/api.ErrClass", Rows.laid_eponym_api_ErrClass), ("eponym/api.ErrContext", Rows.laid_eponym_api_ErrContext), ("eponym/api.ErrBidi", Rows.laid_eponym_api_ErrBidi), ("eponym/api.ErrHyphen", Rows.laid_eponym_api_ErrHyphen), ("eponym/api.ErrNorm", Rows.laid_eponym_api_ErrNorm), ("eponym/api.ErrPuny", Rows.laid_eponym_api_ErrPuny), ("eponym/api.ErrEmpty", Rows.laid_eponym_api_ErrEmpty), ("eponym/api.ErrKind", Rows.laid_eponym_api_ErrKind), ("eponym/api.ErrFull", Rows.laid_eponym_api_ErrFull)]
def laidNon : List (String × DataW Unit) := [("eponym/api.ErrByte", Rows.laid_eponym_api_ErrByte), ("eponym/api.ErrEnd", Rows.laid_eponym_api_ErrEnd), ("eponym/api.ErrLong", Rows.laid_eponym_api_ErrLong), ("eponym/api.ErrRange", Rows.laid_eponym_api_ErrRange), ("eponym/api.ErrForm", Rows.laid_eponym_api_ErrForm), ("eponym/api.ErrOrder", Rows.laid_eponym_api_ErrOrder), ("eponym/api.ErrThere", Rows.laid_eponym_api_ErrThere), ("eponym/api.ErrNone", Rows.laid_eponym_api_ErrNone), ("eponym/api.ErrDeep", Rows.laid_eponym_api_ErrDeep), ("eponym/api.ErrClass", Rows.laid_eponym_api_ErrClass), ("eponym/api.ErrContext", Rows.laid_eponym_api_ErrContext), ("eponym/api.ErrBidi", Rows.laid_eponym_api_ErrBidi), ("eponym/api.ErrHyphen", Rows.laid_eponym_api_ErrHyphen), ("eponym/api.ErrNorm", Rows.laid_eponym_api_ErrNorm), ("eponym/api.ErrPuny", Rows.laid_eponym_api_ErrPuny), ("eponym/api.ErrEmpty", Rows.laid_eponym_api_ErrEmpty), ("eponym/api.ErrKind", Rows.laid_eponym_api_ErrKind), ("eponym/api.ErrFull", Rows.laid_eponym_api_ErrFull)]
theorem laid_parts (W : World) : laidMetH Tryd.prog laidAll W = (laidMet Tryd.prog laidNon W ∧ handlesMet Tryd.prog [("errors.errorType", Rows.laid_errors_errorType)] W) := by kernel_rfl
theorem sents_of_laid {W : World} (h : laidMetH Tryd.prog laidAll W) : ∃ E, AllE E ∧ Sents E W := by
  rw [laid_parts] at h
  obtain ⟨h0, hh⟩ := h
  have het := et_of_laid rfl hh
  obtain ⟨⟨a1, c1⟩, h1⟩ := sent_head h0 (g := 1) (by kernel_rfl) (by kernel_rfl)
  obtain ⟨⟨a2, c2⟩, h2⟩ := sent_head h1 (g := 4) (by kernel_rfl) (by kernel_rfl)
  obtain ⟨⟨a3, c3⟩, h3⟩ := sent_head h2 (g := 0) (by kernel_rfl) (by kernel_rfl)
  obtain ⟨⟨a4, c4⟩, h4⟩ := sent_head h3 (g := 2) (by kernel_rfl) (by kernel_rfl)
  obtain ⟨⟨a5, c5⟩, h5⟩ := sent_head h4 (g := 5) (by kernel_rfl) (by kernel_rfl)
  obtain ⟨⟨a6, c6⟩, h6⟩ := sent_head h5 (g := 6) (by kernel_rfl) (by kernel_rfl)
  obtain ⟨⟨a7, c7⟩, h7⟩ := sent_head h6 (g := 7) (by kernel_rfl) (by kernel_rfl)
  obtain ⟨⟨a8, c8⟩, h8⟩ := sent_head h7 (g := 8) (by kernel_rfl) (by kernel_rfl)
  obtain ⟨⟨a9, c9⟩, h9⟩ := sent_head h8 (g := 9) (by kernel_rfl) (by kernel_rfl)
  obtain ⟨⟨a10, c10⟩, h10⟩ := sent_head h9 (g := 10) (by kernel_rfl) (by kernel_rfl)
  obtain ⟨⟨a11, c11⟩, h11⟩ := sent_head h10 (g := 11) (by kernel_rfl) (by kernel_rfl)
  obtain ⟨⟨a12, c12⟩, h12⟩ := sent_head h11 (g := 12) (by kernel_rfl) (by kernel_rfl)
  obtain ⟨⟨a13, c13⟩, h13⟩ := sent_head h12 (g := 13) (by kernel_rfl) (by kernel_rfl)
  obtain ⟨⟨a14, c14⟩, h14⟩ := sent_head h13 (g := 14) (by kernel_rfl) (by kernel_rfl)
  obtain ⟨⟨a15, c15⟩, h15⟩ := sent_head h14 (g := 15) (by kernel_rfl) (by kernel_rfl)
  obtain ⟨⟨a16, c16⟩, h16⟩ := sent_head h15 (g := 16) (by kernel_rfl) (by kernel_rfl)
  obtain ⟨⟨a17, c17⟩, h17⟩ := sent_head h16 (g := 17) (by kernel_rfl) (by kernel_rfl)
  obtain ⟨⟨a18, c18⟩, h18⟩ := sent_head h17 (g := 18) (by kernel_rfl) (by kernel_rfl)
  exact ⟨fun k => ([⟨1, 1, none⟩, a1, a2, a3, a4, a5, a6, a7, a8, a9, a10, a11, a12, a13, a14, a15, a16, a17, a18] : List Addr).getD k ⟨0, 0, none⟩, ⟨rfl⟩, ⟨het, c1, c2, fun _ => c3, c4, c5, fun _ => c6, c7, fun _ => c8, c9, fun _ => c10, fun _ => c11, fun _ => c12, fun _ => c13, fun _ => c14, fun _ => c15, fun _ => c16, c17, fun _ => c18⟩⟩
/-- The door's own heap meets the condition. -/
theorem door_met (os : Os) (args : Array Value) : laidMetH Tryd.prog laidAll ((World.doorLaid Tryd.prog 400 os).forCall (fun _ _ => 0) ⟨#[], args, []⟩).memory :=
  laidMetH_of_parts3 (fuel := 8) (laidMet_of_run' 8 (by kernel_rfl) (by kernel_rfl)) (by kernel_rfl) (by kernel_rfl)

set_option maxRecDepth 100000 in
theorem jsonreadBack_lifted (os : Os) (started : os.Started) (H : Type) (enc : TypeId × Value → H) :
    ReturnsInHanded {} Tryd.checked os 11 .any (fun w args => (Rows.jsonreadBackSpec.pre enc Tryd.prog Tryd.f11 [] false w args ∧ laidMetH Tryd.prog laidAll w) ∧ sizedMet enc Tryd.prog Tryd.f11 (OpenSpec.ofChange Rows.jsonreadBackSpec) false w args)
      (Rows.jsonreadBackSpec.post enc Tryd.prog Tryd.f11 false true false false) := by
  refine returnsInHanded_of_change_and (C := Tryd.checked) (X := fun w _ => laidMetH Tryd.prog laidAll w) (fun _ _ _ hh h => h.of_heap hh) own started (by kernel_rfl) Tryd.func11
    (ChangeSpec.witness_shaped (enc := enc) (C := Tryd.checked) (os := os) (X := fun w _ => laidMetH Tryd.prog laidAll w) false (World.doorLaid Tryd.prog 400 os) #[.agg #[.int .i64 0, .string ByteArray.empty, .slice none 0 0, .slice none 0 0], .slice none 0 0] 8 rfl (World.shaped_of_RefB (by kernel_rfl) (by kernel_rfl)) (by kernel_rfl) (by kernel_rfl) (by kernel_rfl) (door_met os _)) ?_
  intro W base args ds gs before hval0 hW _ hsz0 hL _
  have hsz : (DataW.weightsEach Tryd.prog (Tryd.f11.params.toList ++ Rows.jsonreadBackSpec.plain.varTypes Tryd.prog) (ds ++ gs)).all (· ≤ reachBytes) = true := hsz0
  have hval : ∀ (j : Nat) t v, Tryd.f11.params[j]? = some t → args[j]? = some v → Value.okWide Tryd.prog W .any base t v := hval0
  have hW' := hW
  obtain ⟨p, q, hA0, hV, rfl, hfz, hnd⟩ := hW
  have hA : DataW.TrodAll enc Tryd.prog W 0 (fun _ => true) true Tryd.f11.params.toList args.toList ds p := hA0
  rw [Tryd.params11] at hA hval
  obtain ⟨v0, v1, d0, d1, p0, p1, rfl, rfl, rfl, h0, h1⟩ := trodAll_two hA
  obtain ⟨rfl, rfl⟩ := trodVars_none hV
  have k0 := h0
  have k1 := h1
  have hlt : ∀ x ∈ p0 ++ p1, x.block < W.heap.size := fun x hx => hW'.lt x (by simpa using hx)
  obtain ⟨n0, s0, cs0, rfl, hk0, hz0⟩ := open_value (j := 0) (hval 0 26 v0 rfl rfl) h0 hsz rfl rfl
  obtain ⟨A1, c1, s1, rfl, hc1, hC1, hwf1⟩ := open_Cints Tryd.underlying65 Tryd.underlying5 (by kernel_rfl) (hval 1 65 v1 rfl rfl) h1
  obtain ⟨E, hE, hS⟩ := sents_of_laid hL
  clear hA0 hval0
  simp only [List.append_nil] at hW'
  refine (jsonreadBack_walk n0 s0 cs0 A1 c1 s1 W hS hk0 hz0 hC1 hc1 (fun x hx => bounds_u8 (hwf1 x hx))).mono fun e W' ⟨he, hb⟩ => ?_
  subst he
  refine ⟨_, rfl, _, _, _, [], p0 ++ p1, [], hW', ?_, ?_, ?_, hb.frame _, fun h => by cases h⟩
  · exact trodAll_mk1 (shut_bool Tryd.underlying4 true)
  · first | exact trodAll_mk2 (Below.trod laidOut (by kernel_rfl) (of_decide_eq_true (by kernel_rfl)) k0 hb (fun x hx => hlt x (by simp [hx]))) (Below.trod laidOut (by kernel_rfl) (of_decide_eq_true (by kernel_rfl)) k1 hb (fun x hx => hlt x (by simp [hx]))) | (rw [List.append_assoc]; exact trodAll_mk2 (Below.trod laidOut (by kernel_rfl) (of_decide_eq_true (by kernel_rfl)) k0 hb (fun x hx => hlt x (by simp [hx]))) (Below.trod laidOut (by kernel_rfl) (of_decide_eq_true (by kernel_rfl)) k1 hb (fun x hx => hlt x (by simp [hx]))))
  · rfl

theorem jsonreadBack_holds : Rows.JsonreadBackSaid :=
  OpenClaim.holds_of_wide 11 Tryd.f11 rfl rfl rfl rfl rfl rfl rfl ⟨rfl, rfl, rfl, rfl, rfl⟩ rfl rfl rfl rfl rfl (by kernel_rfl) Tryd.func11 (by kernel_rfl)
    (of_decide_eq_true (by kernel_rfl)) (by unfold Func.isWrapper; first | (rw [if_pos (by decide +kernel)]; kernel_rfl) | (rw [if_neg (by decide +kernel)]; exact ⟨rfl, rfl⟩))
    (fun os started H enc _ => jsonreadBack_lifted os started H enc)

theorem jsonreadBack_card_holds : Rows.JsonreadBackCardSaid :=
  Claim7.holds_tied_plain_at .later [] _ true _ true
    jsonreadBack_holds (fun _ h => by cases h) (by kernel_rfl) (fun _ h => by cases h) jsonreadBack_row_tie rfl ⟨rfl, rfl⟩ (by kernel_rfl) rfl
    (fun f fn hf hfn => by
      obtain rfl : f = 11 := Option.some.inj ((show Tryd.prog.funcNamed "eponym/eponymlaw13.JsonreadBack" = some 11 by kernel_rfl).symm.trans hf) |>.symm
      obtain rfl : fn = Tryd.f11 := (Option.some.inj (Tryd.func11.symm.trans hfn)).symm
      exact ⟨by kernel_rfl, fun j t ht => by
        rw [Tryd.params11] at ht
        have hm : t ∈ [26, 65] := by simpa using Array.mem_of_getElem? ht
        have hall : ([26, 65].all fun u => !Tryd.prog.wantsStandIn u) = true := by kernel_rfl
        exact (show Tryd.prog.wantsStandIn t = false by simpa using List.all_eq_true.1 hall t hm)⟩)
    (by kernel_rfl)
end Go.Proofs.YtpdpgppaoipnlaaDoor

