/- BuildEnds: for every input the statement's Go function returns true, and its arguments read as they did; the listed package-level variables hold what the program's text lays. -/
import Derived.Test.YtangheahliekeaaGreatDoorVLL
import Derived.Test.YtangheahliekeaaGreatDoorCards
import Derived.Test.YtangheahliekeaaGreatDoorTie
import Derived.SevenTiedAt
import Derived.Lay
set_option linter.unusedVariables false
set_option linter.unusedSimpArgs false
namespace Go.Proofs.YtangheahliekeaaGreatDoor
open Go.ChangeShapes Go.WideShapes Go.ChangeAt Go.RowKit Go.WideMaps Go.WideElems
open Go.ChangeMaps (setBlock shut_map_nil open_string shut_string keptBut_setBlock frozen?_setBlock heap_setBlock_same)

set_option maxRecDepth 100000 in
def laidAll : List (String × DataW Unit) := [("math/bits.deBruijn32tab", Rows.laid_math_bits_deBruijn32tab), ("math/bits.deBruijn64tab", Rows.laid_math_bits_deBruijn64tab), ("internal/strconv.uint64pow10", Rows.laid_internal_strconv_uint64pow10), ("unicode/utf8.acceptRanges", Rows.laid_unicode_utf8_acceptRanges), ("errors.errorType", Rows.laid_errors_errorType), ("eponym/api.ErrByte", Rows.laid_eponym_api_ErrByte), ("eponym/api.ErrEnd", Rows.laid_eponym_api_ErrEnd), ("eponym/api.ErrLong", Rows.laid_eponym_api_ErrLong), ("eponym/api.ErrRange", Rows.laid_eponym_api_ErrRange), ("eponym/api.ErrForm", Rows.laid_eponym_api_ErrForm), ("eponym/api.ErrClass", Rows.laid_eponym_api_ErrClass), ("eponym/api.ErrContext", Rows.laid_eponym_api_ErrContext), ("eponym/api.ErrBidi", Rows.laid_eponym_api_ErrBidi), ("eponym/api.ErrHyphen", Rows.laid_eponym_api_ErrHyphen), ("eponym/api.ErrNorm", Rows.laid_eponym_api_ErrNorm), ("eponym/api.ErrPuny", Rows.laid_eponym_api_ErrPuny), ("eponym/api.ErrEmpty", Rows.laid_eponym_api_ErrEmpty), ("eponym/api.ErrKind", Rows.laid_eponym_api_ErrKind), ("unicode/utf8.first", Rows.laid_unicode_utf8_first)]
def laidNon : List (String × DataW Unit) := [("math/bits.deBruijn32tab", Rows.laid_math_bits_deBruijn32tab), ("math/bits.deBruijn64tab", Rows.laid_math_bits_deBruijn64tab), ("internal/strconv.uint64pow10", Rows.laid_internal_strconv_uint64pow10), ("unicode/utf8.acceptRanges", Rows.laid_unicode_utf8_acceptRanges), ("eponym/api.ErrByte", Rows.laid_eponym_api_ErrByte), ("eponym/api.ErrEnd", Rows.laid_eponym_api_ErrEnd), ("eponym/api.ErrLong", Rows.laid_eponym_api_ErrLong), ("eponym/api.ErrRange", Rows.laid_eponym_api_ErrRange), ("eponym/api.ErrForm", Rows.laid_eponym_api_ErrForm), ("eponym/api.ErrClass", Rows.laid_eponym_api_ErrClass), ("eponym/api.ErrContext", Rows.laid_eponym_api_ErrContext), ("eponym/api.ErrBidi", Rows.laid_eponym_api_ErrBidi), ("eponym/api.ErrHyphen", Rows.laid_eponym_api_ErrHyphen), ("eponym/api.ErrNorm", Rows.laid_eponym_api_ErrNorm), ("eponym/api.ErrPuny", Rows.laid_eponym_api_ErrPuny), ("eponym/api.ErrEmpty", Rows.laid_eponym_api_ErrEmpty), ("eponym/api.ErrKind", Rows.laid_eponym_api_ErrKind), ("unicode/utf8.first", Rows.laid_unicode_utf8_first)]
theorem laid_parts (W : World) : laidMetH Tryz.prog laidAll W = (laidMet Tryz.prog laidNon W ∧ handlesMet Tryz.prog [("errors.errorType", Rows.laid_errors_errorType)] W) := by kernel_rfl
def db64 : List Int := [0, 1, 56, 2, 57, 49, 28, 3, 61, 58, 42, 50, 38, 29, 17, 4, 62, 47, 59, 36, 45, 43, 51, 22, 53, 39, 33, 30, 24, 18, 12, 5, 63, 55, 48, 27, 60, 41, 37, 16, 46, 35, 44, 21, 52, 32, 23, 11, 54, 26, 40, 15, 34, 20, 31, 10, 25, 14, 19, 9, 13, 8, 7, 6]
theorem ges_of_laid {W : World} (h : laidMetH Tryz.prog laidAll W) : ∃ E, Ges E W ∧ Caps W := by
  rw [laid_parts] at h
  obtain ⟨h0, hh⟩ := h
  have h1 := h0.tail
  have htz : Lib.TabIs Tryz.prog W "math/bits.deBruijn64tab" .u8 db64 := Lib.tabIs_of_head (g := 19) (t := 322) (e := 5) (n := 64) (by kernel_rfl) (by kernel_rfl) (by kernel_rfl) (by kernel_rfl) (by kernel_rfl) (by kernel_rfl) (show laidMet Tryz.prog (("math/bits.deBruijn64tab", Lib.tabData .u8 db64) :: _) W from h1)
  have h2 := h1.tail
  have htab : Lib.TabIs Tryz.prog W "internal/strconv.uint64pow10" .u64 Lib.pow10Tab := Lib.tabIs_of_head (g := 13) (t := 249) (e := 138) (n := 20) (by kernel_rfl) (by kernel_rfl) (by kernel_rfl) (by kernel_rfl) (by kernel_rfl) (by kernel_rfl) (show laidMet Tryz.prog (("internal/strconv.uint64pow10", Lib.tabData .u64 Lib.pow10Tab) :: _) W from h2)
  have h3 := h2.tail
  have h4 := h3.tail
  have h5 := h4.tail
  have h6 := h5.tail
  have h7 := h6.tail
  obtain ⟨⟨a4, c4⟩, h8⟩ := sent_head h7 (g := 1) (by kernel_rfl) (by kernel_rfl)
  obtain ⟨⟨a5, c5⟩, h9⟩ := sent_head h8 (g := 0) (by kernel_rfl) (by kernel_rfl)
  have h10 := h9.tail
  have h11 := h10.tail
  have h12 := h11.tail
  have h13 := h12.tail
  have h14 := h13.tail
  have h15 := h14.tail
  have h16 := h15.tail
  obtain ⟨⟨a17, c17⟩, h17⟩ := sent_head h16 (g := 2) (by kernel_rfl) (by kernel_rfl)
  have h18 := h17.tail
  have ht := Lib.TabIs.cell htz (show Tryz.prog.globalNamed "math/bits.deBruijn64tab" = some 19 by kernel_rfl) 15 (by decide)
  exact ⟨fun k => if k = 4 then a4 else if k = 5 then a5 else a17, ⟨c4, c5, c17⟩, ⟨htab, ht⟩⟩
/-- All the listed variables, but the handle, laid over the door's heap. -/
noncomputable def startW (os : Os) : World := (World.doorLaid Tryz.prog 400 os).layVars Tryz.prog laidNon
theorem laidMet_over {P : Program} {w0 : World} {laid : List (String × DataW Unit)} (args : Array Value)
    (hf : w0.layFits P laid [] = true) (hi : w0.layIfaces P laid (w0.layVars P laid) = true) :
    laidMet P laid ((w0.layVars P laid).forCall (fun _ _ => 0) ⟨#[], args, []⟩).memory := by
  have e1 : (laid.filter fun x => (laid.map (·.1)).contains x.1) = laid := List.filter_eq_self.2 fun x hx => List.contains_iff_mem.2 (List.mem_map.2 ⟨x, hx, rfl⟩)
  have e2 : (laid.filter fun x => !(laid.map (·.1)).contains x.1) = [] := List.filter_eq_nil_iff.2 fun x hx => by rw [List.contains_iff_mem.2 (List.mem_map.2 ⟨x, hx, rfl⟩)]; simp
  have h : laidMet P laid (w0.layVars P laid) := laidMet_layVars (w0 := w0) (laid.map (·.1)) [] (by rw [e1]) (by rw [e1]; exact hf) (by rw [e1]; exact hi) (by rw [e2]; exact LaidIn.none)
  exact h.of_heap (by simp [World.memory, World.forCall, Input.heap])
theorem filter_non : (laidAll.filter fun x => x.2.handleName?.isNone) = laidNon := by kernel_rfl
/-- Such a heap meets the condition. -/
theorem door_met (os : Os) (args : Array Value) : laidMetH Tryz.prog laidAll ((startW os).forCall (fun _ _ => 0) ⟨#[], args, []⟩).memory :=
  laidMetH_of_parts3 (fuel := 8) (by rw [filter_non]; exact laidMet_over args (by kernel_rfl) (by kernel_rfl)) (by kernel_rfl) (by kernel_rfl)

set_option maxRecDepth 100000 in
theorem buildEnds_lifted (os : Os) (started : os.Started) (H : Type) (enc : TypeId × Value → H) :
    ReturnsInHanded {} Tryz.checked os 3 .any (fun w args => (Rows.buildEndsSpec.pre enc Tryz.prog Tryz.f3 [] false w args ∧ laidMetH Tryz.prog laidAll w) ∧ sizedMet enc Tryz.prog Tryz.f3 (OpenSpec.ofChange Rows.buildEndsSpec) false w args)
      (Rows.buildEndsSpec.post enc Tryz.prog Tryz.f3 false true false false) := by
  refine returnsInHanded_of_change_and (C := Tryz.checked) (X := fun w _ => laidMetH Tryz.prog laidAll w) (fun _ _ _ hh h => h.of_heap hh) own started (by kernel_rfl) Tryz.func3
    (ChangeSpec.witness_shaped (enc := enc) (C := Tryz.checked) (os := os) (X := fun w _ => laidMetH Tryz.prog laidAll w) false (startW os) #[.agg #[.bool false, .int .u8 0, .int .u8 0, .int .u8 0, .int .u8 0, .int .u8 0, .int .u8 0, .int .u8 0, .int .u8 0, .int .u8 0, .int .u8 0, .int .u8 0, .int .u8 0, .int .u8 0, .int .u8 0, .int .u8 0, .int .u8 0, .int .i64 0]] 8 (World.layVars_os _ _ _) (World.shaped_of_ZipB (by kernel_rfl) (by kernel_rfl)) (by kernel_rfl) (by kernel_rfl) (by kernel_rfl) (door_met os _)) ?_
  intro W base args ds gs before hval0 hW _ hsz0 hL _
  have hsz : (DataW.weightsEach Tryz.prog (Tryz.f3.params.toList ++ Rows.buildEndsSpec.plain.varTypes Tryz.prog) (ds ++ gs)).all (· ≤ reachBytes) = true := hsz0
  have hval : ∀ (j : Nat) t v, Tryz.f3.params[j]? = some t → args[j]? = some v → Value.okWide Tryz.prog W .any base t v := hval0
  have hW' := hW
  obtain ⟨p, q, hA0, hV, rfl, hfz, hnd⟩ := hW
  have hA : DataW.TrodAll enc Tryz.prog W 0 (fun _ => true) true Tryz.f3.params.toList args.toList ds p := hA0
  rw [Tryz.params3] at hA hval
  obtain ⟨v0, d0, rfl, rfl, h0⟩ := trodAll_one hA
  obtain ⟨rfl, rfl⟩ := trodVars_none hV
  have k0 := h0
  have hlt : ∀ x ∈ p, x.block < W.heap.size := fun x hx => hW'.lt x (by simpa using hx)
  obtain ⟨qq, rfl, hk0⟩ := open_prefix (hval 0 24 v0 rfl rfl) h0
  obtain ⟨E, hS, hT⟩ := ges_of_laid hL
  clear hA0 hval0
  simp only [List.append_nil] at hW'
  refine (buildEnds_walk qq W hS hT hk0).mono fun e W' ⟨he, hb⟩ => ?_
  subst he
  refine ⟨_, rfl, _, _, _, [], p, [], hW', ?_, ?_, ?_, hb.frame _, fun h => by cases h⟩
  · exact trodAll_mk1 (shut_bool Tryz.underlying4 true)
  · first | exact trodAll_mk1 (Below.trod laidOut (by kernel_rfl) (of_decide_eq_true (by kernel_rfl)) k0 hb (fun x hx => hlt x (by simp [hx]))) | (rw [List.append_assoc]; exact trodAll_mk1 (Below.trod laidOut (by kernel_rfl) (of_decide_eq_true (by kernel_rfl)) k0 hb (fun x hx => hlt x (by simp [hx]))))
  · rfl

theorem and_true' {a b : Bool} (ha : a = true) (hb : b = true) : (a && b) = true := by rw [ha, hb]; rfl
set_option maxRecDepth 100000 in
set_option maxHeartbeats 8000000 in
theorem buildEnds_closed : joinedFacts Tryz.checked.prog 3 Tryz.f3 Rows.buildEndsSpec Rows.buildEndsRow = true := by
  unfold joinedFacts
  (repeat' (with_reducible refine and_true' ?_ ?_)) <;> as_aux_lemma => kernel_rfl

theorem buildEnds_holds : Rows.BuildEndsSaid :=
  OpenClaim.holds_of_wide 3 Tryz.f3 rfl rfl rfl rfl rfl rfl rfl ⟨rfl, rfl, rfl, rfl, rfl⟩ rfl rfl rfl rfl rfl (by kernel_rfl) Tryz.func3 buildEnds_closed
    (of_decide_eq_true (by kernel_rfl)) (by unfold Func.isWrapper; first | (rw [if_pos (by decide +kernel)]; kernel_rfl) | (rw [if_neg (by decide +kernel)]; exact ⟨rfl, rfl⟩))
    (fun os started H enc _ => buildEnds_lifted os started H enc)

theorem buildEnds_card_holds : Rows.BuildEndsCardSaid :=
  Claim7.holds_tied_plain_at .later [] _ true _ true
    buildEnds_holds (fun _ h => by cases h) (by kernel_rfl) (fun _ h => by cases h) buildEnds_row_tie rfl ⟨rfl, rfl⟩ (by kernel_rfl) rfl
    (fun f fn hf hfn => by
      obtain rfl : f = 3 := Option.some.inj ((show Tryz.prog.funcNamed "eponym/eponymlaw28.BuildEnds" = some 3 by kernel_rfl).symm.trans hf) |>.symm
      obtain rfl : fn = Tryz.f3 := (Option.some.inj (Tryz.func3.symm.trans hfn)).symm
      exact ⟨by kernel_rfl, fun j t ht => by
        rw [Tryz.params3] at ht
        have hm : t ∈ [24] := by simpa using Array.mem_of_getElem? ht
        have hall : ([24].all fun u => !Tryz.prog.wantsStandIn u) = true := by kernel_rfl
        exact (show Tryz.prog.wantsStandIn t = false by simpa using List.all_eq_true.1 hall t hm)⟩)
    (by kernel_rfl)
end Go.Proofs.YtangheahliekeaaGreatDoor

