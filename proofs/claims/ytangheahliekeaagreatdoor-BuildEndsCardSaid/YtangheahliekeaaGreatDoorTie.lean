/-
  DERIVED. GIVEN WITH THE SEED: THE PROGRAM's TIES (one call each: nine closed facts by the kernel) AND EACH ROW's TIE, after the 31st guide's Derived/Test/Toyas{Tie, Card}.lean. No idea stands in it: it is a product of the set-up. Laid BY PROGRAM, IN A SANDBOX (cutbox-door.mjs). By AI agents, Wed Nov 11 2026. No macro, syntax, notation, axiom, sorry.
-/
import Derived.Test.YtangheahliekeaaGreatDoorRows
import Derived.LaidByTextLater
import Derived.SevenTiedAt
import Derived.LaidSub
import Derived.LaidOnce
namespace Go.Proofs.YtangheahliekeaaGreatDoor
open Go
set_option maxRecDepth 100000
theorem seatTie1 : Tryz.prog.laidByTextLater [("math/bits.deBruijn32tab", Rows.laid_math_bits_deBruijn32tab), ("math/bits.deBruijn64tab", Rows.laid_math_bits_deBruijn64tab), ("internal/strconv.uint64pow10", Rows.laid_internal_strconv_uint64pow10), ("unicode/utf8.acceptRanges", Rows.laid_unicode_utf8_acceptRanges), ("errors.errorType", Rows.laid_errors_errorType), ("eponym/api.ErrByte", Rows.laid_eponym_api_ErrByte), ("eponym/api.ErrEnd", Rows.laid_eponym_api_ErrEnd), ("eponym/api.ErrLong", Rows.laid_eponym_api_ErrLong), ("eponym/api.ErrRange", Rows.laid_eponym_api_ErrRange), ("eponym/api.ErrForm", Rows.laid_eponym_api_ErrForm), ("eponym/api.ErrClass", Rows.laid_eponym_api_ErrClass), ("eponym/api.ErrContext", Rows.laid_eponym_api_ErrContext), ("eponym/api.ErrBidi", Rows.laid_eponym_api_ErrBidi), ("eponym/api.ErrHyphen", Rows.laid_eponym_api_ErrHyphen), ("eponym/api.ErrNorm", Rows.laid_eponym_api_ErrNorm), ("eponym/api.ErrPuny", Rows.laid_eponym_api_ErrPuny), ("eponym/api.ErrEmpty", Rows.laid_eponym_api_ErrEmpty), ("eponym/api.ErrKind", Rows.laid_eponym_api_ErrKind)] [.data, .data, .data, .data, .handle, .sentinel, .sentinel, .sentinel, .sentinel, .sentinel, .sentinel, .sentinel, .sentinel, .sentinel, .sentinel, .sentinel, .sentinel, .sentinel] true :=
  Program.laidByTextLater_by_one 288 8 65 (by kernel_rfl) (by kernel_rfl) (by kernel_rfl) (by kernel_rfl) (by kernel_rfl) (by kernel_rfl) (fun _ _ => by kernel_rfl)
theorem pin_laid_unicode_utf8_first : Tryz.pinned.checked.prog.pinnedFits "unicode/utf8.first" = true := by kernel_rfl
theorem noOwnUnsafe : Tryz.pinned.checked.prog.headLifts.contains "ownunsafe" = false := by kernel_rfl
theorem fits1 : Tryz.pinned.checked.prog.listedFits [("math/bits.deBruijn32tab", Rows.laid_math_bits_deBruijn32tab), ("math/bits.deBruijn64tab", Rows.laid_math_bits_deBruijn64tab), ("internal/strconv.uint64pow10", Rows.laid_internal_strconv_uint64pow10), ("unicode/utf8.acceptRanges", Rows.laid_unicode_utf8_acceptRanges), ("errors.errorType", Rows.laid_errors_errorType), ("eponym/api.ErrByte", Rows.laid_eponym_api_ErrByte), ("eponym/api.ErrEnd", Rows.laid_eponym_api_ErrEnd), ("eponym/api.ErrLong", Rows.laid_eponym_api_ErrLong), ("eponym/api.ErrRange", Rows.laid_eponym_api_ErrRange), ("eponym/api.ErrForm", Rows.laid_eponym_api_ErrForm), ("eponym/api.ErrClass", Rows.laid_eponym_api_ErrClass), ("eponym/api.ErrContext", Rows.laid_eponym_api_ErrContext), ("eponym/api.ErrBidi", Rows.laid_eponym_api_ErrBidi), ("eponym/api.ErrHyphen", Rows.laid_eponym_api_ErrHyphen), ("eponym/api.ErrNorm", Rows.laid_eponym_api_ErrNorm), ("eponym/api.ErrPuny", Rows.laid_eponym_api_ErrPuny), ("eponym/api.ErrEmpty", Rows.laid_eponym_api_ErrEmpty), ("eponym/api.ErrKind", Rows.laid_eponym_api_ErrKind), ("unicode/utf8.first", Rows.laid_unicode_utf8_first)] = true := by
  unfold Program.listedFits
  rw [noOwnUnsafe]
  kernel_rfl
theorem tie : Tryz.prog.laidByTextLater [("math/bits.deBruijn32tab", Rows.laid_math_bits_deBruijn32tab), ("math/bits.deBruijn64tab", Rows.laid_math_bits_deBruijn64tab), ("internal/strconv.uint64pow10", Rows.laid_internal_strconv_uint64pow10), ("unicode/utf8.acceptRanges", Rows.laid_unicode_utf8_acceptRanges), ("errors.errorType", Rows.laid_errors_errorType), ("eponym/api.ErrByte", Rows.laid_eponym_api_ErrByte), ("eponym/api.ErrEnd", Rows.laid_eponym_api_ErrEnd), ("eponym/api.ErrLong", Rows.laid_eponym_api_ErrLong), ("eponym/api.ErrRange", Rows.laid_eponym_api_ErrRange), ("eponym/api.ErrForm", Rows.laid_eponym_api_ErrForm), ("eponym/api.ErrClass", Rows.laid_eponym_api_ErrClass), ("eponym/api.ErrContext", Rows.laid_eponym_api_ErrContext), ("eponym/api.ErrBidi", Rows.laid_eponym_api_ErrBidi), ("eponym/api.ErrHyphen", Rows.laid_eponym_api_ErrHyphen), ("eponym/api.ErrNorm", Rows.laid_eponym_api_ErrNorm), ("eponym/api.ErrPuny", Rows.laid_eponym_api_ErrPuny), ("eponym/api.ErrEmpty", Rows.laid_eponym_api_ErrEmpty), ("eponym/api.ErrKind", Rows.laid_eponym_api_ErrKind)] [.data, .data, .data, .data, .handle, .sentinel, .sentinel, .sentinel, .sentinel, .sentinel, .sentinel, .sentinel, .sentinel, .sentinel, .sentinel, .sentinel, .sentinel, .sentinel] true :=
  Program.laidByTextLater.sub seatTie1 ["math/bits.deBruijn32tab", "math/bits.deBruijn64tab", "internal/strconv.uint64pow10", "unicode/utf8.acceptRanges", "errors.errorType", "eponym/api.ErrByte", "eponym/api.ErrEnd", "eponym/api.ErrLong", "eponym/api.ErrRange", "eponym/api.ErrForm", "eponym/api.ErrClass", "eponym/api.ErrContext", "eponym/api.ErrBidi", "eponym/api.ErrHyphen", "eponym/api.ErrNorm", "eponym/api.ErrPuny", "eponym/api.ErrEmpty", "eponym/api.ErrKind"] (by kernel_rfl) (by kernel_rfl)
theorem buildEnds_row_tie : Rows.buildEndsRow.laidByTextAt .later Tryz.pinned [.data, .data, .data, .data, .handle, .sentinel, .sentinel, .sentinel, .sentinel, .sentinel, .sentinel, .sentinel, .sentinel, .sentinel, .sentinel, .sentinel, .sentinel, .sentinel, .pinned] true :=
  OpenClaim.laidByTextAt_pinned rfl rfl tie rfl rfl rfl rfl (fun y hy _e => by
    simp only [Rows.buildEndsRow, List.zip_cons_cons, List.zip_nil_right, List.mem_cons, List.mem_nil_iff, or_false] at hy
    rcases hy with rfl | rfl | rfl | rfl | rfl | rfl | rfl | rfl | rfl | rfl | rfl | rfl | rfl | rfl | rfl | rfl | rfl | rfl | rfl
    · cases _e
    · cases _e
    · cases _e
    · cases _e
    · cases _e
    · cases _e
    · cases _e
    · cases _e
    · cases _e
    · cases _e
    · cases _e
    · cases _e
    · cases _e
    · cases _e
    · cases _e
    · cases _e
    · cases _e
    · cases _e
    · exact ⟨pin_laid_unicode_utf8_first, by kernel_rfl⟩) fits1
theorem buildEndsUpto_row_tie : Rows.buildEndsUptoRow.laidByTextAt .later Tryz.pinned [.data, .data, .data, .data, .handle, .sentinel, .sentinel, .sentinel, .sentinel, .sentinel, .sentinel, .sentinel, .sentinel, .sentinel, .sentinel, .sentinel, .sentinel, .sentinel, .pinned] true :=
  OpenClaim.laidByTextAt_pinned rfl rfl tie rfl rfl rfl rfl (fun y hy _e => by
    simp only [Rows.buildEndsUptoRow, List.zip_cons_cons, List.zip_nil_right, List.mem_cons, List.mem_nil_iff, or_false] at hy
    rcases hy with rfl | rfl | rfl | rfl | rfl | rfl | rfl | rfl | rfl | rfl | rfl | rfl | rfl | rfl | rfl | rfl | rfl | rfl | rfl
    · cases _e
    · cases _e
    · cases _e
    · cases _e
    · cases _e
    · cases _e
    · cases _e
    · cases _e
    · cases _e
    · cases _e
    · cases _e
    · cases _e
    · cases _e
    · cases _e
    · cases _e
    · cases _e
    · cases _e
    · cases _e
    · exact ⟨pin_laid_unicode_utf8_first, by kernel_rfl⟩) fits1
end Go.Proofs.YtangheahliekeaaGreatDoor
