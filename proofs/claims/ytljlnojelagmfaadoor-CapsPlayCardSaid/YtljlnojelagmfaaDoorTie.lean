/-
  DERIVED. GIVEN WITH THE SEED: THE PROGRAM's TIES (one call each: nine closed facts by the kernel) AND EACH ROW's TIE, after the 31st guide's Derived/Test/Toyas{Tie, Card}.lean. No idea stands in it: it is a product of the set-up. Laid BY PROGRAM, IN A SANDBOX (cutbox-door.mjs). By AI agents, Wed Nov 11 2026. No macro, syntax, notation, axiom, sorry.
-/
import Derived.Test.YtljlnojelagmfaaDoorRows
import Derived.LaidByTextLater
import Derived.SevenTiedAt
import Derived.LaidSub
import Derived.LaidOnce
namespace Go.Proofs.YtljlnojelagmfaaDoor
open Go
set_option maxRecDepth 100000
theorem seatTie1 : Tryd.prog.laidByTextLater [("math/bits.deBruijn32tab", Rows.laid_math_bits_deBruijn32tab), ("math/bits.deBruijn64tab", Rows.laid_math_bits_deBruijn64tab), ("internal/strconv.uint64pow10", Rows.laid_internal_strconv_uint64pow10), ("unicode/utf8.acceptRanges", Rows.laid_unicode_utf8_acceptRanges), ("pledge/api.ErrEnd", Rows.laid_pledge_api_ErrEnd), ("pledge/api.ErrShape", Rows.laid_pledge_api_ErrShape), ("pledge/api.ErrRange", Rows.laid_pledge_api_ErrRange), ("pledge/api.ErrOver", Rows.laid_pledge_api_ErrOver), ("pledge/api.ErrMany", Rows.laid_pledge_api_ErrMany), ("pledge/api.ErrNone", Rows.laid_pledge_api_ErrNone), ("pledge/api.ErrThere", Rows.laid_pledge_api_ErrThere), ("pledge/api.ErrFull", Rows.laid_pledge_api_ErrFull), ("pledge/api.ErrCrash", Rows.laid_pledge_api_ErrCrash), ("pledge/api.ErrTwice", Rows.laid_pledge_api_ErrTwice), ("pledge/api.ErrKind", Rows.laid_pledge_api_ErrKind), ("pledge/api.ErrBarred", Rows.laid_pledge_api_ErrBarred), ("pledge/api.ErrShort", Rows.laid_pledge_api_ErrShort), ("pledge/api.ErrBreach", Rows.laid_pledge_api_ErrBreach), ("pledge/api.ErrNeed", Rows.laid_pledge_api_ErrNeed), ("pledge/api.ErrBound", Rows.laid_pledge_api_ErrBound), ("pledge/api.ErrDay", Rows.laid_pledge_api_ErrDay), ("pledge/api.ErrWord", Rows.laid_pledge_api_ErrWord), ("pledge/api.ErrNumber", Rows.laid_pledge_api_ErrNumber), ("pledge/api.ErrBudget", Rows.laid_pledge_api_ErrBudget), ("pledge/api.ErrNothing", Rows.laid_pledge_api_ErrNothing)] [.data, .data, .data, .data, .sentinel, .sentinel, .sentinel, .sentinel, .sentinel, .sentinel, .sentinel, .sentinel, .sentinel, .sentinel, .sentinel, .sentinel, .sentinel, .sentinel, .sentinel, .sentinel, .sentinel, .sentinel, .sentinel, .sentinel, .sentinel] true :=
  Program.laidByTextLater_by_one 433 8 65 (by kernel_rfl) (by kernel_rfl) (by kernel_rfl) (by kernel_rfl) (by kernel_rfl) (by kernel_rfl) (fun _ _ => by kernel_rfl)
theorem pin_laid_unicode_utf8_first : Tryd.pinned.checked.prog.pinnedFits "unicode/utf8.first" = true := by kernel_rfl
theorem noOwnUnsafe : Tryd.pinned.checked.prog.headLifts.contains "ownunsafe" = false := by kernel_rfl
theorem tie : Tryd.prog.laidByTextLater [("pledge/api.ErrRange", Rows.laid_pledge_api_ErrRange)] [.sentinel] true :=
  Program.laidByTextLater.sub seatTie1 ["pledge/api.ErrRange"] (by kernel_rfl) (by kernel_rfl)
theorem cutSteps_row_tie : Rows.cutStepsRow.laidByTextAt .later Tryd.pinned [.sentinel] true :=
  OpenClaim.laidByTextAt_later rfl rfl tie noOwnUnsafe
theorem tie2 : Tryd.prog.laidByTextLater [("pledge/api.ErrEnd", Rows.laid_pledge_api_ErrEnd), ("pledge/api.ErrShape", Rows.laid_pledge_api_ErrShape), ("pledge/api.ErrRange", Rows.laid_pledge_api_ErrRange), ("pledge/api.ErrOver", Rows.laid_pledge_api_ErrOver), ("pledge/api.ErrMany", Rows.laid_pledge_api_ErrMany), ("pledge/api.ErrNone", Rows.laid_pledge_api_ErrNone), ("pledge/api.ErrThere", Rows.laid_pledge_api_ErrThere), ("pledge/api.ErrFull", Rows.laid_pledge_api_ErrFull), ("pledge/api.ErrCrash", Rows.laid_pledge_api_ErrCrash), ("pledge/api.ErrTwice", Rows.laid_pledge_api_ErrTwice), ("pledge/api.ErrKind", Rows.laid_pledge_api_ErrKind), ("pledge/api.ErrBarred", Rows.laid_pledge_api_ErrBarred), ("pledge/api.ErrShort", Rows.laid_pledge_api_ErrShort), ("pledge/api.ErrBreach", Rows.laid_pledge_api_ErrBreach), ("pledge/api.ErrNeed", Rows.laid_pledge_api_ErrNeed), ("pledge/api.ErrBound", Rows.laid_pledge_api_ErrBound), ("pledge/api.ErrDay", Rows.laid_pledge_api_ErrDay), ("pledge/api.ErrWord", Rows.laid_pledge_api_ErrWord), ("pledge/api.ErrNumber", Rows.laid_pledge_api_ErrNumber), ("pledge/api.ErrBudget", Rows.laid_pledge_api_ErrBudget), ("pledge/api.ErrNothing", Rows.laid_pledge_api_ErrNothing)] [.sentinel, .sentinel, .sentinel, .sentinel, .sentinel, .sentinel, .sentinel, .sentinel, .sentinel, .sentinel, .sentinel, .sentinel, .sentinel, .sentinel, .sentinel, .sentinel, .sentinel, .sentinel, .sentinel, .sentinel, .sentinel] true :=
  Program.laidByTextLater.sub seatTie1 ["pledge/api.ErrEnd", "pledge/api.ErrShape", "pledge/api.ErrRange", "pledge/api.ErrOver", "pledge/api.ErrMany", "pledge/api.ErrNone", "pledge/api.ErrThere", "pledge/api.ErrFull", "pledge/api.ErrCrash", "pledge/api.ErrTwice", "pledge/api.ErrKind", "pledge/api.ErrBarred", "pledge/api.ErrShort", "pledge/api.ErrBreach", "pledge/api.ErrNeed", "pledge/api.ErrBound", "pledge/api.ErrDay", "pledge/api.ErrWord", "pledge/api.ErrNumber", "pledge/api.ErrBudget", "pledge/api.ErrNothing"] (by kernel_rfl) (by kernel_rfl)
theorem cutPlays_row_tie : Rows.cutPlaysRow.laidByTextAt .later Tryd.pinned [.sentinel, .sentinel, .sentinel, .sentinel, .sentinel, .sentinel, .sentinel, .sentinel, .sentinel, .sentinel, .sentinel, .sentinel, .sentinel, .sentinel, .sentinel, .sentinel, .sentinel, .sentinel, .sentinel, .sentinel, .sentinel] true :=
  OpenClaim.laidByTextAt_later rfl rfl tie2 noOwnUnsafe
theorem stressPlays_row_tie : Rows.stressPlaysRow.laidByTextAt .later Tryd.pinned [.sentinel, .sentinel, .sentinel, .sentinel, .sentinel, .sentinel, .sentinel, .sentinel, .sentinel, .sentinel, .sentinel, .sentinel, .sentinel, .sentinel, .sentinel, .sentinel, .sentinel, .sentinel, .sentinel, .sentinel, .sentinel] true :=
  OpenClaim.laidByTextAt_later rfl rfl tie2 noOwnUnsafe
theorem capsPlay_row_tie : Rows.capsPlayRow.laidByTextAt .later Tryd.pinned [.sentinel, .sentinel, .sentinel, .sentinel, .sentinel, .sentinel, .sentinel, .sentinel, .sentinel, .sentinel, .sentinel, .sentinel, .sentinel, .sentinel, .sentinel, .sentinel, .sentinel, .sentinel, .sentinel, .sentinel, .sentinel] true :=
  OpenClaim.laidByTextAt_later rfl rfl tie2 noOwnUnsafe
theorem rootSaves_row_tie : Rows.rootSavesRow.laidByTextAt .later Tryd.pinned [.sentinel, .sentinel, .sentinel, .sentinel, .sentinel, .sentinel, .sentinel, .sentinel, .sentinel, .sentinel, .sentinel, .sentinel, .sentinel, .sentinel, .sentinel, .sentinel, .sentinel, .sentinel, .sentinel, .sentinel, .sentinel] true :=
  OpenClaim.laidByTextAt_later rfl rfl tie2 noOwnUnsafe
theorem pageRoom_row_tie : Rows.pageRoomRow.laidByTextAt .later Tryd.pinned [.sentinel, .sentinel, .sentinel, .sentinel, .sentinel, .sentinel, .sentinel, .sentinel, .sentinel, .sentinel, .sentinel, .sentinel, .sentinel, .sentinel, .sentinel, .sentinel, .sentinel, .sentinel, .sentinel, .sentinel, .sentinel] true :=
  OpenClaim.laidByTextAt_later rfl rfl tie2 noOwnUnsafe
theorem pageApart_row_tie : Rows.pageApartRow.laidByTextAt .later Tryd.pinned [.sentinel, .sentinel, .sentinel, .sentinel, .sentinel, .sentinel, .sentinel, .sentinel, .sentinel, .sentinel, .sentinel, .sentinel, .sentinel, .sentinel, .sentinel, .sentinel, .sentinel, .sentinel, .sentinel, .sentinel, .sentinel] true :=
  OpenClaim.laidByTextAt_later rfl rfl tie2 noOwnUnsafe
theorem tie3 : Tryd.prog.laidByTextLater [("pledge/api.ErrRange", Rows.laid_pledge_api_ErrRange), ("pledge/api.ErrOver", Rows.laid_pledge_api_ErrOver)] [.sentinel, .sentinel] true :=
  Program.laidByTextLater.sub seatTie1 ["pledge/api.ErrRange", "pledge/api.ErrOver"] (by kernel_rfl) (by kernel_rfl)
theorem capsFree_row_tie : Rows.capsFreeRow.laidByTextAt .later Tryd.pinned [.sentinel, .sentinel] true :=
  OpenClaim.laidByTextAt_later rfl rfl tie3 noOwnUnsafe
theorem fits4 : Tryd.pinned.checked.prog.listedFits [("math/bits.deBruijn32tab", Rows.laid_math_bits_deBruijn32tab), ("math/bits.deBruijn64tab", Rows.laid_math_bits_deBruijn64tab), ("internal/strconv.uint64pow10", Rows.laid_internal_strconv_uint64pow10), ("unicode/utf8.acceptRanges", Rows.laid_unicode_utf8_acceptRanges), ("pledge/api.ErrEnd", Rows.laid_pledge_api_ErrEnd), ("pledge/api.ErrShape", Rows.laid_pledge_api_ErrShape), ("pledge/api.ErrRange", Rows.laid_pledge_api_ErrRange), ("pledge/api.ErrOver", Rows.laid_pledge_api_ErrOver), ("pledge/api.ErrMany", Rows.laid_pledge_api_ErrMany), ("pledge/api.ErrNone", Rows.laid_pledge_api_ErrNone), ("pledge/api.ErrThere", Rows.laid_pledge_api_ErrThere), ("pledge/api.ErrFull", Rows.laid_pledge_api_ErrFull), ("pledge/api.ErrCrash", Rows.laid_pledge_api_ErrCrash), ("pledge/api.ErrTwice", Rows.laid_pledge_api_ErrTwice), ("pledge/api.ErrKind", Rows.laid_pledge_api_ErrKind), ("pledge/api.ErrBarred", Rows.laid_pledge_api_ErrBarred), ("pledge/api.ErrShort", Rows.laid_pledge_api_ErrShort), ("pledge/api.ErrBreach", Rows.laid_pledge_api_ErrBreach), ("pledge/api.ErrNeed", Rows.laid_pledge_api_ErrNeed), ("pledge/api.ErrBound", Rows.laid_pledge_api_ErrBound), ("pledge/api.ErrDay", Rows.laid_pledge_api_ErrDay), ("pledge/api.ErrWord", Rows.laid_pledge_api_ErrWord), ("pledge/api.ErrNumber", Rows.laid_pledge_api_ErrNumber), ("pledge/api.ErrBudget", Rows.laid_pledge_api_ErrBudget), ("pledge/api.ErrNothing", Rows.laid_pledge_api_ErrNothing), ("unicode/utf8.first", Rows.laid_unicode_utf8_first)] = true := by
  unfold Program.listedFits
  rw [noOwnUnsafe]
  kernel_rfl
theorem tie4 : Tryd.prog.laidByTextLater [("math/bits.deBruijn32tab", Rows.laid_math_bits_deBruijn32tab), ("math/bits.deBruijn64tab", Rows.laid_math_bits_deBruijn64tab), ("internal/strconv.uint64pow10", Rows.laid_internal_strconv_uint64pow10), ("unicode/utf8.acceptRanges", Rows.laid_unicode_utf8_acceptRanges), ("pledge/api.ErrEnd", Rows.laid_pledge_api_ErrEnd), ("pledge/api.ErrShape", Rows.laid_pledge_api_ErrShape), ("pledge/api.ErrRange", Rows.laid_pledge_api_ErrRange), ("pledge/api.ErrOver", Rows.laid_pledge_api_ErrOver), ("pledge/api.ErrMany", Rows.laid_pledge_api_ErrMany), ("pledge/api.ErrNone", Rows.laid_pledge_api_ErrNone), ("pledge/api.ErrThere", Rows.laid_pledge_api_ErrThere), ("pledge/api.ErrFull", Rows.laid_pledge_api_ErrFull), ("pledge/api.ErrCrash", Rows.laid_pledge_api_ErrCrash), ("pledge/api.ErrTwice", Rows.laid_pledge_api_ErrTwice), ("pledge/api.ErrKind", Rows.laid_pledge_api_ErrKind), ("pledge/api.ErrBarred", Rows.laid_pledge_api_ErrBarred), ("pledge/api.ErrShort", Rows.laid_pledge_api_ErrShort), ("pledge/api.ErrBreach", Rows.laid_pledge_api_ErrBreach), ("pledge/api.ErrNeed", Rows.laid_pledge_api_ErrNeed), ("pledge/api.ErrBound", Rows.laid_pledge_api_ErrBound), ("pledge/api.ErrDay", Rows.laid_pledge_api_ErrDay), ("pledge/api.ErrWord", Rows.laid_pledge_api_ErrWord), ("pledge/api.ErrNumber", Rows.laid_pledge_api_ErrNumber), ("pledge/api.ErrBudget", Rows.laid_pledge_api_ErrBudget), ("pledge/api.ErrNothing", Rows.laid_pledge_api_ErrNothing)] [.data, .data, .data, .data, .sentinel, .sentinel, .sentinel, .sentinel, .sentinel, .sentinel, .sentinel, .sentinel, .sentinel, .sentinel, .sentinel, .sentinel, .sentinel, .sentinel, .sentinel, .sentinel, .sentinel, .sentinel, .sentinel, .sentinel, .sentinel] true :=
  Program.laidByTextLater.sub seatTie1 ["math/bits.deBruijn32tab", "math/bits.deBruijn64tab", "internal/strconv.uint64pow10", "unicode/utf8.acceptRanges", "pledge/api.ErrEnd", "pledge/api.ErrShape", "pledge/api.ErrRange", "pledge/api.ErrOver", "pledge/api.ErrMany", "pledge/api.ErrNone", "pledge/api.ErrThere", "pledge/api.ErrFull", "pledge/api.ErrCrash", "pledge/api.ErrTwice", "pledge/api.ErrKind", "pledge/api.ErrBarred", "pledge/api.ErrShort", "pledge/api.ErrBreach", "pledge/api.ErrNeed", "pledge/api.ErrBound", "pledge/api.ErrDay", "pledge/api.ErrWord", "pledge/api.ErrNumber", "pledge/api.ErrBudget", "pledge/api.ErrNothing"] (by kernel_rfl) (by kernel_rfl)
theorem opFields_row_tie : Rows.opFieldsRow.laidByTextAt .later Tryd.pinned [.data, .data, .data, .data, .sentinel, .sentinel, .sentinel, .sentinel, .sentinel, .sentinel, .sentinel, .sentinel, .sentinel, .sentinel, .sentinel, .sentinel, .sentinel, .sentinel, .sentinel, .sentinel, .sentinel, .sentinel, .sentinel, .sentinel, .sentinel, .pinned] true :=
  OpenClaim.laidByTextAt_pinned rfl rfl tie4 rfl rfl rfl rfl (fun y hy _e => by
    simp only [Rows.opFieldsRow, List.zip_cons_cons, List.zip_nil_right, List.mem_cons, List.mem_nil_iff, or_false] at hy
    rcases hy with rfl | rfl | rfl | rfl | rfl | rfl | rfl | rfl | rfl | rfl | rfl | rfl | rfl | rfl | rfl | rfl | rfl | rfl | rfl | rfl | rfl | rfl | rfl | rfl | rfl | rfl
    · cases _e
    · cases _e
    · cases _e
    · cases _e
    · cases _e
    · cases _e
    · cases _e
    · cases _e
    · cases _e
    · cases _e
    · cases _e
    · cases _e
    · cases _e
    · cases _e
    · cases _e
    · cases _e
    · cases _e
    · cases _e
    · cases _e
    · cases _e
    · cases _e
    · cases _e
    · cases _e
    · cases _e
    · cases _e
    · exact ⟨pin_laid_unicode_utf8_first, by kernel_rfl⟩) fits4
theorem tie5 : Tryd.prog.laidByTextLater [("pledge/api.ErrShape", Rows.laid_pledge_api_ErrShape), ("pledge/api.ErrRange", Rows.laid_pledge_api_ErrRange), ("pledge/api.ErrMany", Rows.laid_pledge_api_ErrMany), ("pledge/api.ErrFull", Rows.laid_pledge_api_ErrFull), ("pledge/api.ErrCrash", Rows.laid_pledge_api_ErrCrash)] [.sentinel, .sentinel, .sentinel, .sentinel, .sentinel] true :=
  Program.laidByTextLater.sub seatTie1 ["pledge/api.ErrShape", "pledge/api.ErrRange", "pledge/api.ErrMany", "pledge/api.ErrFull", "pledge/api.ErrCrash"] (by kernel_rfl) (by kernel_rfl)
theorem keepOrder_row_tie : Rows.keepOrderRow.laidByTextAt .later Tryd.pinned [.sentinel, .sentinel, .sentinel, .sentinel, .sentinel] true :=
  OpenClaim.laidByTextAt_later rfl rfl tie5 noOwnUnsafe
theorem pageLong_row_tie : Rows.pageLongRow.laidByTextAt .later Tryd.pinned [.sentinel, .sentinel, .sentinel, .sentinel, .sentinel] true :=
  OpenClaim.laidByTextAt_later rfl rfl tie5 noOwnUnsafe
theorem cutStepsUpto_row_tie : Rows.cutStepsUptoRow.laidByTextAt .later Tryd.pinned [.sentinel] true :=
  OpenClaim.laidByTextAt_later rfl rfl tie noOwnUnsafe
theorem cutPlaysUpto_row_tie : Rows.cutPlaysUptoRow.laidByTextAt .later Tryd.pinned [.sentinel, .sentinel, .sentinel, .sentinel, .sentinel, .sentinel, .sentinel, .sentinel, .sentinel, .sentinel, .sentinel, .sentinel, .sentinel, .sentinel, .sentinel, .sentinel, .sentinel, .sentinel, .sentinel, .sentinel, .sentinel] true :=
  OpenClaim.laidByTextAt_later rfl rfl tie2 noOwnUnsafe
theorem stressPlaysUpto_row_tie : Rows.stressPlaysUptoRow.laidByTextAt .later Tryd.pinned [.sentinel, .sentinel, .sentinel, .sentinel, .sentinel, .sentinel, .sentinel, .sentinel, .sentinel, .sentinel, .sentinel, .sentinel, .sentinel, .sentinel, .sentinel, .sentinel, .sentinel, .sentinel, .sentinel, .sentinel, .sentinel] true :=
  OpenClaim.laidByTextAt_later rfl rfl tie2 noOwnUnsafe
theorem capsFreeUpto_row_tie : Rows.capsFreeUptoRow.laidByTextAt .later Tryd.pinned [.sentinel, .sentinel] true :=
  OpenClaim.laidByTextAt_later rfl rfl tie3 noOwnUnsafe
theorem capsPlayUpto_row_tie : Rows.capsPlayUptoRow.laidByTextAt .later Tryd.pinned [.sentinel, .sentinel, .sentinel, .sentinel, .sentinel, .sentinel, .sentinel, .sentinel, .sentinel, .sentinel, .sentinel, .sentinel, .sentinel, .sentinel, .sentinel, .sentinel, .sentinel, .sentinel, .sentinel, .sentinel, .sentinel] true :=
  OpenClaim.laidByTextAt_later rfl rfl tie2 noOwnUnsafe
theorem opFieldsUpto_row_tie : Rows.opFieldsUptoRow.laidByTextAt .later Tryd.pinned [.data, .data, .data, .data, .sentinel, .sentinel, .sentinel, .sentinel, .sentinel, .sentinel, .sentinel, .sentinel, .sentinel, .sentinel, .sentinel, .sentinel, .sentinel, .sentinel, .sentinel, .sentinel, .sentinel, .sentinel, .sentinel, .sentinel, .sentinel, .pinned] true :=
  OpenClaim.laidByTextAt_pinned rfl rfl tie4 rfl rfl rfl rfl (fun y hy _e => by
    simp only [Rows.opFieldsUptoRow, List.zip_cons_cons, List.zip_nil_right, List.mem_cons, List.mem_nil_iff, or_false] at hy
    rcases hy with rfl | rfl | rfl | rfl | rfl | rfl | rfl | rfl | rfl | rfl | rfl | rfl | rfl | rfl | rfl | rfl | rfl | rfl | rfl | rfl | rfl | rfl | rfl | rfl | rfl | rfl
    · cases _e
    · cases _e
    · cases _e
    · cases _e
    · cases _e
    · cases _e
    · cases _e
    · cases _e
    · cases _e
    · cases _e
    · cases _e
    · cases _e
    · cases _e
    · cases _e
    · cases _e
    · cases _e
    · cases _e
    · cases _e
    · cases _e
    · cases _e
    · cases _e
    · cases _e
    · cases _e
    · cases _e
    · cases _e
    · exact ⟨pin_laid_unicode_utf8_first, by kernel_rfl⟩) fits4
theorem rootSavesUpto_row_tie : Rows.rootSavesUptoRow.laidByTextAt .later Tryd.pinned [.sentinel, .sentinel, .sentinel, .sentinel, .sentinel, .sentinel, .sentinel, .sentinel, .sentinel, .sentinel, .sentinel, .sentinel, .sentinel, .sentinel, .sentinel, .sentinel, .sentinel, .sentinel, .sentinel, .sentinel, .sentinel] true :=
  OpenClaim.laidByTextAt_later rfl rfl tie2 noOwnUnsafe
theorem keepOrderUpto_row_tie : Rows.keepOrderUptoRow.laidByTextAt .later Tryd.pinned [.sentinel, .sentinel, .sentinel, .sentinel, .sentinel] true :=
  OpenClaim.laidByTextAt_later rfl rfl tie5 noOwnUnsafe
theorem pageRoomUpto_row_tie : Rows.pageRoomUptoRow.laidByTextAt .later Tryd.pinned [.sentinel, .sentinel, .sentinel, .sentinel, .sentinel, .sentinel, .sentinel, .sentinel, .sentinel, .sentinel, .sentinel, .sentinel, .sentinel, .sentinel, .sentinel, .sentinel, .sentinel, .sentinel, .sentinel, .sentinel, .sentinel] true :=
  OpenClaim.laidByTextAt_later rfl rfl tie2 noOwnUnsafe
theorem pageLongUpto_row_tie : Rows.pageLongUptoRow.laidByTextAt .later Tryd.pinned [.sentinel, .sentinel, .sentinel, .sentinel, .sentinel] true :=
  OpenClaim.laidByTextAt_later rfl rfl tie5 noOwnUnsafe
theorem pageApartUpto_row_tie : Rows.pageApartUptoRow.laidByTextAt .later Tryd.pinned [.sentinel, .sentinel, .sentinel, .sentinel, .sentinel, .sentinel, .sentinel, .sentinel, .sentinel, .sentinel, .sentinel, .sentinel, .sentinel, .sentinel, .sentinel, .sentinel, .sentinel, .sentinel, .sentinel, .sentinel, .sentinel] true :=
  OpenClaim.laidByTextAt_later rfl rfl tie2 noOwnUnsafe
end Go.Proofs.YtljlnojelagmfaaDoor
