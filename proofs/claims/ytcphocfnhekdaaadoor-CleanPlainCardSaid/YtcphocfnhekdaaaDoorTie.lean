/-
  DERIVED. GIVEN WITH THE SEED: THE PROGRAM's TIES (one call each: nine closed facts by the kernel) AND EACH ROW's TIE, after the 31st guide's Derived/Test/Toyas{Tie, Card}.lean. No idea stands in it: it is a product of the set-up. Laid BY PROGRAM, IN A SANDBOX (cutbox-door.mjs). By AI agents, Wed Nov 11 2026. No macro, syntax, notation, axiom, sorry.
-/
import Derived.Test.YtcphocfnhekdaaaDoorRows
import Derived.LaidByTextLater
import Derived.SevenTiedAt
import Derived.LaidSub
import Derived.LaidOnce
namespace Go.Proofs.YtcphocfnhekdaaaDoor
open Go
set_option maxRecDepth 100000
theorem seatTie1 : Tryd.prog.laidByTextLater [("unicode/utf8.acceptRanges", Rows.laid_unicode_utf8_acceptRanges), ("truchman/api.ErrRange", Rows.laid_truchman_api_ErrRange), ("truchman/api.ErrFull", Rows.laid_truchman_api_ErrFull), ("truchman/api.ErrShort", Rows.laid_truchman_api_ErrShort), ("truchman/api.ErrLong", Rows.laid_truchman_api_ErrLong), ("truchman/api.ErrForm", Rows.laid_truchman_api_ErrForm), ("truchman/api.ErrName", Rows.laid_truchman_api_ErrName), ("truchman/api.ErrNone", Rows.laid_truchman_api_ErrNone), ("truchman/api.ErrDup", Rows.laid_truchman_api_ErrDup), ("truchman/api.ErrKind", Rows.laid_truchman_api_ErrKind), ("truchman/api.ErrState", Rows.laid_truchman_api_ErrState), ("truchman/api.ErrDepth", Rows.laid_truchman_api_ErrDepth), ("truchman/api.ErrFuel", Rows.laid_truchman_api_ErrFuel), ("truchman/api.ErrStack", Rows.laid_truchman_api_ErrStack), ("truchman/api.ErrClosed", Rows.laid_truchman_api_ErrClosed), ("truchman/api.ErrEmpty", Rows.laid_truchman_api_ErrEmpty), ("truchman/api.ErrNumber", Rows.laid_truchman_api_ErrNumber)] [.data, .sentinel, .sentinel, .sentinel, .sentinel, .sentinel, .sentinel, .sentinel, .sentinel, .sentinel, .sentinel, .sentinel, .sentinel, .sentinel, .sentinel, .sentinel, .sentinel] true :=
  Program.laidByTextLater_by_one 323 8 33 (by kernel_rfl) (by kernel_rfl) (by kernel_rfl) (by kernel_rfl) (by kernel_rfl) (by kernel_rfl) (fun _ _ => by kernel_rfl)
theorem pin_laid_unicode_utf8_first : Tryd.pinned.checked.prog.pinnedFits "unicode/utf8.first" = true := by kernel_rfl
theorem noOwnUnsafe : Tryd.pinned.checked.prog.headLifts.contains "ownunsafe" = false := by kernel_rfl
theorem tie : Tryd.prog.laidByTextLater [("truchman/api.ErrShort", Rows.laid_truchman_api_ErrShort), ("truchman/api.ErrForm", Rows.laid_truchman_api_ErrForm)] [.sentinel, .sentinel] true :=
  Program.laidByTextLater.sub seatTie1 ["truchman/api.ErrShort", "truchman/api.ErrForm"] (by kernel_rfl) (by kernel_rfl)
theorem gramItems_row_tie : Rows.gramItemsRow.laidByTextAt .later Tryd.pinned [.sentinel, .sentinel] true :=
  OpenClaim.laidByTextAt_later rfl rfl tie noOwnUnsafe
theorem gramPrefix_row_tie : Rows.gramPrefixRow.laidByTextAt .later Tryd.pinned [.sentinel, .sentinel] true :=
  OpenClaim.laidByTextAt_later rfl rfl tie noOwnUnsafe
theorem tie2 : Tryd.prog.laidByTextLater [("truchman/api.ErrRange", Rows.laid_truchman_api_ErrRange), ("truchman/api.ErrFull", Rows.laid_truchman_api_ErrFull), ("truchman/api.ErrShort", Rows.laid_truchman_api_ErrShort), ("truchman/api.ErrLong", Rows.laid_truchman_api_ErrLong), ("truchman/api.ErrForm", Rows.laid_truchman_api_ErrForm), ("truchman/api.ErrName", Rows.laid_truchman_api_ErrName), ("truchman/api.ErrNone", Rows.laid_truchman_api_ErrNone), ("truchman/api.ErrDup", Rows.laid_truchman_api_ErrDup), ("truchman/api.ErrKind", Rows.laid_truchman_api_ErrKind), ("truchman/api.ErrState", Rows.laid_truchman_api_ErrState), ("truchman/api.ErrDepth", Rows.laid_truchman_api_ErrDepth), ("truchman/api.ErrFuel", Rows.laid_truchman_api_ErrFuel), ("truchman/api.ErrStack", Rows.laid_truchman_api_ErrStack), ("truchman/api.ErrClosed", Rows.laid_truchman_api_ErrClosed), ("truchman/api.ErrEmpty", Rows.laid_truchman_api_ErrEmpty), ("truchman/api.ErrNumber", Rows.laid_truchman_api_ErrNumber)] [.sentinel, .sentinel, .sentinel, .sentinel, .sentinel, .sentinel, .sentinel, .sentinel, .sentinel, .sentinel, .sentinel, .sentinel, .sentinel, .sentinel, .sentinel, .sentinel] true :=
  Program.laidByTextLater.sub seatTie1 ["truchman/api.ErrRange", "truchman/api.ErrFull", "truchman/api.ErrShort", "truchman/api.ErrLong", "truchman/api.ErrForm", "truchman/api.ErrName", "truchman/api.ErrNone", "truchman/api.ErrDup", "truchman/api.ErrKind", "truchman/api.ErrState", "truchman/api.ErrDepth", "truchman/api.ErrFuel", "truchman/api.ErrStack", "truchman/api.ErrClosed", "truchman/api.ErrEmpty", "truchman/api.ErrNumber"] (by kernel_rfl) (by kernel_rfl)
theorem gramParses_row_tie : Rows.gramParsesRow.laidByTextAt .later Tryd.pinned [.sentinel, .sentinel, .sentinel, .sentinel, .sentinel, .sentinel, .sentinel, .sentinel, .sentinel, .sentinel, .sentinel, .sentinel, .sentinel, .sentinel, .sentinel, .sentinel] true :=
  OpenClaim.laidByTextAt_later rfl rfl tie2 noOwnUnsafe
theorem fits3 : Tryd.pinned.checked.prog.listedFits [("unicode/utf8.acceptRanges", Rows.laid_unicode_utf8_acceptRanges), ("truchman/api.ErrRange", Rows.laid_truchman_api_ErrRange), ("truchman/api.ErrFull", Rows.laid_truchman_api_ErrFull), ("truchman/api.ErrShort", Rows.laid_truchman_api_ErrShort), ("truchman/api.ErrLong", Rows.laid_truchman_api_ErrLong), ("truchman/api.ErrForm", Rows.laid_truchman_api_ErrForm), ("truchman/api.ErrName", Rows.laid_truchman_api_ErrName), ("truchman/api.ErrNone", Rows.laid_truchman_api_ErrNone), ("truchman/api.ErrDup", Rows.laid_truchman_api_ErrDup), ("truchman/api.ErrKind", Rows.laid_truchman_api_ErrKind), ("truchman/api.ErrState", Rows.laid_truchman_api_ErrState), ("truchman/api.ErrDepth", Rows.laid_truchman_api_ErrDepth), ("truchman/api.ErrFuel", Rows.laid_truchman_api_ErrFuel), ("truchman/api.ErrStack", Rows.laid_truchman_api_ErrStack), ("truchman/api.ErrClosed", Rows.laid_truchman_api_ErrClosed), ("truchman/api.ErrEmpty", Rows.laid_truchman_api_ErrEmpty), ("truchman/api.ErrNumber", Rows.laid_truchman_api_ErrNumber), ("unicode/utf8.first", Rows.laid_unicode_utf8_first)] = true := by
  unfold Program.listedFits
  rw [noOwnUnsafe]
  kernel_rfl
theorem tie3 : Tryd.prog.laidByTextLater [("unicode/utf8.acceptRanges", Rows.laid_unicode_utf8_acceptRanges), ("truchman/api.ErrRange", Rows.laid_truchman_api_ErrRange), ("truchman/api.ErrFull", Rows.laid_truchman_api_ErrFull), ("truchman/api.ErrShort", Rows.laid_truchman_api_ErrShort), ("truchman/api.ErrLong", Rows.laid_truchman_api_ErrLong), ("truchman/api.ErrForm", Rows.laid_truchman_api_ErrForm), ("truchman/api.ErrName", Rows.laid_truchman_api_ErrName), ("truchman/api.ErrNone", Rows.laid_truchman_api_ErrNone), ("truchman/api.ErrDup", Rows.laid_truchman_api_ErrDup), ("truchman/api.ErrKind", Rows.laid_truchman_api_ErrKind), ("truchman/api.ErrState", Rows.laid_truchman_api_ErrState), ("truchman/api.ErrDepth", Rows.laid_truchman_api_ErrDepth), ("truchman/api.ErrFuel", Rows.laid_truchman_api_ErrFuel), ("truchman/api.ErrStack", Rows.laid_truchman_api_ErrStack), ("truchman/api.ErrClosed", Rows.laid_truchman_api_ErrClosed), ("truchman/api.ErrEmpty", Rows.laid_truchman_api_ErrEmpty), ("truchman/api.ErrNumber", Rows.laid_truchman_api_ErrNumber)] [.data, .sentinel, .sentinel, .sentinel, .sentinel, .sentinel, .sentinel, .sentinel, .sentinel, .sentinel, .sentinel, .sentinel, .sentinel, .sentinel, .sentinel, .sentinel, .sentinel] true :=
  Program.laidByTextLater.sub seatTie1 ["unicode/utf8.acceptRanges", "truchman/api.ErrRange", "truchman/api.ErrFull", "truchman/api.ErrShort", "truchman/api.ErrLong", "truchman/api.ErrForm", "truchman/api.ErrName", "truchman/api.ErrNone", "truchman/api.ErrDup", "truchman/api.ErrKind", "truchman/api.ErrState", "truchman/api.ErrDepth", "truchman/api.ErrFuel", "truchman/api.ErrStack", "truchman/api.ErrClosed", "truchman/api.ErrEmpty", "truchman/api.ErrNumber"] (by kernel_rfl) (by kernel_rfl)
theorem emitParts_row_tie : Rows.emitPartsRow.laidByTextAt .later Tryd.pinned [.data, .sentinel, .sentinel, .sentinel, .sentinel, .sentinel, .sentinel, .sentinel, .sentinel, .sentinel, .sentinel, .sentinel, .sentinel, .sentinel, .sentinel, .sentinel, .sentinel, .pinned] true :=
  OpenClaim.laidByTextAt_pinned rfl rfl tie3 rfl rfl rfl rfl (fun y hy _e => by
    simp only [Rows.emitPartsRow, List.zip_cons_cons, List.zip_nil_right, List.mem_cons, List.mem_nil_iff, or_false] at hy
    rcases hy with rfl | rfl | rfl | rfl | rfl | rfl | rfl | rfl | rfl | rfl | rfl | rfl | rfl | rfl | rfl | rfl | rfl | rfl
    · cases _e
    · cases _e
    · cases _e
    · cases _e
    · cases _e
    · cases _e
    · cases _e
    · cases _e
    · cases _e
    · cases _e
    · cases _e
    · cases _e
    · cases _e
    · cases _e
    · cases _e
    · cases _e
    · cases _e
    · exact ⟨pin_laid_unicode_utf8_first, by kernel_rfl⟩) fits3
theorem emitTokens_row_tie : Rows.emitTokensRow.laidByTextAt .later Tryd.pinned [.data, .sentinel, .sentinel, .sentinel, .sentinel, .sentinel, .sentinel, .sentinel, .sentinel, .sentinel, .sentinel, .sentinel, .sentinel, .sentinel, .sentinel, .sentinel, .sentinel, .pinned] true :=
  OpenClaim.laidByTextAt_pinned rfl rfl tie3 rfl rfl rfl rfl (fun y hy _e => by
    simp only [Rows.emitTokensRow, List.zip_cons_cons, List.zip_nil_right, List.mem_cons, List.mem_nil_iff, or_false] at hy
    rcases hy with rfl | rfl | rfl | rfl | rfl | rfl | rfl | rfl | rfl | rfl | rfl | rfl | rfl | rfl | rfl | rfl | rfl | rfl
    · cases _e
    · cases _e
    · cases _e
    · cases _e
    · cases _e
    · cases _e
    · cases _e
    · cases _e
    · cases _e
    · cases _e
    · cases _e
    · cases _e
    · cases _e
    · cases _e
    · cases _e
    · cases _e
    · cases _e
    · exact ⟨pin_laid_unicode_utf8_first, by kernel_rfl⟩) fits3
theorem fits4 : Tryd.pinned.checked.prog.listedFits [("unicode/utf8.acceptRanges", Rows.laid_unicode_utf8_acceptRanges), ("truchman/api.ErrRange", Rows.laid_truchman_api_ErrRange), ("truchman/api.ErrKind", Rows.laid_truchman_api_ErrKind), ("unicode/utf8.first", Rows.laid_unicode_utf8_first)] = true := by
  unfold Program.listedFits
  rw [noOwnUnsafe]
  kernel_rfl
theorem tie4 : Tryd.prog.laidByTextLater [("unicode/utf8.acceptRanges", Rows.laid_unicode_utf8_acceptRanges), ("truchman/api.ErrRange", Rows.laid_truchman_api_ErrRange), ("truchman/api.ErrKind", Rows.laid_truchman_api_ErrKind)] [.data, .sentinel, .sentinel] true :=
  Program.laidByTextLater.sub seatTie1 ["unicode/utf8.acceptRanges", "truchman/api.ErrRange", "truchman/api.ErrKind"] (by kernel_rfl) (by kernel_rfl)
theorem cleanPlain_row_tie : Rows.cleanPlainRow.laidByTextAt .later Tryd.pinned [.data, .sentinel, .sentinel, .pinned] true :=
  OpenClaim.laidByTextAt_pinned rfl rfl tie4 rfl rfl rfl rfl (fun y hy _e => by
    simp only [Rows.cleanPlainRow, List.zip_cons_cons, List.zip_nil_right, List.mem_cons, List.mem_nil_iff, or_false] at hy
    rcases hy with rfl | rfl | rfl | rfl
    · cases _e
    · cases _e
    · cases _e
    · exact ⟨pin_laid_unicode_utf8_first, by kernel_rfl⟩) fits4
theorem fits5 : Tryd.pinned.checked.prog.listedFits [("unicode/utf8.acceptRanges", Rows.laid_unicode_utf8_acceptRanges), ("truchman/api.ErrRange", Rows.laid_truchman_api_ErrRange), ("truchman/api.ErrLong", Rows.laid_truchman_api_ErrLong), ("truchman/api.ErrKind", Rows.laid_truchman_api_ErrKind), ("unicode/utf8.first", Rows.laid_unicode_utf8_first)] = true := by
  unfold Program.listedFits
  rw [noOwnUnsafe]
  kernel_rfl
theorem tie5 : Tryd.prog.laidByTextLater [("unicode/utf8.acceptRanges", Rows.laid_unicode_utf8_acceptRanges), ("truchman/api.ErrRange", Rows.laid_truchman_api_ErrRange), ("truchman/api.ErrLong", Rows.laid_truchman_api_ErrLong), ("truchman/api.ErrKind", Rows.laid_truchman_api_ErrKind)] [.data, .sentinel, .sentinel, .sentinel] true :=
  Program.laidByTextLater.sub seatTie1 ["unicode/utf8.acceptRanges", "truchman/api.ErrRange", "truchman/api.ErrLong", "truchman/api.ErrKind"] (by kernel_rfl) (by kernel_rfl)
theorem emitBack_row_tie : Rows.emitBackRow.laidByTextAt .later Tryd.pinned [.data, .sentinel, .sentinel, .sentinel, .pinned] true :=
  OpenClaim.laidByTextAt_pinned rfl rfl tie5 rfl rfl rfl rfl (fun y hy _e => by
    simp only [Rows.emitBackRow, List.zip_cons_cons, List.zip_nil_right, List.mem_cons, List.mem_nil_iff, or_false] at hy
    rcases hy with rfl | rfl | rfl | rfl | rfl
    · cases _e
    · cases _e
    · cases _e
    · cases _e
    · exact ⟨pin_laid_unicode_utf8_first, by kernel_rfl⟩) fits5
theorem fits6 : Tryd.pinned.checked.prog.listedFits [("unicode/utf8.acceptRanges", Rows.laid_unicode_utf8_acceptRanges), ("truchman/api.ErrRange", Rows.laid_truchman_api_ErrRange), ("truchman/api.ErrShort", Rows.laid_truchman_api_ErrShort), ("truchman/api.ErrLong", Rows.laid_truchman_api_ErrLong), ("truchman/api.ErrForm", Rows.laid_truchman_api_ErrForm), ("truchman/api.ErrKind", Rows.laid_truchman_api_ErrKind), ("unicode/utf8.first", Rows.laid_unicode_utf8_first)] = true := by
  unfold Program.listedFits
  rw [noOwnUnsafe]
  kernel_rfl
theorem tie6 : Tryd.prog.laidByTextLater [("unicode/utf8.acceptRanges", Rows.laid_unicode_utf8_acceptRanges), ("truchman/api.ErrRange", Rows.laid_truchman_api_ErrRange), ("truchman/api.ErrShort", Rows.laid_truchman_api_ErrShort), ("truchman/api.ErrLong", Rows.laid_truchman_api_ErrLong), ("truchman/api.ErrForm", Rows.laid_truchman_api_ErrForm), ("truchman/api.ErrKind", Rows.laid_truchman_api_ErrKind)] [.data, .sentinel, .sentinel, .sentinel, .sentinel, .sentinel] true :=
  Program.laidByTextLater.sub seatTie1 ["unicode/utf8.acceptRanges", "truchman/api.ErrRange", "truchman/api.ErrShort", "truchman/api.ErrLong", "truchman/api.ErrForm", "truchman/api.ErrKind"] (by kernel_rfl) (by kernel_rfl)
theorem gramEmits_row_tie : Rows.gramEmitsRow.laidByTextAt .later Tryd.pinned [.data, .sentinel, .sentinel, .sentinel, .sentinel, .sentinel, .pinned] true :=
  OpenClaim.laidByTextAt_pinned rfl rfl tie6 rfl rfl rfl rfl (fun y hy _e => by
    simp only [Rows.gramEmitsRow, List.zip_cons_cons, List.zip_nil_right, List.mem_cons, List.mem_nil_iff, or_false] at hy
    rcases hy with rfl | rfl | rfl | rfl | rfl | rfl | rfl
    · cases _e
    · cases _e
    · cases _e
    · cases _e
    · cases _e
    · cases _e
    · exact ⟨pin_laid_unicode_utf8_first, by kernel_rfl⟩) fits6
theorem gramItemsUpto_row_tie : Rows.gramItemsUptoRow.laidByTextAt .later Tryd.pinned [.sentinel, .sentinel] true :=
  OpenClaim.laidByTextAt_later rfl rfl tie noOwnUnsafe
theorem gramParsesUpto_row_tie : Rows.gramParsesUptoRow.laidByTextAt .later Tryd.pinned [.sentinel, .sentinel, .sentinel, .sentinel, .sentinel, .sentinel, .sentinel, .sentinel, .sentinel, .sentinel, .sentinel, .sentinel, .sentinel, .sentinel, .sentinel, .sentinel] true :=
  OpenClaim.laidByTextAt_later rfl rfl tie2 noOwnUnsafe
theorem gramPrefixUpto_row_tie : Rows.gramPrefixUptoRow.laidByTextAt .later Tryd.pinned [.sentinel, .sentinel] true :=
  OpenClaim.laidByTextAt_later rfl rfl tie noOwnUnsafe
theorem emitPartsUpto_row_tie : Rows.emitPartsUptoRow.laidByTextAt .later Tryd.pinned [.data, .sentinel, .sentinel, .sentinel, .sentinel, .sentinel, .sentinel, .sentinel, .sentinel, .sentinel, .sentinel, .sentinel, .sentinel, .sentinel, .sentinel, .sentinel, .sentinel, .pinned] true :=
  OpenClaim.laidByTextAt_pinned rfl rfl tie3 rfl rfl rfl rfl (fun y hy _e => by
    simp only [Rows.emitPartsUptoRow, List.zip_cons_cons, List.zip_nil_right, List.mem_cons, List.mem_nil_iff, or_false] at hy
    rcases hy with rfl | rfl | rfl | rfl | rfl | rfl | rfl | rfl | rfl | rfl | rfl | rfl | rfl | rfl | rfl | rfl | rfl | rfl
    · cases _e
    · cases _e
    · cases _e
    · cases _e
    · cases _e
    · cases _e
    · cases _e
    · cases _e
    · cases _e
    · cases _e
    · cases _e
    · cases _e
    · cases _e
    · cases _e
    · cases _e
    · cases _e
    · cases _e
    · exact ⟨pin_laid_unicode_utf8_first, by kernel_rfl⟩) fits3
theorem emitTokensUpto_row_tie : Rows.emitTokensUptoRow.laidByTextAt .later Tryd.pinned [.data, .sentinel, .sentinel, .sentinel, .sentinel, .sentinel, .sentinel, .sentinel, .sentinel, .sentinel, .sentinel, .sentinel, .sentinel, .sentinel, .sentinel, .sentinel, .sentinel, .pinned] true :=
  OpenClaim.laidByTextAt_pinned rfl rfl tie3 rfl rfl rfl rfl (fun y hy _e => by
    simp only [Rows.emitTokensUptoRow, List.zip_cons_cons, List.zip_nil_right, List.mem_cons, List.mem_nil_iff, or_false] at hy
    rcases hy with rfl | rfl | rfl | rfl | rfl | rfl | rfl | rfl | rfl | rfl | rfl | rfl | rfl | rfl | rfl | rfl | rfl | rfl
    · cases _e
    · cases _e
    · cases _e
    · cases _e
    · cases _e
    · cases _e
    · cases _e
    · cases _e
    · cases _e
    · cases _e
    · cases _e
    · cases _e
    · cases _e
    · cases _e
    · cases _e
    · cases _e
    · cases _e
    · exact ⟨pin_laid_unicode_utf8_first, by kernel_rfl⟩) fits3
theorem cleanPlainUpto_row_tie : Rows.cleanPlainUptoRow.laidByTextAt .later Tryd.pinned [.data, .sentinel, .sentinel, .pinned] true :=
  OpenClaim.laidByTextAt_pinned rfl rfl tie4 rfl rfl rfl rfl (fun y hy _e => by
    simp only [Rows.cleanPlainUptoRow, List.zip_cons_cons, List.zip_nil_right, List.mem_cons, List.mem_nil_iff, or_false] at hy
    rcases hy with rfl | rfl | rfl | rfl
    · cases _e
    · cases _e
    · cases _e
    · exact ⟨pin_laid_unicode_utf8_first, by kernel_rfl⟩) fits4
theorem emitBackUpto_row_tie : Rows.emitBackUptoRow.laidByTextAt .later Tryd.pinned [.data, .sentinel, .sentinel, .sentinel, .pinned] true :=
  OpenClaim.laidByTextAt_pinned rfl rfl tie5 rfl rfl rfl rfl (fun y hy _e => by
    simp only [Rows.emitBackUptoRow, List.zip_cons_cons, List.zip_nil_right, List.mem_cons, List.mem_nil_iff, or_false] at hy
    rcases hy with rfl | rfl | rfl | rfl | rfl
    · cases _e
    · cases _e
    · cases _e
    · cases _e
    · exact ⟨pin_laid_unicode_utf8_first, by kernel_rfl⟩) fits5
theorem gramEmitsUpto_row_tie : Rows.gramEmitsUptoRow.laidByTextAt .later Tryd.pinned [.data, .sentinel, .sentinel, .sentinel, .sentinel, .sentinel, .pinned] true :=
  OpenClaim.laidByTextAt_pinned rfl rfl tie6 rfl rfl rfl rfl (fun y hy _e => by
    simp only [Rows.gramEmitsUptoRow, List.zip_cons_cons, List.zip_nil_right, List.mem_cons, List.mem_nil_iff, or_false] at hy
    rcases hy with rfl | rfl | rfl | rfl | rfl | rfl | rfl
    · cases _e
    · cases _e
    · cases _e
    · cases _e
    · cases _e
    · cases _e
    · exact ⟨pin_laid_unicode_utf8_first, by kernel_rfl⟩) fits6
end Go.Proofs.YtcphocfnhekdaaaDoor
