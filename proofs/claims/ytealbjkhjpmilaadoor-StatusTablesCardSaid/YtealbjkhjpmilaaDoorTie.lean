/-
  DERIVED. GIVEN WITH THE SEED: THE PROGRAM's TIES (one call each: nine closed facts by the kernel) AND EACH ROW's TIE, after the 31st guide's Derived/Test/Toyas{Tie, Card}.lean. No idea stands in it: it is a product of the set-up. Laid BY PROGRAM, IN A SANDBOX (cutbox-door.mjs). By AI agents, Wed Nov 11 2026. No macro, syntax, notation, axiom, sorry.
-/
import Derived.Test.YtealbjkhjpmilaaDoorRows
import Derived.LaidByTextLater
import Derived.SevenTiedAt
import Derived.LaidSub
import Derived.LaidOnce
namespace Go.Proofs.YtealbjkhjpmilaaDoor
open Go
set_option maxRecDepth 100000
theorem seatTie1 : Tryd.prog.laidByTextLater [("math/bits.deBruijn32tab", Rows.laid_math_bits_deBruijn32tab), ("math/bits.deBruijn64tab", Rows.laid_math_bits_deBruijn64tab), ("internal/strconv.uint64pow10", Rows.laid_internal_strconv_uint64pow10), ("unicode/utf8.acceptRanges", Rows.laid_unicode_utf8_acceptRanges), ("strconv.ErrRange", Rows.laid_strconv_ErrRange), ("strconv.ErrSyntax", Rows.laid_strconv_ErrSyntax), ("truchman/api.ErrRange", Rows.laid_truchman_api_ErrRange), ("truchman/api.ErrFull", Rows.laid_truchman_api_ErrFull), ("truchman/api.ErrShort", Rows.laid_truchman_api_ErrShort), ("truchman/api.ErrLong", Rows.laid_truchman_api_ErrLong), ("truchman/api.ErrForm", Rows.laid_truchman_api_ErrForm), ("truchman/api.ErrName", Rows.laid_truchman_api_ErrName), ("truchman/api.ErrNone", Rows.laid_truchman_api_ErrNone), ("truchman/api.ErrDup", Rows.laid_truchman_api_ErrDup), ("truchman/api.ErrKind", Rows.laid_truchman_api_ErrKind), ("truchman/api.ErrState", Rows.laid_truchman_api_ErrState), ("truchman/api.ErrDepth", Rows.laid_truchman_api_ErrDepth), ("truchman/api.ErrFuel", Rows.laid_truchman_api_ErrFuel), ("truchman/api.ErrStack", Rows.laid_truchman_api_ErrStack), ("truchman/api.ErrClosed", Rows.laid_truchman_api_ErrClosed), ("truchman/api.ErrEmpty", Rows.laid_truchman_api_ErrEmpty), ("truchman/api.ErrNumber", Rows.laid_truchman_api_ErrNumber), ("truchman/codes.words", Rows.laid_truchman_codes_words)] [.data, .data, .data, .data, .sentinel, .sentinel, .sentinel, .sentinel, .sentinel, .sentinel, .sentinel, .sentinel, .sentinel, .sentinel, .sentinel, .sentinel, .sentinel, .sentinel, .sentinel, .sentinel, .sentinel, .sentinel, .widerDeep] true :=
  Program.laidByTextLater_by_one 381 8 65 (by kernel_rfl) (by kernel_rfl) (by kernel_rfl) (by kernel_rfl) (by kernel_rfl) (by kernel_rfl) (fun _ _ => by kernel_rfl)
theorem pin_laid_unicode_utf8_first : Tryd.pinned.checked.prog.pinnedFits "unicode/utf8.first" = true := by kernel_rfl
theorem noOwnUnsafe : Tryd.pinned.checked.prog.headLifts.contains "ownunsafe" = false := by kernel_rfl
theorem tie : Tryd.prog.laidByTextLater [("truchman/api.ErrShort", Rows.laid_truchman_api_ErrShort), ("truchman/api.ErrLong", Rows.laid_truchman_api_ErrLong), ("truchman/api.ErrForm", Rows.laid_truchman_api_ErrForm), ("truchman/api.ErrDup", Rows.laid_truchman_api_ErrDup), ("truchman/api.ErrKind", Rows.laid_truchman_api_ErrKind), ("truchman/api.ErrState", Rows.laid_truchman_api_ErrState)] [.sentinel, .sentinel, .sentinel, .sentinel, .sentinel, .sentinel] true :=
  Program.laidByTextLater.sub seatTie1 ["truchman/api.ErrShort", "truchman/api.ErrLong", "truchman/api.ErrForm", "truchman/api.ErrDup", "truchman/api.ErrKind", "truchman/api.ErrState"] (by kernel_rfl) (by kernel_rfl)
theorem modeRests_row_tie : Rows.modeRestsRow.laidByTextAt .later Tryd.pinned [.sentinel, .sentinel, .sentinel, .sentinel, .sentinel, .sentinel] true :=
  OpenClaim.laidByTextAt_later rfl rfl tie noOwnUnsafe
theorem fits2 : Tryd.pinned.checked.prog.listedFits [("unicode/utf8.acceptRanges", Rows.laid_unicode_utf8_acceptRanges), ("unicode/utf8.first", Rows.laid_unicode_utf8_first)] = true := by
  unfold Program.listedFits
  rw [noOwnUnsafe]
  kernel_rfl
theorem tie2 : Tryd.prog.laidByTextLater [("unicode/utf8.acceptRanges", Rows.laid_unicode_utf8_acceptRanges)] [.data] true :=
  Program.laidByTextLater.sub seatTie1 ["unicode/utf8.acceptRanges"] (by kernel_rfl) (by kernel_rfl)
theorem maskRows_row_tie : Rows.maskRowsRow.laidByTextAt .later Tryd.pinned [.data, .pinned] true :=
  OpenClaim.laidByTextAt_pinned rfl rfl tie2 rfl rfl rfl rfl (fun y hy _e => by
    simp only [Rows.maskRowsRow, List.zip_cons_cons, List.zip_nil_right, List.mem_cons, List.mem_nil_iff, or_false] at hy
    rcases hy with rfl | rfl
    · cases _e
    · exact ⟨pin_laid_unicode_utf8_first, by kernel_rfl⟩) fits2
theorem tie3 : Tryd.prog.laidByTextLater [("truchman/api.ErrRange", Rows.laid_truchman_api_ErrRange), ("truchman/api.ErrFull", Rows.laid_truchman_api_ErrFull), ("truchman/api.ErrShort", Rows.laid_truchman_api_ErrShort), ("truchman/api.ErrLong", Rows.laid_truchman_api_ErrLong), ("truchman/api.ErrForm", Rows.laid_truchman_api_ErrForm), ("truchman/api.ErrName", Rows.laid_truchman_api_ErrName), ("truchman/api.ErrNone", Rows.laid_truchman_api_ErrNone), ("truchman/api.ErrDup", Rows.laid_truchman_api_ErrDup), ("truchman/api.ErrKind", Rows.laid_truchman_api_ErrKind), ("truchman/api.ErrState", Rows.laid_truchman_api_ErrState), ("truchman/api.ErrDepth", Rows.laid_truchman_api_ErrDepth), ("truchman/api.ErrFuel", Rows.laid_truchman_api_ErrFuel), ("truchman/api.ErrStack", Rows.laid_truchman_api_ErrStack), ("truchman/api.ErrClosed", Rows.laid_truchman_api_ErrClosed), ("truchman/api.ErrEmpty", Rows.laid_truchman_api_ErrEmpty), ("truchman/api.ErrNumber", Rows.laid_truchman_api_ErrNumber)] [.sentinel, .sentinel, .sentinel, .sentinel, .sentinel, .sentinel, .sentinel, .sentinel, .sentinel, .sentinel, .sentinel, .sentinel, .sentinel, .sentinel, .sentinel, .sentinel] true :=
  Program.laidByTextLater.sub seatTie1 ["truchman/api.ErrRange", "truchman/api.ErrFull", "truchman/api.ErrShort", "truchman/api.ErrLong", "truchman/api.ErrForm", "truchman/api.ErrName", "truchman/api.ErrNone", "truchman/api.ErrDup", "truchman/api.ErrKind", "truchman/api.ErrState", "truchman/api.ErrDepth", "truchman/api.ErrFuel", "truchman/api.ErrStack", "truchman/api.ErrClosed", "truchman/api.ErrEmpty", "truchman/api.ErrNumber"] (by kernel_rfl) (by kernel_rfl)
theorem modeBodies_row_tie : Rows.modeBodiesRow.laidByTextAt .later Tryd.pinned [.sentinel, .sentinel, .sentinel, .sentinel, .sentinel, .sentinel, .sentinel, .sentinel, .sentinel, .sentinel, .sentinel, .sentinel, .sentinel, .sentinel, .sentinel, .sentinel] true :=
  OpenClaim.laidByTextAt_later rfl rfl tie3 noOwnUnsafe
theorem modeActs_row_tie : Rows.modeActsRow.laidByTextAt .later Tryd.pinned [.sentinel, .sentinel, .sentinel, .sentinel, .sentinel, .sentinel, .sentinel, .sentinel, .sentinel, .sentinel, .sentinel, .sentinel, .sentinel, .sentinel, .sentinel, .sentinel] true :=
  OpenClaim.laidByTextAt_later rfl rfl tie3 noOwnUnsafe
theorem fits4 : Tryd.pinned.checked.prog.listedFits [("unicode/utf8.acceptRanges", Rows.laid_unicode_utf8_acceptRanges), ("truchman/api.ErrShort", Rows.laid_truchman_api_ErrShort), ("truchman/api.ErrLong", Rows.laid_truchman_api_ErrLong), ("truchman/api.ErrKind", Rows.laid_truchman_api_ErrKind), ("unicode/utf8.first", Rows.laid_unicode_utf8_first)] = true := by
  unfold Program.listedFits
  rw [noOwnUnsafe]
  kernel_rfl
theorem tie4 : Tryd.prog.laidByTextLater [("unicode/utf8.acceptRanges", Rows.laid_unicode_utf8_acceptRanges), ("truchman/api.ErrShort", Rows.laid_truchman_api_ErrShort), ("truchman/api.ErrLong", Rows.laid_truchman_api_ErrLong), ("truchman/api.ErrKind", Rows.laid_truchman_api_ErrKind)] [.data, .sentinel, .sentinel, .sentinel] true :=
  Program.laidByTextLater.sub seatTie1 ["unicode/utf8.acceptRanges", "truchman/api.ErrShort", "truchman/api.ErrLong", "truchman/api.ErrKind"] (by kernel_rfl) (by kernel_rfl)
theorem maskBack_row_tie : Rows.maskBackRow.laidByTextAt .later Tryd.pinned [.data, .sentinel, .sentinel, .sentinel, .pinned] true :=
  OpenClaim.laidByTextAt_pinned rfl rfl tie4 rfl rfl rfl rfl (fun y hy _e => by
    simp only [Rows.maskBackRow, List.zip_cons_cons, List.zip_nil_right, List.mem_cons, List.mem_nil_iff, or_false] at hy
    rcases hy with rfl | rfl | rfl | rfl | rfl
    · cases _e
    · cases _e
    · cases _e
    · cases _e
    · exact ⟨pin_laid_unicode_utf8_first, by kernel_rfl⟩) fits4
theorem fits5 : Tryd.pinned.checked.prog.listedFits [("unicode/utf8.acceptRanges", Rows.laid_unicode_utf8_acceptRanges), ("truchman/api.ErrRange", Rows.laid_truchman_api_ErrRange), ("truchman/api.ErrFull", Rows.laid_truchman_api_ErrFull), ("truchman/api.ErrShort", Rows.laid_truchman_api_ErrShort), ("truchman/api.ErrLong", Rows.laid_truchman_api_ErrLong), ("truchman/api.ErrForm", Rows.laid_truchman_api_ErrForm), ("truchman/api.ErrName", Rows.laid_truchman_api_ErrName), ("truchman/api.ErrNone", Rows.laid_truchman_api_ErrNone), ("truchman/api.ErrDup", Rows.laid_truchman_api_ErrDup), ("truchman/api.ErrKind", Rows.laid_truchman_api_ErrKind), ("truchman/api.ErrState", Rows.laid_truchman_api_ErrState), ("truchman/api.ErrDepth", Rows.laid_truchman_api_ErrDepth), ("truchman/api.ErrFuel", Rows.laid_truchman_api_ErrFuel), ("truchman/api.ErrStack", Rows.laid_truchman_api_ErrStack), ("truchman/api.ErrClosed", Rows.laid_truchman_api_ErrClosed), ("truchman/api.ErrEmpty", Rows.laid_truchman_api_ErrEmpty), ("truchman/api.ErrNumber", Rows.laid_truchman_api_ErrNumber), ("unicode/utf8.first", Rows.laid_unicode_utf8_first)] = true := by
  unfold Program.listedFits
  rw [noOwnUnsafe]
  kernel_rfl
theorem tie5 : Tryd.prog.laidByTextLater [("unicode/utf8.acceptRanges", Rows.laid_unicode_utf8_acceptRanges), ("truchman/api.ErrRange", Rows.laid_truchman_api_ErrRange), ("truchman/api.ErrFull", Rows.laid_truchman_api_ErrFull), ("truchman/api.ErrShort", Rows.laid_truchman_api_ErrShort), ("truchman/api.ErrLong", Rows.laid_truchman_api_ErrLong), ("truchman/api.ErrForm", Rows.laid_truchman_api_ErrForm), ("truchman/api.ErrName", Rows.laid_truchman_api_ErrName), ("truchman/api.ErrNone", Rows.laid_truchman_api_ErrNone), ("truchman/api.ErrDup", Rows.laid_truchman_api_ErrDup), ("truchman/api.ErrKind", Rows.laid_truchman_api_ErrKind), ("truchman/api.ErrState", Rows.laid_truchman_api_ErrState), ("truchman/api.ErrDepth", Rows.laid_truchman_api_ErrDepth), ("truchman/api.ErrFuel", Rows.laid_truchman_api_ErrFuel), ("truchman/api.ErrStack", Rows.laid_truchman_api_ErrStack), ("truchman/api.ErrClosed", Rows.laid_truchman_api_ErrClosed), ("truchman/api.ErrEmpty", Rows.laid_truchman_api_ErrEmpty), ("truchman/api.ErrNumber", Rows.laid_truchman_api_ErrNumber)] [.data, .sentinel, .sentinel, .sentinel, .sentinel, .sentinel, .sentinel, .sentinel, .sentinel, .sentinel, .sentinel, .sentinel, .sentinel, .sentinel, .sentinel, .sentinel, .sentinel] true :=
  Program.laidByTextLater.sub seatTie1 ["unicode/utf8.acceptRanges", "truchman/api.ErrRange", "truchman/api.ErrFull", "truchman/api.ErrShort", "truchman/api.ErrLong", "truchman/api.ErrForm", "truchman/api.ErrName", "truchman/api.ErrNone", "truchman/api.ErrDup", "truchman/api.ErrKind", "truchman/api.ErrState", "truchman/api.ErrDepth", "truchman/api.ErrFuel", "truchman/api.ErrStack", "truchman/api.ErrClosed", "truchman/api.ErrEmpty", "truchman/api.ErrNumber"] (by kernel_rfl) (by kernel_rfl)
theorem maskBodies_row_tie : Rows.maskBodiesRow.laidByTextAt .later Tryd.pinned [.data, .sentinel, .sentinel, .sentinel, .sentinel, .sentinel, .sentinel, .sentinel, .sentinel, .sentinel, .sentinel, .sentinel, .sentinel, .sentinel, .sentinel, .sentinel, .sentinel, .pinned] true :=
  OpenClaim.laidByTextAt_pinned rfl rfl tie5 rfl rfl rfl rfl (fun y hy _e => by
    simp only [Rows.maskBodiesRow, List.zip_cons_cons, List.zip_nil_right, List.mem_cons, List.mem_nil_iff, or_false] at hy
    rcases hy with rfl | rfl | rfl | rfl | rfl | rfl | rfl | rfl | rfl | rfl | rfl | rfl | rfl | rfl | rfl | rfl | rfl | rfl
    · cases _e
    · cases _e
    · cases _e
    · cases _e
    · cases _e
    · cases _e
    · cases _e
    · cases _e
    · cases _e
    · cases _e
    · cases _e
    · cases _e
    · cases _e
    · cases _e
    · cases _e
    · cases _e
    · cases _e
    · exact ⟨pin_laid_unicode_utf8_first, by kernel_rfl⟩) fits5
theorem tie6 : Tryd.prog.laidByTextLater [("math/bits.deBruijn32tab", Rows.laid_math_bits_deBruijn32tab), ("math/bits.deBruijn64tab", Rows.laid_math_bits_deBruijn64tab), ("internal/strconv.uint64pow10", Rows.laid_internal_strconv_uint64pow10), ("truchman/codes.words", Rows.laid_truchman_codes_words)] [.data, .data, .data, .widerDeep] true :=
  Program.laidByTextLater.sub seatTie1 ["math/bits.deBruijn32tab", "math/bits.deBruijn64tab", "internal/strconv.uint64pow10", "truchman/codes.words"] (by kernel_rfl) (by kernel_rfl)
theorem codesTell_row_tie : Rows.codesTellRow.laidByTextAt .later Tryd.pinned [.data, .data, .data, .widerDeep] true :=
  OpenClaim.laidByTextAt_later rfl rfl tie6 noOwnUnsafe
theorem tie7 : Tryd.prog.laidByTextLater [("math/bits.deBruijn32tab", Rows.laid_math_bits_deBruijn32tab), ("math/bits.deBruijn64tab", Rows.laid_math_bits_deBruijn64tab), ("internal/strconv.uint64pow10", Rows.laid_internal_strconv_uint64pow10), ("truchman/api.ErrRange", Rows.laid_truchman_api_ErrRange), ("truchman/api.ErrFull", Rows.laid_truchman_api_ErrFull), ("truchman/api.ErrShort", Rows.laid_truchman_api_ErrShort), ("truchman/api.ErrLong", Rows.laid_truchman_api_ErrLong), ("truchman/api.ErrForm", Rows.laid_truchman_api_ErrForm), ("truchman/api.ErrName", Rows.laid_truchman_api_ErrName), ("truchman/api.ErrNone", Rows.laid_truchman_api_ErrNone), ("truchman/api.ErrDup", Rows.laid_truchman_api_ErrDup), ("truchman/api.ErrKind", Rows.laid_truchman_api_ErrKind), ("truchman/api.ErrState", Rows.laid_truchman_api_ErrState), ("truchman/api.ErrDepth", Rows.laid_truchman_api_ErrDepth), ("truchman/api.ErrFuel", Rows.laid_truchman_api_ErrFuel), ("truchman/api.ErrStack", Rows.laid_truchman_api_ErrStack), ("truchman/api.ErrClosed", Rows.laid_truchman_api_ErrClosed), ("truchman/api.ErrEmpty", Rows.laid_truchman_api_ErrEmpty), ("truchman/api.ErrNumber", Rows.laid_truchman_api_ErrNumber), ("truchman/codes.words", Rows.laid_truchman_codes_words)] [.data, .data, .data, .sentinel, .sentinel, .sentinel, .sentinel, .sentinel, .sentinel, .sentinel, .sentinel, .sentinel, .sentinel, .sentinel, .sentinel, .sentinel, .sentinel, .sentinel, .sentinel, .widerDeep] true :=
  Program.laidByTextLater.sub seatTie1 ["math/bits.deBruijn32tab", "math/bits.deBruijn64tab", "internal/strconv.uint64pow10", "truchman/api.ErrRange", "truchman/api.ErrFull", "truchman/api.ErrShort", "truchman/api.ErrLong", "truchman/api.ErrForm", "truchman/api.ErrName", "truchman/api.ErrNone", "truchman/api.ErrDup", "truchman/api.ErrKind", "truchman/api.ErrState", "truchman/api.ErrDepth", "truchman/api.ErrFuel", "truchman/api.ErrStack", "truchman/api.ErrClosed", "truchman/api.ErrEmpty", "truchman/api.ErrNumber", "truchman/codes.words"] (by kernel_rfl) (by kernel_rfl)
theorem statusBodies_row_tie : Rows.statusBodiesRow.laidByTextAt .later Tryd.pinned [.data, .data, .data, .sentinel, .sentinel, .sentinel, .sentinel, .sentinel, .sentinel, .sentinel, .sentinel, .sentinel, .sentinel, .sentinel, .sentinel, .sentinel, .sentinel, .sentinel, .sentinel, .widerDeep] true :=
  OpenClaim.laidByTextAt_later rfl rfl tie7 noOwnUnsafe
theorem statusTables_row_tie : Rows.statusTablesRow.laidByTextAt .later Tryd.pinned [.data, .data, .data, .sentinel, .sentinel, .sentinel, .sentinel, .sentinel, .sentinel, .sentinel, .sentinel, .sentinel, .sentinel, .sentinel, .sentinel, .sentinel, .sentinel, .sentinel, .sentinel, .widerDeep] true :=
  OpenClaim.laidByTextAt_later rfl rfl tie7 noOwnUnsafe
theorem tie8 : Tryd.prog.laidByTextLater [("math/bits.deBruijn32tab", Rows.laid_math_bits_deBruijn32tab), ("math/bits.deBruijn64tab", Rows.laid_math_bits_deBruijn64tab), ("internal/strconv.uint64pow10", Rows.laid_internal_strconv_uint64pow10), ("strconv.ErrRange", Rows.laid_strconv_ErrRange), ("strconv.ErrSyntax", Rows.laid_strconv_ErrSyntax)] [.data, .data, .data, .sentinel, .sentinel] true :=
  Program.laidByTextLater.sub seatTie1 ["math/bits.deBruijn32tab", "math/bits.deBruijn64tab", "internal/strconv.uint64pow10", "strconv.ErrRange", "strconv.ErrSyntax"] (by kernel_rfl) (by kernel_rfl)
theorem codesNames_row_tie : Rows.codesNamesRow.laidByTextAt .later Tryd.pinned [.data, .data, .data, .sentinel, .sentinel] true :=
  OpenClaim.laidByTextAt_later rfl rfl tie8 noOwnUnsafe
theorem tie9 : Tryd.prog.laidByTextLater [("math/bits.deBruijn32tab", Rows.laid_math_bits_deBruijn32tab), ("math/bits.deBruijn64tab", Rows.laid_math_bits_deBruijn64tab), ("internal/strconv.uint64pow10", Rows.laid_internal_strconv_uint64pow10), ("strconv.ErrRange", Rows.laid_strconv_ErrRange), ("strconv.ErrSyntax", Rows.laid_strconv_ErrSyntax), ("truchman/codes.words", Rows.laid_truchman_codes_words)] [.data, .data, .data, .sentinel, .sentinel, .widerDeep] true :=
  Program.laidByTextLater.sub seatTie1 ["math/bits.deBruijn32tab", "math/bits.deBruijn64tab", "internal/strconv.uint64pow10", "strconv.ErrRange", "strconv.ErrSyntax", "truchman/codes.words"] (by kernel_rfl) (by kernel_rfl)
theorem codesOwn_row_tie : Rows.codesOwnRow.laidByTextAt .later Tryd.pinned [.data, .data, .data, .sentinel, .sentinel, .widerDeep] true :=
  OpenClaim.laidByTextAt_later rfl rfl tie9 noOwnUnsafe
theorem modeRestsUpto_row_tie : Rows.modeRestsUptoRow.laidByTextAt .later Tryd.pinned [.sentinel, .sentinel, .sentinel, .sentinel, .sentinel, .sentinel] true :=
  OpenClaim.laidByTextAt_later rfl rfl tie noOwnUnsafe
theorem maskRowsUpto_row_tie : Rows.maskRowsUptoRow.laidByTextAt .later Tryd.pinned [.data, .pinned] true :=
  OpenClaim.laidByTextAt_pinned rfl rfl tie2 rfl rfl rfl rfl (fun y hy _e => by
    simp only [Rows.maskRowsUptoRow, List.zip_cons_cons, List.zip_nil_right, List.mem_cons, List.mem_nil_iff, or_false] at hy
    rcases hy with rfl | rfl
    · cases _e
    · exact ⟨pin_laid_unicode_utf8_first, by kernel_rfl⟩) fits2
theorem modeBodiesUpto_row_tie : Rows.modeBodiesUptoRow.laidByTextAt .later Tryd.pinned [.sentinel, .sentinel, .sentinel, .sentinel, .sentinel, .sentinel, .sentinel, .sentinel, .sentinel, .sentinel, .sentinel, .sentinel, .sentinel, .sentinel, .sentinel, .sentinel] true :=
  OpenClaim.laidByTextAt_later rfl rfl tie3 noOwnUnsafe
theorem modeActsUpto_row_tie : Rows.modeActsUptoRow.laidByTextAt .later Tryd.pinned [.sentinel, .sentinel, .sentinel, .sentinel, .sentinel, .sentinel, .sentinel, .sentinel, .sentinel, .sentinel, .sentinel, .sentinel, .sentinel, .sentinel, .sentinel, .sentinel] true :=
  OpenClaim.laidByTextAt_later rfl rfl tie3 noOwnUnsafe
theorem maskBackUpto_row_tie : Rows.maskBackUptoRow.laidByTextAt .later Tryd.pinned [.data, .sentinel, .sentinel, .sentinel, .pinned] true :=
  OpenClaim.laidByTextAt_pinned rfl rfl tie4 rfl rfl rfl rfl (fun y hy _e => by
    simp only [Rows.maskBackUptoRow, List.zip_cons_cons, List.zip_nil_right, List.mem_cons, List.mem_nil_iff, or_false] at hy
    rcases hy with rfl | rfl | rfl | rfl | rfl
    · cases _e
    · cases _e
    · cases _e
    · cases _e
    · exact ⟨pin_laid_unicode_utf8_first, by kernel_rfl⟩) fits4
theorem maskBodiesUpto_row_tie : Rows.maskBodiesUptoRow.laidByTextAt .later Tryd.pinned [.data, .sentinel, .sentinel, .sentinel, .sentinel, .sentinel, .sentinel, .sentinel, .sentinel, .sentinel, .sentinel, .sentinel, .sentinel, .sentinel, .sentinel, .sentinel, .sentinel, .pinned] true :=
  OpenClaim.laidByTextAt_pinned rfl rfl tie5 rfl rfl rfl rfl (fun y hy _e => by
    simp only [Rows.maskBodiesUptoRow, List.zip_cons_cons, List.zip_nil_right, List.mem_cons, List.mem_nil_iff, or_false] at hy
    rcases hy with rfl | rfl | rfl | rfl | rfl | rfl | rfl | rfl | rfl | rfl | rfl | rfl | rfl | rfl | rfl | rfl | rfl | rfl
    · cases _e
    · cases _e
    · cases _e
    · cases _e
    · cases _e
    · cases _e
    · cases _e
    · cases _e
    · cases _e
    · cases _e
    · cases _e
    · cases _e
    · cases _e
    · cases _e
    · cases _e
    · cases _e
    · cases _e
    · exact ⟨pin_laid_unicode_utf8_first, by kernel_rfl⟩) fits5
theorem codesTellUpto_row_tie : Rows.codesTellUptoRow.laidByTextAt .later Tryd.pinned [.data, .data, .data, .widerDeep] true :=
  OpenClaim.laidByTextAt_later rfl rfl tie6 noOwnUnsafe
theorem statusBodiesUpto_row_tie : Rows.statusBodiesUptoRow.laidByTextAt .later Tryd.pinned [.data, .data, .data, .sentinel, .sentinel, .sentinel, .sentinel, .sentinel, .sentinel, .sentinel, .sentinel, .sentinel, .sentinel, .sentinel, .sentinel, .sentinel, .sentinel, .sentinel, .sentinel, .widerDeep] true :=
  OpenClaim.laidByTextAt_later rfl rfl tie7 noOwnUnsafe
theorem statusTablesUpto_row_tie : Rows.statusTablesUptoRow.laidByTextAt .later Tryd.pinned [.data, .data, .data, .sentinel, .sentinel, .sentinel, .sentinel, .sentinel, .sentinel, .sentinel, .sentinel, .sentinel, .sentinel, .sentinel, .sentinel, .sentinel, .sentinel, .sentinel, .sentinel, .widerDeep] true :=
  OpenClaim.laidByTextAt_later rfl rfl tie7 noOwnUnsafe
theorem codesNamesUpto_row_tie : Rows.codesNamesUptoRow.laidByTextAt .later Tryd.pinned [.data, .data, .data, .sentinel, .sentinel] true :=
  OpenClaim.laidByTextAt_later rfl rfl tie8 noOwnUnsafe
theorem codesOwnUpto_row_tie : Rows.codesOwnUptoRow.laidByTextAt .later Tryd.pinned [.data, .data, .data, .sentinel, .sentinel, .widerDeep] true :=
  OpenClaim.laidByTextAt_later rfl rfl tie9 noOwnUnsafe
end Go.Proofs.YtealbjkhjpmilaaDoor
