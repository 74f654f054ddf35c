/-
  NARROWER THAN 'FOR EVERY INPUT', by the rows' own cells (each row's printed sentence says how): GramItems: laid · GramParses: laid · GramPrefix: laid · EmitParts: laid · EmitTokens: laid · CleanPlain: laid · EmitBack: laid · GramEmits: laid.
  DERIVED. THE GIVEN ROWS OF THIS SEAT. 8 by the template 'for every input the law returns true; each argument reads behind the call as it read before'; 0 by the template 'total and deterministic' (their statements: YtcphocfnhekdaaaDoorTotals.lean).
  GIVEN WITH THE SEED: the statements are not yours to turn. If you find one false, say at which input.
  Laid BY PROGRAM, IN A SANDBOX (cutbox-rows.mjs): the forced cells as the released guide's own fill.sh prints them over the translation de866b06bac5c855… (all of the seat's roots in one cut). By AI agents, Wed Nov 11 2026. No macro, syntax, notation, axiom, sorry.
-/
import Derived.Test.YtcphocfnhekdaaaDoorChecked
import GoSem.PinnedTables
import GoSem.Claim
import GoSem.ClaimJoined
import GoSem.ClaimMapViews
import Derived.JoinedTies
import Derived.KernelRfl
namespace Go.Proofs.YtcphocfnhekdaaaDoor
/- THE CELL 'sum', in the pinned program and in every row, IS THE sha256 OF THE DUMP (.gsa) THAT YtcphocfnhekdaaaDoorProg.lean LOADS. Nothing in Lean hashes anything: it is a label: what it is worth is what the hold of that sum in a sandbox is worth. -/
noncomputable def Tryd.pinned : Pinned := { name := "ytcphocfnhekdaaadoor", sum := "de866b06bac5c855467f8fc10cb29821d50d24965ac64d51db3ff23be3798244", checked := Tryd.checked }
namespace Rows
def none {H : Type} : Left H := { results := [], args := [] }

/- WHAT THE LISTED PACKAGE-LEVEL VARIABLES READ AS WHEN THE CALL BEGINS. Each datum BY PROGRAM (the guide's laid-datum.mjs) off the statement by which the dump's own 'gosem.cut.vars' lays the variable. In a bare row this is a premise. The card (YtcphocfnhekdaaaDoorCards.lean) ties it to the program's text. -/
def laid_truchman_api_ErrShort {H : Type} : DataW H := .iface "*errors.errorString" (.ptr (.agg [.lit (.string [115, 111, 109, 101, 116, 104, 105, 110, 103, 32, 105, 115, 32, 109, 105, 115, 115, 105, 110, 103, 32, 97, 116, 32, 116, 104, 101, 32, 101, 110, 100])]))
def laid_truchman_api_ErrForm {H : Type} : DataW H := .iface "*errors.errorString" (.ptr (.agg [.lit (.string [105, 116, 32, 105, 115, 32, 110, 111, 116, 32, 111, 102, 32, 105, 116, 115, 32, 102, 111, 114, 109])]))
def laid_truchman_api_ErrRange {H : Type} : DataW H := .iface "*errors.errorString" (.ptr (.agg [.lit (.string [97, 32, 110, 117, 109, 98, 101, 114, 32, 105, 115, 32, 111, 117, 116, 32, 111, 102, 32, 105, 116, 115, 32, 114, 97, 110, 103, 101])]))
def laid_truchman_api_ErrFull {H : Type} : DataW H := .iface "*errors.errorString" (.ptr (.agg [.lit (.string [116, 104, 101, 114, 101, 32, 105, 115, 32, 110, 111, 32, 109, 111, 114, 101, 32, 114, 111, 111, 109])]))
def laid_truchman_api_ErrLong {H : Type} : DataW H := .iface "*errors.errorString" (.ptr (.agg [.lit (.string [116, 104, 101, 114, 101, 32, 105, 115, 32, 109, 111, 114, 101, 32, 116, 104, 97, 110, 32, 109, 97, 121, 32, 98, 101])]))
def laid_truchman_api_ErrName {H : Type} : DataW H := .iface "*errors.errorString" (.ptr (.agg [.lit (.string [116, 104, 101, 114, 101, 32, 105, 115, 32, 110, 111, 32, 115, 117, 99, 104, 32, 110, 97, 109, 101])]))
def laid_truchman_api_ErrNone {H : Type} : DataW H := .iface "*errors.errorString" (.ptr (.agg [.lit (.string [116, 104, 101, 114, 101, 32, 105, 115, 32, 110, 111, 110, 101])]))
def laid_truchman_api_ErrDup {H : Type} : DataW H := .iface "*errors.errorString" (.ptr (.agg [.lit (.string [105, 116, 32, 105, 115, 32, 116, 104, 101, 114, 101, 32, 97, 108, 114, 101, 97, 100, 121])]))
def laid_truchman_api_ErrKind {H : Type} : DataW H := .iface "*errors.errorString" (.ptr (.agg [.lit (.string [105, 116, 32, 105, 115, 32, 111, 102, 32, 97, 110, 111, 116, 104, 101, 114, 32, 107, 105, 110, 100])]))
def laid_truchman_api_ErrState {H : Type} : DataW H := .iface "*errors.errorString" (.ptr (.agg [.lit (.string [105, 116, 32, 99, 97, 110, 32, 110, 111, 116, 32, 98, 101, 32, 100, 111, 110, 101, 32, 105, 110, 32, 116, 104, 105, 115, 32, 115, 116, 97, 116, 101])]))
def laid_truchman_api_ErrDepth {H : Type} : DataW H := .iface "*errors.errorString" (.ptr (.agg [.lit (.string [105, 116, 32, 103, 111, 101, 115, 32, 116, 111, 111, 32, 100, 101, 101, 112])]))
def laid_truchman_api_ErrFuel {H : Type} : DataW H := .iface "*errors.errorString" (.ptr (.agg [.lit (.string [116, 104, 101, 32, 102, 117, 101, 108, 32, 105, 115, 32, 115, 112, 101, 110, 116])]))
def laid_truchman_api_ErrStack {H : Type} : DataW H := .iface "*errors.errorString" (.ptr (.agg [.lit (.string [116, 104, 101, 114, 101, 32, 97, 114, 101, 32, 116, 111, 111, 32, 109, 97, 110, 121, 32, 99, 97, 108, 108, 115, 32, 119, 105, 116, 104, 105, 110, 32, 111, 110, 101, 32, 97, 110, 111, 116, 104, 101, 114])]))
def laid_truchman_api_ErrClosed {H : Type} : DataW H := .iface "*errors.errorString" (.ptr (.agg [.lit (.string [105, 116, 32, 105, 115, 32, 99, 108, 111, 115, 101, 100])]))
def laid_truchman_api_ErrEmpty {H : Type} : DataW H := .iface "*errors.errorString" (.ptr (.agg [.lit (.string [105, 116, 32, 119, 111, 117, 108, 100, 32, 109, 97, 116, 99, 104, 32, 110, 111, 116, 104, 105, 110, 103, 32, 97, 116, 32, 97, 108, 108])]))
def laid_truchman_api_ErrNumber {H : Type} : DataW H := .iface "*errors.errorString" (.ptr (.agg [.lit (.string [116, 104, 101, 32, 116, 101, 120, 116, 32, 105, 115, 32, 110, 111, 32, 110, 117, 109, 98, 101, 114])]))
def laid_unicode_utf8_acceptRanges {H : Type} : DataW H := .agg [.agg [.lit (.int .u8 128), .lit (.int .u8 191)], .agg [.lit (.int .u8 160), .lit (.int .u8 191)], .agg [.lit (.int .u8 128), .lit (.int .u8 159)], .agg [.lit (.int .u8 144), .lit (.int .u8 191)], .agg [.lit (.int .u8 128), .lit (.int .u8 143)], .agg [.lit (.int .u8 0), .lit (.int .u8 0)], .agg [.lit (.int .u8 0), .lit (.int .u8 0)], .agg [.lit (.int .u8 0), .lit (.int .u8 0)], .agg [.lit (.int .u8 0), .lit (.int .u8 0)], .agg [.lit (.int .u8 0), .lit (.int .u8 0)], .agg [.lit (.int .u8 0), .lit (.int .u8 0)], .agg [.lit (.int .u8 0), .lit (.int .u8 0)], .agg [.lit (.int .u8 0), .lit (.int .u8 0)], .agg [.lit (.int .u8 0), .lit (.int .u8 0)], .agg [.lit (.int .u8 0), .lit (.int .u8 0)], .agg [.lit (.int .u8 0), .lit (.int .u8 0)]]
/-- One of Go's own tables, pinned by name: the form's constant. -/
def laid_unicode_utf8_first : DataW Unit := Go.Pinned.utf8First

/-- 'truchmanlaw07.GramItems': WHATEVER THE INPUT: true; the input reads as it did. -/
def gramItemsSpec : ChangeSpec := { name := "gramItems", fn := fun _ => fun
  | [d1, d2] => { results := [.lit (.bool true)], args := [d1, d2] }
  | _ => none }
def gramItemsRow : OpenClaim := { program := "ytcphocfnhekdaaadoor", sum := "de866b06bac5c855467f8fc10cb29821d50d24965ac64d51db3ff23be3798244", func := "truchman/truchmanlaw07.GramItems", spec := "gramItems", inPlace := ["internal/reflectlite.TypeOf"], unfollowed := true, recurses := true, named := ["truchman/api.ErrForm", "truchman/api.ErrShort"], apart := false, laid := [("truchman/api.ErrShort", laid_truchman_api_ErrShort), ("truchman/api.ErrForm", laid_truchman_api_ErrForm)] }
def GramItemsSaid : Prop := gramItemsRow.holds Tryd.pinned (OpenSpec.ofChange gramItemsSpec)

/-- ITS FALSE NEIGHBOUR: 'it returns false'. Refute it at one input. -/
def gramItemsWrong : ChangeSpec := { name := "gramItems", fn := fun _ => fun
  | [d1, d2] => { results := [.lit (.bool false)], args := [d1, d2] }
  | _ => none }
def GramItemsWrongFalsely : Prop := gramItemsRow.holds Tryd.pinned (OpenSpec.ofChange gramItemsWrong)

/-- 'truchmanlaw07.GramParses': WHATEVER THE INPUT: true; the input reads as it did. -/
def gramParsesSpec : ChangeSpec := { name := "gramParses", fn := fun _ => fun
  | [d1, d2, d3] => { results := [.lit (.bool true)], args := [d1, d2, d3] }
  | _ => none }
def gramParsesRow : OpenClaim := { program := "ytcphocfnhekdaaadoor", sum := "de866b06bac5c855467f8fc10cb29821d50d24965ac64d51db3ff23be3798244", func := "truchman/truchmanlaw07.GramParses", spec := "gramParses", inPlace := ["internal/reflectlite.TypeOf"], unfollowed := true, recurses := true, named := ["truchman/api.ErrForm", "truchman/api.ErrShort", "truchman/api.ErrRange", "truchman/api.ErrFull", "truchman/api.ErrLong", "truchman/api.ErrName", "truchman/api.ErrNone", "truchman/api.ErrDup", "truchman/api.ErrKind", "truchman/api.ErrState", "truchman/api.ErrDepth", "truchman/api.ErrFuel", "truchman/api.ErrStack", "truchman/api.ErrClosed", "truchman/api.ErrEmpty", "truchman/api.ErrNumber"], apart := false, laid := [("truchman/api.ErrRange", laid_truchman_api_ErrRange), ("truchman/api.ErrFull", laid_truchman_api_ErrFull), ("truchman/api.ErrShort", laid_truchman_api_ErrShort), ("truchman/api.ErrLong", laid_truchman_api_ErrLong), ("truchman/api.ErrForm", laid_truchman_api_ErrForm), ("truchman/api.ErrName", laid_truchman_api_ErrName), ("truchman/api.ErrNone", laid_truchman_api_ErrNone), ("truchman/api.ErrDup", laid_truchman_api_ErrDup), ("truchman/api.ErrKind", laid_truchman_api_ErrKind), ("truchman/api.ErrState", laid_truchman_api_ErrState), ("truchman/api.ErrDepth", laid_truchman_api_ErrDepth), ("truchman/api.ErrFuel", laid_truchman_api_ErrFuel), ("truchman/api.ErrStack", laid_truchman_api_ErrStack), ("truchman/api.ErrClosed", laid_truchman_api_ErrClosed), ("truchman/api.ErrEmpty", laid_truchman_api_ErrEmpty), ("truchman/api.ErrNumber", laid_truchman_api_ErrNumber)] }
def GramParsesSaid : Prop := gramParsesRow.holds Tryd.pinned (OpenSpec.ofChange gramParsesSpec)

/-- ITS FALSE NEIGHBOUR: 'it returns false'. Refute it at one input. -/
def gramParsesWrong : ChangeSpec := { name := "gramParses", fn := fun _ => fun
  | [d1, d2, d3] => { results := [.lit (.bool false)], args := [d1, d2, d3] }
  | _ => none }
def GramParsesWrongFalsely : Prop := gramParsesRow.holds Tryd.pinned (OpenSpec.ofChange gramParsesWrong)

/-- 'truchmanlaw07.GramPrefix': WHATEVER THE INPUT: true; the input reads as it did. -/
def gramPrefixSpec : ChangeSpec := { name := "gramPrefix", fn := fun _ => fun
  | [d1, d2, d3] => { results := [.lit (.bool true)], args := [d1, d2, d3] }
  | _ => none }
def gramPrefixRow : OpenClaim := { program := "ytcphocfnhekdaaadoor", sum := "de866b06bac5c855467f8fc10cb29821d50d24965ac64d51db3ff23be3798244", func := "truchman/truchmanlaw07.GramPrefix", spec := "gramPrefix", inPlace := ["internal/reflectlite.TypeOf"], unfollowed := true, recurses := true, named := ["truchman/api.ErrForm", "truchman/api.ErrShort"], apart := false, laid := [("truchman/api.ErrShort", laid_truchman_api_ErrShort), ("truchman/api.ErrForm", laid_truchman_api_ErrForm)] }
def GramPrefixSaid : Prop := gramPrefixRow.holds Tryd.pinned (OpenSpec.ofChange gramPrefixSpec)

/-- ITS FALSE NEIGHBOUR: 'it returns false'. Refute it at one input. -/
def gramPrefixWrong : ChangeSpec := { name := "gramPrefix", fn := fun _ => fun
  | [d1, d2, d3] => { results := [.lit (.bool false)], args := [d1, d2, d3] }
  | _ => none }
def GramPrefixWrongFalsely : Prop := gramPrefixRow.holds Tryd.pinned (OpenSpec.ofChange gramPrefixWrong)

/-- 'truchmanlaw06.EmitParts': WHATEVER THE INPUT: true; the input reads as it did. -/
def emitPartsSpec : ChangeSpec := { name := "emitParts", fn := fun _ => fun
  | [d1, d2, d3] => { results := [.lit (.bool true)], args := [d1, d2, d3] }
  | _ => none }
def emitPartsRow : OpenClaim := { program := "ytcphocfnhekdaaadoor", sum := "de866b06bac5c855467f8fc10cb29821d50d24965ac64d51db3ff23be3798244", func := "truchman/truchmanlaw06.EmitParts", spec := "emitParts", inPlace := ["internal/bytealg.Count", "internal/bytealg.IndexByte", "internal/bytealg.Index", "internal/reflectlite.TypeOf"], unfollowed := true, recurses := true, named := ["truchman/api.ErrKind", "truchman/api.ErrRange", "internal/bytealg.MaxLen", "unicode/utf8.first", "unicode/utf8.acceptRanges", "truchman/api.ErrLong", "truchman/api.ErrFull", "truchman/api.ErrShort", "truchman/api.ErrForm", "truchman/api.ErrName", "truchman/api.ErrNone", "truchman/api.ErrDup", "truchman/api.ErrState", "truchman/api.ErrDepth", "truchman/api.ErrFuel", "truchman/api.ErrStack", "truchman/api.ErrClosed", "truchman/api.ErrEmpty", "truchman/api.ErrNumber"], apart := false, laid := [("unicode/utf8.acceptRanges", laid_unicode_utf8_acceptRanges), ("truchman/api.ErrRange", laid_truchman_api_ErrRange), ("truchman/api.ErrFull", laid_truchman_api_ErrFull), ("truchman/api.ErrShort", laid_truchman_api_ErrShort), ("truchman/api.ErrLong", laid_truchman_api_ErrLong), ("truchman/api.ErrForm", laid_truchman_api_ErrForm), ("truchman/api.ErrName", laid_truchman_api_ErrName), ("truchman/api.ErrNone", laid_truchman_api_ErrNone), ("truchman/api.ErrDup", laid_truchman_api_ErrDup), ("truchman/api.ErrKind", laid_truchman_api_ErrKind), ("truchman/api.ErrState", laid_truchman_api_ErrState), ("truchman/api.ErrDepth", laid_truchman_api_ErrDepth), ("truchman/api.ErrFuel", laid_truchman_api_ErrFuel), ("truchman/api.ErrStack", laid_truchman_api_ErrStack), ("truchman/api.ErrClosed", laid_truchman_api_ErrClosed), ("truchman/api.ErrEmpty", laid_truchman_api_ErrEmpty), ("truchman/api.ErrNumber", laid_truchman_api_ErrNumber), ("unicode/utf8.first", laid_unicode_utf8_first)] }
def EmitPartsSaid : Prop := emitPartsRow.holds Tryd.pinned (OpenSpec.ofChange emitPartsSpec)

/-- ITS FALSE NEIGHBOUR: 'it returns false'. Refute it at one input. -/
def emitPartsWrong : ChangeSpec := { name := "emitParts", fn := fun _ => fun
  | [d1, d2, d3] => { results := [.lit (.bool false)], args := [d1, d2, d3] }
  | _ => none }
def EmitPartsWrongFalsely : Prop := emitPartsRow.holds Tryd.pinned (OpenSpec.ofChange emitPartsWrong)

/-- 'truchmanlaw06.EmitTokens': WHATEVER THE INPUT: true; the input reads as it did. -/
def emitTokensSpec : ChangeSpec := { name := "emitTokens", fn := fun _ => fun
  | [d] => { results := [.lit (.bool true)], args := [d] }
  | _ => none }
def emitTokensRow : OpenClaim := { program := "ytcphocfnhekdaaadoor", sum := "de866b06bac5c855467f8fc10cb29821d50d24965ac64d51db3ff23be3798244", func := "truchman/truchmanlaw06.EmitTokens", spec := "emitTokens", inPlace := ["internal/bytealg.Count", "internal/bytealg.IndexByte", "internal/bytealg.Index", "internal/reflectlite.TypeOf"], unfollowed := true, recurses := true, named := ["truchman/api.ErrKind", "truchman/api.ErrRange", "internal/bytealg.MaxLen", "unicode/utf8.first", "unicode/utf8.acceptRanges", "truchman/api.ErrLong", "truchman/api.ErrFull", "truchman/api.ErrShort", "truchman/api.ErrForm", "truchman/api.ErrName", "truchman/api.ErrNone", "truchman/api.ErrDup", "truchman/api.ErrState", "truchman/api.ErrDepth", "truchman/api.ErrFuel", "truchman/api.ErrStack", "truchman/api.ErrClosed", "truchman/api.ErrEmpty", "truchman/api.ErrNumber"], apart := false, laid := [("unicode/utf8.acceptRanges", laid_unicode_utf8_acceptRanges), ("truchman/api.ErrRange", laid_truchman_api_ErrRange), ("truchman/api.ErrFull", laid_truchman_api_ErrFull), ("truchman/api.ErrShort", laid_truchman_api_ErrShort), ("truchman/api.ErrLong", laid_truchman_api_ErrLong), ("truchman/api.ErrForm", laid_truchman_api_ErrForm), ("truchman/api.ErrName", laid_truchman_api_ErrName), ("truchman/api.ErrNone", laid_truchman_api_ErrNone), ("truchman/api.ErrDup", laid_truchman_api_ErrDup), ("truchman/api.ErrKind", laid_truchman_api_ErrKind), ("truchman/api.ErrState", laid_truchman_api_ErrState), ("truchman/api.ErrDepth", laid_truchman_api_ErrDepth), ("truchman/api.ErrFuel", laid_truchman_api_ErrFuel), ("truchman/api.ErrStack", laid_truchman_api_ErrStack), ("truchman/api.ErrClosed", laid_truchman_api_ErrClosed), ("truchman/api.ErrEmpty", laid_truchman_api_ErrEmpty), ("truchman/api.ErrNumber", laid_truchman_api_ErrNumber), ("unicode/utf8.first", laid_unicode_utf8_first)] }
def EmitTokensSaid : Prop := emitTokensRow.holds Tryd.pinned (OpenSpec.ofChange emitTokensSpec)

/-- ITS FALSE NEIGHBOUR: 'it returns false'. Refute it at one input. -/
def emitTokensWrong : ChangeSpec := { name := "emitTokens", fn := fun _ => fun
  | [d] => { results := [.lit (.bool false)], args := [d] }
  | _ => none }
def EmitTokensWrongFalsely : Prop := emitTokensRow.holds Tryd.pinned (OpenSpec.ofChange emitTokensWrong)

/-- 'truchmanlaw09.CleanPlain': WHATEVER THE INPUT: true; the input reads as it did. -/
def cleanPlainSpec : ChangeSpec := { name := "cleanPlain", fn := fun _ => fun
  | [d1, d2, d3] => { results := [.lit (.bool true)], args := [d1, d2, d3] }
  | _ => none }
def cleanPlainRow : OpenClaim := { program := "ytcphocfnhekdaaadoor", sum := "de866b06bac5c855467f8fc10cb29821d50d24965ac64d51db3ff23be3798244", func := "truchman/truchmanlaw09.CleanPlain", spec := "cleanPlain", inPlace := ["internal/bytealg.Count", "internal/bytealg.IndexByte", "internal/bytealg.Index"], named := ["internal/bytealg.MaxLen", "unicode/utf8.first", "unicode/utf8.acceptRanges", "truchman/api.ErrKind", "truchman/api.ErrRange"], apart := false, laid := [("unicode/utf8.acceptRanges", laid_unicode_utf8_acceptRanges), ("truchman/api.ErrRange", laid_truchman_api_ErrRange), ("truchman/api.ErrKind", laid_truchman_api_ErrKind), ("unicode/utf8.first", laid_unicode_utf8_first)] }
def CleanPlainSaid : Prop := cleanPlainRow.holds Tryd.pinned (OpenSpec.ofChange cleanPlainSpec)

/-- ITS FALSE NEIGHBOUR: 'it returns false'. Refute it at one input. -/
def cleanPlainWrong : ChangeSpec := { name := "cleanPlain", fn := fun _ => fun
  | [d1, d2, d3] => { results := [.lit (.bool false)], args := [d1, d2, d3] }
  | _ => none }
def CleanPlainWrongFalsely : Prop := cleanPlainRow.holds Tryd.pinned (OpenSpec.ofChange cleanPlainWrong)

/-- 'truchmanlaw06.EmitBack': WHATEVER THE INPUT: true; the input reads as it did. -/
def emitBackSpec : ChangeSpec := { name := "emitBack", fn := fun _ => fun
  | [d1, d2] => { results := [.lit (.bool true)], args := [d1, d2] }
  | _ => none }
def emitBackRow : OpenClaim := { program := "ytcphocfnhekdaaadoor", sum := "de866b06bac5c855467f8fc10cb29821d50d24965ac64d51db3ff23be3798244", func := "truchman/truchmanlaw06.EmitBack", spec := "emitBack", inPlace := ["internal/bytealg.Count", "internal/bytealg.IndexByte", "internal/bytealg.Index"], named := ["truchman/api.ErrKind", "truchman/api.ErrRange", "internal/bytealg.MaxLen", "unicode/utf8.first", "unicode/utf8.acceptRanges", "truchman/api.ErrLong"], apart := false, laid := [("unicode/utf8.acceptRanges", laid_unicode_utf8_acceptRanges), ("truchman/api.ErrRange", laid_truchman_api_ErrRange), ("truchman/api.ErrLong", laid_truchman_api_ErrLong), ("truchman/api.ErrKind", laid_truchman_api_ErrKind), ("unicode/utf8.first", laid_unicode_utf8_first)] }
def EmitBackSaid : Prop := emitBackRow.holds Tryd.pinned (OpenSpec.ofChange emitBackSpec)

/-- ITS FALSE NEIGHBOUR: 'it returns false'. Refute it at one input. -/
def emitBackWrong : ChangeSpec := { name := "emitBack", fn := fun _ => fun
  | [d1, d2] => { results := [.lit (.bool false)], args := [d1, d2] }
  | _ => none }
def EmitBackWrongFalsely : Prop := emitBackRow.holds Tryd.pinned (OpenSpec.ofChange emitBackWrong)

/-- 'truchmanlaw07.GramEmits': WHATEVER THE INPUT: true; the input reads as it did. -/
def gramEmitsSpec : ChangeSpec := { name := "gramEmits", fn := fun _ => fun
  | [d] => { results := [.lit (.bool true)], args := [d] }
  | _ => none }
def gramEmitsRow : OpenClaim := { program := "ytcphocfnhekdaaadoor", sum := "de866b06bac5c855467f8fc10cb29821d50d24965ac64d51db3ff23be3798244", func := "truchman/truchmanlaw07.GramEmits", spec := "gramEmits", inPlace := ["internal/reflectlite.TypeOf", "internal/bytealg.Count", "internal/bytealg.IndexByte", "internal/bytealg.Index"], unfollowed := true, recurses := true, named := ["truchman/api.ErrForm", "truchman/api.ErrShort", "truchman/api.ErrRange", "truchman/api.ErrLong", "truchman/api.ErrKind", "internal/bytealg.MaxLen", "unicode/utf8.first", "unicode/utf8.acceptRanges"], apart := false, laid := [("unicode/utf8.acceptRanges", laid_unicode_utf8_acceptRanges), ("truchman/api.ErrRange", laid_truchman_api_ErrRange), ("truchman/api.ErrShort", laid_truchman_api_ErrShort), ("truchman/api.ErrLong", laid_truchman_api_ErrLong), ("truchman/api.ErrForm", laid_truchman_api_ErrForm), ("truchman/api.ErrKind", laid_truchman_api_ErrKind), ("unicode/utf8.first", laid_unicode_utf8_first)] }
def GramEmitsSaid : Prop := gramEmitsRow.holds Tryd.pinned (OpenSpec.ofChange gramEmitsSpec)

/-- ITS FALSE NEIGHBOUR: 'it returns false'. Refute it at one input. -/
def gramEmitsWrong : ChangeSpec := { name := "gramEmits", fn := fun _ => fun
  | [d] => { results := [.lit (.bool false)], args := [d] }
  | _ => none }
def GramEmitsWrongFalsely : Prop := gramEmitsRow.holds Tryd.pinned (OpenSpec.ofChange gramEmitsWrong)

/- THE SECOND FORM. 'bulk': how many values and letters a reading holds, each counted each time it is reached (what is shared counts as often as it is met; a slice's spare places count too). A statement '..UptoSaid' is the law's where the arguments, and the package variables that the reading takes, are together of bulk at most 1048576: NARROWER than '..Said'. Prove '..Said' where nothing that the law and all that it calls make is longer than what came in: it says more and counts as full. Else prove '..UptoSaid'. A law counts once. -/
mutual
def uptoBulk {H : Type} : DataW H → Nat
  | .lit (.string bytes) => bytes.length + 1
  | .lit _ => 1
  | .nil => 1
  | .ptr d => uptoBulk d + 1
  | .slice elems spare => uptoBulkAll elems + uptoBulkAll spare + 1
  | .agg parts => uptoBulkAll parts + 1
  | .iface _ d => uptoBulk d + 1
  | .map entries => uptoBulkEntries entries + 1
  | .held _ => 1
def uptoBulkAll {H : Type} : List (DataW H) → Nat
  | [] => 0
  | d :: r => uptoBulk d + uptoBulkAll r
def uptoBulkEntries {H : Type} : List (Lit × DataW H) → Nat
  | [] => 0
  | x :: r => uptoBulkEntry x + uptoBulkEntries r
def uptoBulkEntry {H : Type} : Lit × DataW H → Nat
  | (.string bytes, d) => bytes.length + uptoBulk d + 1
  | (_, d) => uptoBulk d + 1
 end
def uptoSmall : (H : Type) → List (DataW H) → Bool := fun _ ds => decide (uptoBulkAll ds ≤ 1048576)
def OpenSpec.upto (s : _root_.Go.ChangeSpec) : _root_.Go.OpenSpec := { _root_.Go.OpenSpec.ofChange s with cond := some uptoSmall }

/-- 'truchmanlaw07.GramItems', WHERE WHAT IT READS IS OF BULK AT MOST 1048576: true; the input reads as it did. -/
def gramItemsUptoRow : OpenClaim := { program := "ytcphocfnhekdaaadoor", sum := "de866b06bac5c855467f8fc10cb29821d50d24965ac64d51db3ff23be3798244", func := "truchman/truchmanlaw07.GramItems", spec := "gramItems", inPlace := ["internal/reflectlite.TypeOf"], unfollowed := true, recurses := true, named := ["truchman/api.ErrForm", "truchman/api.ErrShort"], apart := false, laid := [("truchman/api.ErrShort", laid_truchman_api_ErrShort), ("truchman/api.ErrForm", laid_truchman_api_ErrForm)], narrowed := true }
def GramItemsUptoSaid : Prop := gramItemsUptoRow.holds Tryd.pinned (OpenSpec.upto gramItemsSpec)

/-- 'truchmanlaw07.GramParses', WHERE WHAT IT READS IS OF BULK AT MOST 1048576: true; the input reads as it did. -/
def gramParsesUptoRow : OpenClaim := { program := "ytcphocfnhekdaaadoor", sum := "de866b06bac5c855467f8fc10cb29821d50d24965ac64d51db3ff23be3798244", func := "truchman/truchmanlaw07.GramParses", spec := "gramParses", inPlace := ["internal/reflectlite.TypeOf"], unfollowed := true, recurses := true, named := ["truchman/api.ErrForm", "truchman/api.ErrShort", "truchman/api.ErrRange", "truchman/api.ErrFull", "truchman/api.ErrLong", "truchman/api.ErrName", "truchman/api.ErrNone", "truchman/api.ErrDup", "truchman/api.ErrKind", "truchman/api.ErrState", "truchman/api.ErrDepth", "truchman/api.ErrFuel", "truchman/api.ErrStack", "truchman/api.ErrClosed", "truchman/api.ErrEmpty", "truchman/api.ErrNumber"], apart := false, laid := [("truchman/api.ErrRange", laid_truchman_api_ErrRange), ("truchman/api.ErrFull", laid_truchman_api_ErrFull), ("truchman/api.ErrShort", laid_truchman_api_ErrShort), ("truchman/api.ErrLong", laid_truchman_api_ErrLong), ("truchman/api.ErrForm", laid_truchman_api_ErrForm), ("truchman/api.ErrName", laid_truchman_api_ErrName), ("truchman/api.ErrNone", laid_truchman_api_ErrNone), ("truchman/api.ErrDup", laid_truchman_api_ErrDup), ("truchman/api.ErrKind", laid_truchman_api_ErrKind), ("truchman/api.ErrState", laid_truchman_api_ErrState), ("truchman/api.ErrDepth", laid_truchman_api_ErrDepth), ("truchman/api.ErrFuel", laid_truchman_api_ErrFuel), ("truchman/api.ErrStack", laid_truchman_api_ErrStack), ("truchman/api.ErrClosed", laid_truchman_api_ErrClosed), ("truchman/api.ErrEmpty", laid_truchman_api_ErrEmpty), ("truchman/api.ErrNumber", laid_truchman_api_ErrNumber)], narrowed := true }
def GramParsesUptoSaid : Prop := gramParsesUptoRow.holds Tryd.pinned (OpenSpec.upto gramParsesSpec)

/-- 'truchmanlaw07.GramPrefix', WHERE WHAT IT READS IS OF BULK AT MOST 1048576: true; the input reads as it did. -/
def gramPrefixUptoRow : OpenClaim := { program := "ytcphocfnhekdaaadoor", sum := "de866b06bac5c855467f8fc10cb29821d50d24965ac64d51db3ff23be3798244", func := "truchman/truchmanlaw07.GramPrefix", spec := "gramPrefix", inPlace := ["internal/reflectlite.TypeOf"], unfollowed := true, recurses := true, named := ["truchman/api.ErrForm", "truchman/api.ErrShort"], apart := false, laid := [("truchman/api.ErrShort", laid_truchman_api_ErrShort), ("truchman/api.ErrForm", laid_truchman_api_ErrForm)], narrowed := true }
def GramPrefixUptoSaid : Prop := gramPrefixUptoRow.holds Tryd.pinned (OpenSpec.upto gramPrefixSpec)

/-- 'truchmanlaw06.EmitParts', WHERE WHAT IT READS IS OF BULK AT MOST 1048576: true; the input reads as it did. -/
def emitPartsUptoRow : OpenClaim := { program := "ytcphocfnhekdaaadoor", sum := "de866b06bac5c855467f8fc10cb29821d50d24965ac64d51db3ff23be3798244", func := "truchman/truchmanlaw06.EmitParts", spec := "emitParts", inPlace := ["internal/bytealg.Count", "internal/bytealg.IndexByte", "internal/bytealg.Index", "internal/reflectlite.TypeOf"], unfollowed := true, recurses := true, named := ["truchman/api.ErrKind", "truchman/api.ErrRange", "internal/bytealg.MaxLen", "unicode/utf8.first", "unicode/utf8.acceptRanges", "truchman/api.ErrLong", "truchman/api.ErrFull", "truchman/api.ErrShort", "truchman/api.ErrForm", "truchman/api.ErrName", "truchman/api.ErrNone", "truchman/api.ErrDup", "truchman/api.ErrState", "truchman/api.ErrDepth", "truchman/api.ErrFuel", "truchman/api.ErrStack", "truchman/api.ErrClosed", "truchman/api.ErrEmpty", "truchman/api.ErrNumber"], apart := false, laid := [("unicode/utf8.acceptRanges", laid_unicode_utf8_acceptRanges), ("truchman/api.ErrRange", laid_truchman_api_ErrRange), ("truchman/api.ErrFull", laid_truchman_api_ErrFull), ("truchman/api.ErrShort", laid_truchman_api_ErrShort), ("truchman/api.ErrLong", laid_truchman_api_ErrLong), ("truchman/api.ErrForm", laid_truchman_api_ErrForm), ("truchman/api.ErrName", laid_truchman_api_ErrName), ("truchman/api.ErrNone", laid_truchman_api_ErrNone), ("truchman/api.ErrDup", laid_truchman_api_ErrDup), ("truchman/api.ErrKind", laid_truchman_api_ErrKind), ("truchman/api.ErrState", laid_truchman_api_ErrState), ("truchman/api.ErrDepth", laid_truchman_api_ErrDepth), ("truchman/api.ErrFuel", laid_truchman_api_ErrFuel), ("truchman/api.ErrStack", laid_truchman_api_ErrStack), ("truchman/api.ErrClosed", laid_truchman_api_ErrClosed), ("truchman/api.ErrEmpty", laid_truchman_api_ErrEmpty), ("truchman/api.ErrNumber", laid_truchman_api_ErrNumber), ("unicode/utf8.first", laid_unicode_utf8_first)], narrowed := true }
def EmitPartsUptoSaid : Prop := emitPartsUptoRow.holds Tryd.pinned (OpenSpec.upto emitPartsSpec)

/-- 'truchmanlaw06.EmitTokens', WHERE WHAT IT READS IS OF BULK AT MOST 1048576: true; the input reads as it did. -/
def emitTokensUptoRow : OpenClaim := { program := "ytcphocfnhekdaaadoor", sum := "de866b06bac5c855467f8fc10cb29821d50d24965ac64d51db3ff23be3798244", func := "truchman/truchmanlaw06.EmitTokens", spec := "emitTokens", inPlace := ["internal/bytealg.Count", "internal/bytealg.IndexByte", "internal/bytealg.Index", "internal/reflectlite.TypeOf"], unfollowed := true, recurses := true, named := ["truchman/api.ErrKind", "truchman/api.ErrRange", "internal/bytealg.MaxLen", "unicode/utf8.first", "unicode/utf8.acceptRanges", "truchman/api.ErrLong", "truchman/api.ErrFull", "truchman/api.ErrShort", "truchman/api.ErrForm", "truchman/api.ErrName", "truchman/api.ErrNone", "truchman/api.ErrDup", "truchman/api.ErrState", "truchman/api.ErrDepth", "truchman/api.ErrFuel", "truchman/api.ErrStack", "truchman/api.ErrClosed", "truchman/api.ErrEmpty", "truchman/api.ErrNumber"], apart := false, laid := [("unicode/utf8.acceptRanges", laid_unicode_utf8_acceptRanges), ("truchman/api.ErrRange", laid_truchman_api_ErrRange), ("truchman/api.ErrFull", laid_truchman_api_ErrFull), ("truchman/api.ErrShort", laid_truchman_api_ErrShort), ("truchman/api.ErrLong", laid_truchman_api_ErrLong), ("truchman/api.ErrForm", laid_truchman_api_ErrForm), ("truchman/api.ErrName", laid_truchman_api_ErrName), ("truchman/api.ErrNone", laid_truchman_api_ErrNone), ("truchman/api.ErrDup", laid_truchman_api_ErrDup), ("truchman/api.ErrKind", laid_truchman_api_ErrKind), ("truchman/api.ErrState", laid_truchman_api_ErrState), ("truchman/api.ErrDepth", laid_truchman_api_ErrDepth), ("truchman/api.ErrFuel", laid_truchman_api_ErrFuel), ("truchman/api.ErrStack", laid_truchman_api_ErrStack), ("truchman/api.ErrClosed", laid_truchman_api_ErrClosed), ("truchman/api.ErrEmpty", laid_truchman_api_ErrEmpty), ("truchman/api.ErrNumber", laid_truchman_api_ErrNumber), ("unicode/utf8.first", laid_unicode_utf8_first)], narrowed := true }
def EmitTokensUptoSaid : Prop := emitTokensUptoRow.holds Tryd.pinned (OpenSpec.upto emitTokensSpec)

/-- 'truchmanlaw09.CleanPlain', WHERE WHAT IT READS IS OF BULK AT MOST 1048576: true; the input reads as it did. -/
def cleanPlainUptoRow : OpenClaim := { program := "ytcphocfnhekdaaadoor", sum := "de866b06bac5c855467f8fc10cb29821d50d24965ac64d51db3ff23be3798244", func := "truchman/truchmanlaw09.CleanPlain", spec := "cleanPlain", inPlace := ["internal/bytealg.Count", "internal/bytealg.IndexByte", "internal/bytealg.Index"], named := ["internal/bytealg.MaxLen", "unicode/utf8.first", "unicode/utf8.acceptRanges", "truchman/api.ErrKind", "truchman/api.ErrRange"], apart := false, laid := [("unicode/utf8.acceptRanges", laid_unicode_utf8_acceptRanges), ("truchman/api.ErrRange", laid_truchman_api_ErrRange), ("truchman/api.ErrKind", laid_truchman_api_ErrKind), ("unicode/utf8.first", laid_unicode_utf8_first)], narrowed := true }
def CleanPlainUptoSaid : Prop := cleanPlainUptoRow.holds Tryd.pinned (OpenSpec.upto cleanPlainSpec)

/-- 'truchmanlaw06.EmitBack', WHERE WHAT IT READS IS OF BULK AT MOST 1048576: true; the input reads as it did. -/
def emitBackUptoRow : OpenClaim := { program := "ytcphocfnhekdaaadoor", sum := "de866b06bac5c855467f8fc10cb29821d50d24965ac64d51db3ff23be3798244", func := "truchman/truchmanlaw06.EmitBack", spec := "emitBack", inPlace := ["internal/bytealg.Count", "internal/bytealg.IndexByte", "internal/bytealg.Index"], named := ["truchman/api.ErrKind", "truchman/api.ErrRange", "internal/bytealg.MaxLen", "unicode/utf8.first", "unicode/utf8.acceptRanges", "truchman/api.ErrLong"], apart := false, laid := [("unicode/utf8.acceptRanges", laid_unicode_utf8_acceptRanges), ("truchman/api.ErrRange", laid_truchman_api_ErrRange), ("truchman/api.ErrLong", laid_truchman_api_ErrLong), ("truchman/api.ErrKind", laid_truchman_api_ErrKind), ("unicode/utf8.first", laid_unicode_utf8_first)], narrowed := true }
def EmitBackUptoSaid : Prop := emitBackUptoRow.holds Tryd.pinned (OpenSpec.upto emitBackSpec)

/-- 'truchmanlaw07.GramEmits', WHERE WHAT IT READS IS OF BULK AT MOST 1048576: true; the input reads as it did. -/
def gramEmitsUptoRow : OpenClaim := { program := "ytcphocfnhekdaaadoor", sum := "de866b06bac5c855467f8fc10cb29821d50d24965ac64d51db3ff23be3798244", func := "truchman/truchmanlaw07.GramEmits", spec := "gramEmits", inPlace := ["internal/reflectlite.TypeOf", "internal/bytealg.Count", "internal/bytealg.IndexByte", "internal/bytealg.Index"], unfollowed := true, recurses := true, named := ["truchman/api.ErrForm", "truchman/api.ErrShort", "truchman/api.ErrRange", "truchman/api.ErrLong", "truchman/api.ErrKind", "internal/bytealg.MaxLen", "unicode/utf8.first", "unicode/utf8.acceptRanges"], apart := false, laid := [("unicode/utf8.acceptRanges", laid_unicode_utf8_acceptRanges), ("truchman/api.ErrRange", laid_truchman_api_ErrRange), ("truchman/api.ErrShort", laid_truchman_api_ErrShort), ("truchman/api.ErrLong", laid_truchman_api_ErrLong), ("truchman/api.ErrForm", laid_truchman_api_ErrForm), ("truchman/api.ErrKind", laid_truchman_api_ErrKind), ("unicode/utf8.first", laid_unicode_utf8_first)], narrowed := true }
def GramEmitsUptoSaid : Prop := gramEmitsUptoRow.holds Tryd.pinned (OpenSpec.upto gramEmitsSpec)

end Rows
end Go.Proofs.YtcphocfnhekdaaaDoor
