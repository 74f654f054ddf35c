/-
  NARROWER THAN 'FOR EVERY INPUT', by the rows' own cells (each row's printed sentence says how): ModeRests: laid · MaskRows: laid · ModeBodies: laid · ModeActs: laid · MaskBack: laid · MaskBodies: laid · CodesTell: laid · StatusBodies: laid · StatusTables: laid · CodesNames: laid · CodesOwn: laid.
  DERIVED. THE GIVEN ROWS OF THIS SEAT. 11 by the template 'for every input the law returns true; each argument reads behind the call as it read before'; 0 by the template 'total and deterministic' (their statements: YtealbjkhjpmilaaDoorTotals.lean).
  GIVEN WITH THE SEED: the statements are not yours to turn. If you find one false, say at which input.
  Laid BY PROGRAM, IN A SANDBOX (cutbox-rows.mjs): the forced cells as the released guide's own fill.sh prints them over the translation 7a5b739d8966d28e… (all of the seat's roots in one cut). By AI agents, Wed Nov 11 2026. No macro, syntax, notation, axiom, sorry.
-/
import Derived.Test.YtealbjkhjpmilaaDoorChecked
import GoSem.PinnedTables
import GoSem.Claim
import GoSem.ClaimJoined
import GoSem.ClaimMapViews
import Derived.JoinedTies
import Derived.KernelRfl
namespace Go.Proofs.YtealbjkhjpmilaaDoor
/- THE CELL 'sum', in the pinned program and in every row, IS THE sha256 OF THE DUMP (.gsa) THAT YtealbjkhjpmilaaDoorProg.lean LOADS. Nothing in Lean hashes anything: it is a label: what it is worth is what the hold of that sum in a sandbox is worth. -/
noncomputable def Tryd.pinned : Pinned := { name := "ytealbjkhjpmilaadoor", sum := "7a5b739d8966d28e3fd812795e69df37977ead21ae5f501be418f6c85bfa1042", checked := Tryd.checked }
namespace Rows
def none {H : Type} : Left H := { results := [], args := [] }

/- WHAT THE LISTED PACKAGE-LEVEL VARIABLES READ AS WHEN THE CALL BEGINS. Each datum BY PROGRAM (the guide's laid-datum.mjs) off the statement by which the dump's own 'gosem.cut.vars' lays the variable. In a bare row this is a premise. The card (YtealbjkhjpmilaaDoorCards.lean) ties it to the program's text. -/
def laid_truchman_api_ErrShort {H : Type} : DataW H := .iface "*errors.errorString" (.ptr (.agg [.lit (.string [115, 111, 109, 101, 116, 104, 105, 110, 103, 32, 105, 115, 32, 109, 105, 115, 115, 105, 110, 103, 32, 97, 116, 32, 116, 104, 101, 32, 101, 110, 100])]))
def laid_truchman_api_ErrLong {H : Type} : DataW H := .iface "*errors.errorString" (.ptr (.agg [.lit (.string [116, 104, 101, 114, 101, 32, 105, 115, 32, 109, 111, 114, 101, 32, 116, 104, 97, 110, 32, 109, 97, 121, 32, 98, 101])]))
def laid_truchman_api_ErrForm {H : Type} : DataW H := .iface "*errors.errorString" (.ptr (.agg [.lit (.string [105, 116, 32, 105, 115, 32, 110, 111, 116, 32, 111, 102, 32, 105, 116, 115, 32, 102, 111, 114, 109])]))
def laid_truchman_api_ErrDup {H : Type} : DataW H := .iface "*errors.errorString" (.ptr (.agg [.lit (.string [105, 116, 32, 105, 115, 32, 116, 104, 101, 114, 101, 32, 97, 108, 114, 101, 97, 100, 121])]))
def laid_truchman_api_ErrKind {H : Type} : DataW H := .iface "*errors.errorString" (.ptr (.agg [.lit (.string [105, 116, 32, 105, 115, 32, 111, 102, 32, 97, 110, 111, 116, 104, 101, 114, 32, 107, 105, 110, 100])]))
def laid_truchman_api_ErrState {H : Type} : DataW H := .iface "*errors.errorString" (.ptr (.agg [.lit (.string [105, 116, 32, 99, 97, 110, 32, 110, 111, 116, 32, 98, 101, 32, 100, 111, 110, 101, 32, 105, 110, 32, 116, 104, 105, 115, 32, 115, 116, 97, 116, 101])]))
def laid_unicode_utf8_acceptRanges {H : Type} : DataW H := .agg [.agg [.lit (.int .u8 128), .lit (.int .u8 191)], .agg [.lit (.int .u8 160), .lit (.int .u8 191)], .agg [.lit (.int .u8 128), .lit (.int .u8 159)], .agg [.lit (.int .u8 144), .lit (.int .u8 191)], .agg [.lit (.int .u8 128), .lit (.int .u8 143)], .agg [.lit (.int .u8 0), .lit (.int .u8 0)], .agg [.lit (.int .u8 0), .lit (.int .u8 0)], .agg [.lit (.int .u8 0), .lit (.int .u8 0)], .agg [.lit (.int .u8 0), .lit (.int .u8 0)], .agg [.lit (.int .u8 0), .lit (.int .u8 0)], .agg [.lit (.int .u8 0), .lit (.int .u8 0)], .agg [.lit (.int .u8 0), .lit (.int .u8 0)], .agg [.lit (.int .u8 0), .lit (.int .u8 0)], .agg [.lit (.int .u8 0), .lit (.int .u8 0)], .agg [.lit (.int .u8 0), .lit (.int .u8 0)], .agg [.lit (.int .u8 0), .lit (.int .u8 0)]]
/-- One of Go's own tables, pinned by name: the form's constant. -/
def laid_unicode_utf8_first : DataW Unit := Go.Pinned.utf8First
def laid_truchman_api_ErrRange {H : Type} : DataW H := .iface "*errors.errorString" (.ptr (.agg [.lit (.string [97, 32, 110, 117, 109, 98, 101, 114, 32, 105, 115, 32, 111, 117, 116, 32, 111, 102, 32, 105, 116, 115, 32, 114, 97, 110, 103, 101])]))
def laid_truchman_api_ErrFull {H : Type} : DataW H := .iface "*errors.errorString" (.ptr (.agg [.lit (.string [116, 104, 101, 114, 101, 32, 105, 115, 32, 110, 111, 32, 109, 111, 114, 101, 32, 114, 111, 111, 109])]))
def laid_truchman_api_ErrName {H : Type} : DataW H := .iface "*errors.errorString" (.ptr (.agg [.lit (.string [116, 104, 101, 114, 101, 32, 105, 115, 32, 110, 111, 32, 115, 117, 99, 104, 32, 110, 97, 109, 101])]))
def laid_truchman_api_ErrNone {H : Type} : DataW H := .iface "*errors.errorString" (.ptr (.agg [.lit (.string [116, 104, 101, 114, 101, 32, 105, 115, 32, 110, 111, 110, 101])]))
def laid_truchman_api_ErrDepth {H : Type} : DataW H := .iface "*errors.errorString" (.ptr (.agg [.lit (.string [105, 116, 32, 103, 111, 101, 115, 32, 116, 111, 111, 32, 100, 101, 101, 112])]))
def laid_truchman_api_ErrFuel {H : Type} : DataW H := .iface "*errors.errorString" (.ptr (.agg [.lit (.string [116, 104, 101, 32, 102, 117, 101, 108, 32, 105, 115, 32, 115, 112, 101, 110, 116])]))
def laid_truchman_api_ErrStack {H : Type} : DataW H := .iface "*errors.errorString" (.ptr (.agg [.lit (.string [116, 104, 101, 114, 101, 32, 97, 114, 101, 32, 116, 111, 111, 32, 109, 97, 110, 121, 32, 99, 97, 108, 108, 115, 32, 119, 105, 116, 104, 105, 110, 32, 111, 110, 101, 32, 97, 110, 111, 116, 104, 101, 114])]))
def laid_truchman_api_ErrClosed {H : Type} : DataW H := .iface "*errors.errorString" (.ptr (.agg [.lit (.string [105, 116, 32, 105, 115, 32, 99, 108, 111, 115, 101, 100])]))
def laid_truchman_api_ErrEmpty {H : Type} : DataW H := .iface "*errors.errorString" (.ptr (.agg [.lit (.string [105, 116, 32, 119, 111, 117, 108, 100, 32, 109, 97, 116, 99, 104, 32, 110, 111, 116, 104, 105, 110, 103, 32, 97, 116, 32, 97, 108, 108])]))
def laid_truchman_api_ErrNumber {H : Type} : DataW H := .iface "*errors.errorString" (.ptr (.agg [.lit (.string [116, 104, 101, 32, 116, 101, 120, 116, 32, 105, 115, 32, 110, 111, 32, 110, 117, 109, 98, 101, 114])]))
def laid_math_bits_deBruijn32tab {H : Type} : DataW H := .agg [.lit (.int .u8 0), .lit (.int .u8 1), .lit (.int .u8 28), .lit (.int .u8 2), .lit (.int .u8 29), .lit (.int .u8 14), .lit (.int .u8 24), .lit (.int .u8 3), .lit (.int .u8 30), .lit (.int .u8 22), .lit (.int .u8 20), .lit (.int .u8 15), .lit (.int .u8 25), .lit (.int .u8 17), .lit (.int .u8 4), .lit (.int .u8 8), .lit (.int .u8 31), .lit (.int .u8 27), .lit (.int .u8 13), .lit (.int .u8 23), .lit (.int .u8 21), .lit (.int .u8 19), .lit (.int .u8 16), .lit (.int .u8 7), .lit (.int .u8 26), .lit (.int .u8 12), .lit (.int .u8 18), .lit (.int .u8 6), .lit (.int .u8 11), .lit (.int .u8 5), .lit (.int .u8 10), .lit (.int .u8 9)]
def laid_math_bits_deBruijn64tab {H : Type} : DataW H := .agg [.lit (.int .u8 0), .lit (.int .u8 1), .lit (.int .u8 56), .lit (.int .u8 2), .lit (.int .u8 57), .lit (.int .u8 49), .lit (.int .u8 28), .lit (.int .u8 3), .lit (.int .u8 61), .lit (.int .u8 58), .lit (.int .u8 42), .lit (.int .u8 50), .lit (.int .u8 38), .lit (.int .u8 29), .lit (.int .u8 17), .lit (.int .u8 4), .lit (.int .u8 62), .lit (.int .u8 47), .lit (.int .u8 59), .lit (.int .u8 36), .lit (.int .u8 45), .lit (.int .u8 43), .lit (.int .u8 51), .lit (.int .u8 22), .lit (.int .u8 53), .lit (.int .u8 39), .lit (.int .u8 33), .lit (.int .u8 30), .lit (.int .u8 24), .lit (.int .u8 18), .lit (.int .u8 12), .lit (.int .u8 5), .lit (.int .u8 63), .lit (.int .u8 55), .lit (.int .u8 48), .lit (.int .u8 27), .lit (.int .u8 60), .lit (.int .u8 41), .lit (.int .u8 37), .lit (.int .u8 16), .lit (.int .u8 46), .lit (.int .u8 35), .lit (.int .u8 44), .lit (.int .u8 21), .lit (.int .u8 52), .lit (.int .u8 32), .lit (.int .u8 23), .lit (.int .u8 11), .lit (.int .u8 54), .lit (.int .u8 26), .lit (.int .u8 40), .lit (.int .u8 15), .lit (.int .u8 34), .lit (.int .u8 20), .lit (.int .u8 31), .lit (.int .u8 10), .lit (.int .u8 25), .lit (.int .u8 14), .lit (.int .u8 19), .lit (.int .u8 9), .lit (.int .u8 13), .lit (.int .u8 8), .lit (.int .u8 7), .lit (.int .u8 6)]
def laid_internal_strconv_uint64pow10 {H : Type} : DataW H := .agg [.lit (.int .u64 1), .lit (.int .u64 10), .lit (.int .u64 100), .lit (.int .u64 1000), .lit (.int .u64 10000), .lit (.int .u64 100000), .lit (.int .u64 1000000), .lit (.int .u64 10000000), .lit (.int .u64 100000000), .lit (.int .u64 1000000000), .lit (.int .u64 10000000000), .lit (.int .u64 100000000000), .lit (.int .u64 1000000000000), .lit (.int .u64 10000000000000), .lit (.int .u64 100000000000000), .lit (.int .u64 1000000000000000), .lit (.int .u64 10000000000000000), .lit (.int .u64 100000000000000000), .lit (.int .u64 1000000000000000000), .lit (.int .u64 10000000000000000000)]
def laid_truchman_codes_words {H : Type} : DataW H := .agg [.lit (.string [115, 101]), .lit (.string [110, 111, 112]), .lit (.string [100, 109]), .lit (.string [98, 114, 107]), .lit (.string [105, 112]), .lit (.string [97, 111]), .lit (.string [97, 121, 116]), .lit (.string [101, 99]), .lit (.string [101, 108]), .lit (.string [103, 97]), .lit (.string [115, 98]), .lit (.string [119, 105, 108, 108]), .lit (.string [119, 111, 110, 116]), .lit (.string [100, 111]), .lit (.string [100, 111, 110, 116]), .lit (.string [105, 97, 99])]
def laid_strconv_ErrRange {H : Type} : DataW H := .iface "*errors.errorString" (.ptr (.agg [.lit (.string [118, 97, 108, 117, 101, 32, 111, 117, 116, 32, 111, 102, 32, 114, 97, 110, 103, 101])]))
def laid_strconv_ErrSyntax {H : Type} : DataW H := .iface "*errors.errorString" (.ptr (.agg [.lit (.string [105, 110, 118, 97, 108, 105, 100, 32, 115, 121, 110, 116, 97, 120])]))

/-- 'truchmanlaw15.ModeRests': WHATEVER THE INPUT: true; the input reads as it did. -/
def modeRestsSpec : ChangeSpec := { name := "modeRests", fn := fun _ => fun
  | [d1, d2] => { results := [.lit (.bool true)], args := [d1, d2] }
  | _ => none }
def modeRestsRow : OpenClaim := { program := "ytealbjkhjpmilaadoor", sum := "7a5b739d8966d28e3fd812795e69df37977ead21ae5f501be418f6c85bfa1042", func := "truchman/truchmanlaw15.ModeRests", spec := "modeRests", inPlace := ["internal/abi.NoEscape", "internal/bytealg.MakeNoZero"], named := ["truchman/api.ErrForm", "truchman/api.ErrState", "truchman/api.ErrDup", "truchman/api.ErrShort", "truchman/api.ErrLong", "truchman/api.ErrKind"], apart := false, laid := [("truchman/api.ErrShort", laid_truchman_api_ErrShort), ("truchman/api.ErrLong", laid_truchman_api_ErrLong), ("truchman/api.ErrForm", laid_truchman_api_ErrForm), ("truchman/api.ErrDup", laid_truchman_api_ErrDup), ("truchman/api.ErrKind", laid_truchman_api_ErrKind), ("truchman/api.ErrState", laid_truchman_api_ErrState)] }
def ModeRestsSaid : Prop := modeRestsRow.holds Tryd.pinned (OpenSpec.ofChange modeRestsSpec)

/-- ITS FALSE NEIGHBOUR: 'it returns false'. Refute it at one input. -/
def modeRestsWrong : ChangeSpec := { name := "modeRests", fn := fun _ => fun
  | [d1, d2] => { results := [.lit (.bool false)], args := [d1, d2] }
  | _ => none }
def ModeRestsWrongFalsely : Prop := modeRestsRow.holds Tryd.pinned (OpenSpec.ofChange modeRestsWrong)

/-- 'truchmanlaw16.MaskRows': WHATEVER THE INPUT: true; the input reads as it did. -/
def maskRowsSpec : ChangeSpec := { name := "maskRows", fn := fun _ => fun
  | [d1, d2, d3] => { results := [.lit (.bool true)], args := [d1, d2, d3] }
  | _ => none }
def maskRowsRow : OpenClaim := { program := "ytealbjkhjpmilaadoor", sum := "7a5b739d8966d28e3fd812795e69df37977ead21ae5f501be418f6c85bfa1042", func := "truchman/truchmanlaw16.MaskRows", spec := "maskRows", named := ["unicode/utf8.first", "unicode/utf8.acceptRanges"], apart := false, laid := [("unicode/utf8.acceptRanges", laid_unicode_utf8_acceptRanges), ("unicode/utf8.first", laid_unicode_utf8_first)] }
def MaskRowsSaid : Prop := maskRowsRow.holds Tryd.pinned (OpenSpec.ofChange maskRowsSpec)

/-- ITS FALSE NEIGHBOUR: 'it returns false'. Refute it at one input. -/
def maskRowsWrong : ChangeSpec := { name := "maskRows", fn := fun _ => fun
  | [d1, d2, d3] => { results := [.lit (.bool false)], args := [d1, d2, d3] }
  | _ => none }
def MaskRowsWrongFalsely : Prop := maskRowsRow.holds Tryd.pinned (OpenSpec.ofChange maskRowsWrong)

/-- 'truchmanlaw15.ModeBodies': WHATEVER THE INPUT: true; the input reads as it did. -/
def modeBodiesSpec : ChangeSpec := { name := "modeBodies", fn := fun _ => fun
  | [d1, d2] => { results := [.lit (.bool true)], args := [d1, d2] }
  | _ => none }
def modeBodiesRow : OpenClaim := { program := "ytealbjkhjpmilaadoor", sum := "7a5b739d8966d28e3fd812795e69df37977ead21ae5f501be418f6c85bfa1042", func := "truchman/truchmanlaw15.ModeBodies", spec := "modeBodies", inPlace := ["internal/abi.NoEscape", "internal/bytealg.MakeNoZero", "internal/reflectlite.TypeOf"], unfollowed := true, recurses := true, named := ["truchman/api.ErrForm", "truchman/api.ErrState", "truchman/api.ErrDup", "truchman/api.ErrShort", "truchman/api.ErrLong", "truchman/api.ErrKind", "truchman/api.ErrRange", "truchman/api.ErrFull", "truchman/api.ErrName", "truchman/api.ErrNone", "truchman/api.ErrDepth", "truchman/api.ErrFuel", "truchman/api.ErrStack", "truchman/api.ErrClosed", "truchman/api.ErrEmpty", "truchman/api.ErrNumber"], apart := false, laid := [("truchman/api.ErrRange", laid_truchman_api_ErrRange), ("truchman/api.ErrFull", laid_truchman_api_ErrFull), ("truchman/api.ErrShort", laid_truchman_api_ErrShort), ("truchman/api.ErrLong", laid_truchman_api_ErrLong), ("truchman/api.ErrForm", laid_truchman_api_ErrForm), ("truchman/api.ErrName", laid_truchman_api_ErrName), ("truchman/api.ErrNone", laid_truchman_api_ErrNone), ("truchman/api.ErrDup", laid_truchman_api_ErrDup), ("truchman/api.ErrKind", laid_truchman_api_ErrKind), ("truchman/api.ErrState", laid_truchman_api_ErrState), ("truchman/api.ErrDepth", laid_truchman_api_ErrDepth), ("truchman/api.ErrFuel", laid_truchman_api_ErrFuel), ("truchman/api.ErrStack", laid_truchman_api_ErrStack), ("truchman/api.ErrClosed", laid_truchman_api_ErrClosed), ("truchman/api.ErrEmpty", laid_truchman_api_ErrEmpty), ("truchman/api.ErrNumber", laid_truchman_api_ErrNumber)] }
def ModeBodiesSaid : Prop := modeBodiesRow.holds Tryd.pinned (OpenSpec.ofChange modeBodiesSpec)

/-- ITS FALSE NEIGHBOUR: 'it returns false'. Refute it at one input. -/
def modeBodiesWrong : ChangeSpec := { name := "modeBodies", fn := fun _ => fun
  | [d1, d2] => { results := [.lit (.bool false)], args := [d1, d2] }
  | _ => none }
def ModeBodiesWrongFalsely : Prop := modeBodiesRow.holds Tryd.pinned (OpenSpec.ofChange modeBodiesWrong)

/-- 'truchmanlaw15.ModeActs': WHATEVER THE INPUT: true; the input reads as it did. -/
def modeActsSpec : ChangeSpec := { name := "modeActs", fn := fun _ => fun
  | [d1, d2] => { results := [.lit (.bool true)], args := [d1, d2] }
  | _ => none }
def modeActsRow : OpenClaim := { program := "ytealbjkhjpmilaadoor", sum := "7a5b739d8966d28e3fd812795e69df37977ead21ae5f501be418f6c85bfa1042", func := "truchman/truchmanlaw15.ModeActs", spec := "modeActs", inPlace := ["internal/abi.NoEscape", "internal/bytealg.MakeNoZero", "internal/reflectlite.TypeOf"], unfollowed := true, recurses := true, named := ["truchman/api.ErrForm", "truchman/api.ErrState", "truchman/api.ErrDup", "truchman/api.ErrShort", "truchman/api.ErrLong", "truchman/api.ErrKind", "truchman/api.ErrRange", "truchman/api.ErrFull", "truchman/api.ErrName", "truchman/api.ErrNone", "truchman/api.ErrDepth", "truchman/api.ErrFuel", "truchman/api.ErrStack", "truchman/api.ErrClosed", "truchman/api.ErrEmpty", "truchman/api.ErrNumber"], apart := false, laid := [("truchman/api.ErrRange", laid_truchman_api_ErrRange), ("truchman/api.ErrFull", laid_truchman_api_ErrFull), ("truchman/api.ErrShort", laid_truchman_api_ErrShort), ("truchman/api.ErrLong", laid_truchman_api_ErrLong), ("truchman/api.ErrForm", laid_truchman_api_ErrForm), ("truchman/api.ErrName", laid_truchman_api_ErrName), ("truchman/api.ErrNone", laid_truchman_api_ErrNone), ("truchman/api.ErrDup", laid_truchman_api_ErrDup), ("truchman/api.ErrKind", laid_truchman_api_ErrKind), ("truchman/api.ErrState", laid_truchman_api_ErrState), ("truchman/api.ErrDepth", laid_truchman_api_ErrDepth), ("truchman/api.ErrFuel", laid_truchman_api_ErrFuel), ("truchman/api.ErrStack", laid_truchman_api_ErrStack), ("truchman/api.ErrClosed", laid_truchman_api_ErrClosed), ("truchman/api.ErrEmpty", laid_truchman_api_ErrEmpty), ("truchman/api.ErrNumber", laid_truchman_api_ErrNumber)] }
def ModeActsSaid : Prop := modeActsRow.holds Tryd.pinned (OpenSpec.ofChange modeActsSpec)

/-- ITS FALSE NEIGHBOUR: 'it returns false'. Refute it at one input. -/
def modeActsWrong : ChangeSpec := { name := "modeActs", fn := fun _ => fun
  | [d1, d2] => { results := [.lit (.bool false)], args := [d1, d2] }
  | _ => none }
def ModeActsWrongFalsely : Prop := modeActsRow.holds Tryd.pinned (OpenSpec.ofChange modeActsWrong)

/-- 'truchmanlaw16.MaskBack': WHATEVER THE INPUT: true; the input reads as it did. -/
def maskBackSpec : ChangeSpec := { name := "maskBack", fn := fun _ => fun
  | [d1, d2, d3] => { results := [.lit (.bool true)], args := [d1, d2, d3] }
  | _ => none }
def maskBackRow : OpenClaim := { program := "ytealbjkhjpmilaadoor", sum := "7a5b739d8966d28e3fd812795e69df37977ead21ae5f501be418f6c85bfa1042", func := "truchman/truchmanlaw16.MaskBack", spec := "maskBack", named := ["unicode/utf8.first", "unicode/utf8.acceptRanges", "truchman/api.ErrKind", "truchman/api.ErrShort", "truchman/api.ErrLong"], apart := false, laid := [("unicode/utf8.acceptRanges", laid_unicode_utf8_acceptRanges), ("truchman/api.ErrShort", laid_truchman_api_ErrShort), ("truchman/api.ErrLong", laid_truchman_api_ErrLong), ("truchman/api.ErrKind", laid_truchman_api_ErrKind), ("unicode/utf8.first", laid_unicode_utf8_first)] }
def MaskBackSaid : Prop := maskBackRow.holds Tryd.pinned (OpenSpec.ofChange maskBackSpec)

/-- ITS FALSE NEIGHBOUR: 'it returns false'. Refute it at one input. -/
def maskBackWrong : ChangeSpec := { name := "maskBack", fn := fun _ => fun
  | [d1, d2, d3] => { results := [.lit (.bool false)], args := [d1, d2, d3] }
  | _ => none }
def MaskBackWrongFalsely : Prop := maskBackRow.holds Tryd.pinned (OpenSpec.ofChange maskBackWrong)

/-- 'truchmanlaw16.MaskBodies': WHATEVER THE INPUT: true; the input reads as it did. -/
def maskBodiesSpec : ChangeSpec := { name := "maskBodies", fn := fun _ => fun
  | [d1, d2, d3] => { results := [.lit (.bool true)], args := [d1, d2, d3] }
  | _ => none }
def maskBodiesRow : OpenClaim := { program := "ytealbjkhjpmilaadoor", sum := "7a5b739d8966d28e3fd812795e69df37977ead21ae5f501be418f6c85bfa1042", func := "truchman/truchmanlaw16.MaskBodies", spec := "maskBodies", inPlace := ["internal/reflectlite.TypeOf"], unfollowed := true, recurses := true, named := ["unicode/utf8.first", "unicode/utf8.acceptRanges", "truchman/api.ErrShort", "truchman/api.ErrKind", "truchman/api.ErrLong", "truchman/api.ErrRange", "truchman/api.ErrFull", "truchman/api.ErrForm", "truchman/api.ErrName", "truchman/api.ErrNone", "truchman/api.ErrDup", "truchman/api.ErrState", "truchman/api.ErrDepth", "truchman/api.ErrFuel", "truchman/api.ErrStack", "truchman/api.ErrClosed", "truchman/api.ErrEmpty", "truchman/api.ErrNumber"], apart := false, laid := [("unicode/utf8.acceptRanges", laid_unicode_utf8_acceptRanges), ("truchman/api.ErrRange", laid_truchman_api_ErrRange), ("truchman/api.ErrFull", laid_truchman_api_ErrFull), ("truchman/api.ErrShort", laid_truchman_api_ErrShort), ("truchman/api.ErrLong", laid_truchman_api_ErrLong), ("truchman/api.ErrForm", laid_truchman_api_ErrForm), ("truchman/api.ErrName", laid_truchman_api_ErrName), ("truchman/api.ErrNone", laid_truchman_api_ErrNone), ("truchman/api.ErrDup", laid_truchman_api_ErrDup), ("truchman/api.ErrKind", laid_truchman_api_ErrKind), ("truchman/api.ErrState", laid_truchman_api_ErrState), ("truchman/api.ErrDepth", laid_truchman_api_ErrDepth), ("truchman/api.ErrFuel", laid_truchman_api_ErrFuel), ("truchman/api.ErrStack", laid_truchman_api_ErrStack), ("truchman/api.ErrClosed", laid_truchman_api_ErrClosed), ("truchman/api.ErrEmpty", laid_truchman_api_ErrEmpty), ("truchman/api.ErrNumber", laid_truchman_api_ErrNumber), ("unicode/utf8.first", laid_unicode_utf8_first)] }
def MaskBodiesSaid : Prop := maskBodiesRow.holds Tryd.pinned (OpenSpec.ofChange maskBodiesSpec)

/-- ITS FALSE NEIGHBOUR: 'it returns false'. Refute it at one input. -/
def maskBodiesWrong : ChangeSpec := { name := "maskBodies", fn := fun _ => fun
  | [d1, d2, d3] => { results := [.lit (.bool false)], args := [d1, d2, d3] }
  | _ => none }
def MaskBodiesWrongFalsely : Prop := maskBodiesRow.holds Tryd.pinned (OpenSpec.ofChange maskBodiesWrong)

/-- 'truchmanlaw04.CodesTell': WHATEVER THE INPUT: true; the input reads as it did. -/
def codesTellSpec : ChangeSpec := { name := "codesTell", fn := fun _ => fun
  | [d1, d2, d3] => { results := [.lit (.bool true)], args := [d1, d2, d3] }
  | _ => none }
def codesTellRow : OpenClaim := { program := "ytealbjkhjpmilaadoor", sum := "7a5b739d8966d28e3fd812795e69df37977ead21ae5f501be418f6c85bfa1042", func := "truchman/truchmanlaw04.CodesTell", spec := "codesTell", named := ["internal/strconv.uint64pow10", "math/bits.deBruijn32tab", "math/bits.deBruijn64tab", "truchman/codes.words"], apart := false, laid := [("math/bits.deBruijn32tab", laid_math_bits_deBruijn32tab), ("math/bits.deBruijn64tab", laid_math_bits_deBruijn64tab), ("internal/strconv.uint64pow10", laid_internal_strconv_uint64pow10), ("truchman/codes.words", laid_truchman_codes_words)] }
def CodesTellSaid : Prop := codesTellRow.holds Tryd.pinned (OpenSpec.ofChange codesTellSpec)

/-- ITS FALSE NEIGHBOUR: 'it returns false'. Refute it at one input. -/
def codesTellWrong : ChangeSpec := { name := "codesTell", fn := fun _ => fun
  | [d1, d2, d3] => { results := [.lit (.bool false)], args := [d1, d2, d3] }
  | _ => none }
def CodesTellWrongFalsely : Prop := codesTellRow.holds Tryd.pinned (OpenSpec.ofChange codesTellWrong)

/-- 'truchmanlaw17.StatusBodies': WHATEVER THE INPUT: true; the input reads as it did. -/
def statusBodiesSpec : ChangeSpec := { name := "statusBodies", fn := fun _ => fun
  | [d1, d2] => { results := [.lit (.bool true)], args := [d1, d2] }
  | _ => none }
def statusBodiesRow : OpenClaim := { program := "ytealbjkhjpmilaadoor", sum := "7a5b739d8966d28e3fd812795e69df37977ead21ae5f501be418f6c85bfa1042", func := "truchman/truchmanlaw17.StatusBodies", spec := "statusBodies", inPlace := ["internal/abi.NoEscape", "internal/bytealg.MakeNoZero", "internal/reflectlite.TypeOf"], unfollowed := true, recurses := true, named := ["truchman/codes.words", "internal/strconv.uint64pow10", "math/bits.deBruijn32tab", "math/bits.deBruijn64tab", "truchman/api.ErrLong", "truchman/api.ErrKind", "truchman/api.ErrRange", "truchman/api.ErrFull", "truchman/api.ErrShort", "truchman/api.ErrForm", "truchman/api.ErrName", "truchman/api.ErrNone", "truchman/api.ErrDup", "truchman/api.ErrState", "truchman/api.ErrDepth", "truchman/api.ErrFuel", "truchman/api.ErrStack", "truchman/api.ErrClosed", "truchman/api.ErrEmpty", "truchman/api.ErrNumber"], apart := false, laid := [("math/bits.deBruijn32tab", laid_math_bits_deBruijn32tab), ("math/bits.deBruijn64tab", laid_math_bits_deBruijn64tab), ("internal/strconv.uint64pow10", laid_internal_strconv_uint64pow10), ("truchman/api.ErrRange", laid_truchman_api_ErrRange), ("truchman/api.ErrFull", laid_truchman_api_ErrFull), ("truchman/api.ErrShort", laid_truchman_api_ErrShort), ("truchman/api.ErrLong", laid_truchman_api_ErrLong), ("truchman/api.ErrForm", laid_truchman_api_ErrForm), ("truchman/api.ErrName", laid_truchman_api_ErrName), ("truchman/api.ErrNone", laid_truchman_api_ErrNone), ("truchman/api.ErrDup", laid_truchman_api_ErrDup), ("truchman/api.ErrKind", laid_truchman_api_ErrKind), ("truchman/api.ErrState", laid_truchman_api_ErrState), ("truchman/api.ErrDepth", laid_truchman_api_ErrDepth), ("truchman/api.ErrFuel", laid_truchman_api_ErrFuel), ("truchman/api.ErrStack", laid_truchman_api_ErrStack), ("truchman/api.ErrClosed", laid_truchman_api_ErrClosed), ("truchman/api.ErrEmpty", laid_truchman_api_ErrEmpty), ("truchman/api.ErrNumber", laid_truchman_api_ErrNumber), ("truchman/codes.words", laid_truchman_codes_words)] }
def StatusBodiesSaid : Prop := statusBodiesRow.holds Tryd.pinned (OpenSpec.ofChange statusBodiesSpec)

/-- ITS FALSE NEIGHBOUR: 'it returns false'. Refute it at one input. -/
def statusBodiesWrong : ChangeSpec := { name := "statusBodies", fn := fun _ => fun
  | [d1, d2] => { results := [.lit (.bool false)], args := [d1, d2] }
  | _ => none }
def StatusBodiesWrongFalsely : Prop := statusBodiesRow.holds Tryd.pinned (OpenSpec.ofChange statusBodiesWrong)

/-- 'truchmanlaw17.StatusTables': WHATEVER THE INPUT: true; the input reads as it did. -/
def statusTablesSpec : ChangeSpec := { name := "statusTables", fn := fun _ => fun
  | [d1, d2] => { results := [.lit (.bool true)], args := [d1, d2] }
  | _ => none }
def statusTablesRow : OpenClaim := { program := "ytealbjkhjpmilaadoor", sum := "7a5b739d8966d28e3fd812795e69df37977ead21ae5f501be418f6c85bfa1042", func := "truchman/truchmanlaw17.StatusTables", spec := "statusTables", inPlace := ["internal/abi.NoEscape", "internal/bytealg.MakeNoZero", "internal/reflectlite.TypeOf"], unfollowed := true, recurses := true, named := ["truchman/codes.words", "internal/strconv.uint64pow10", "math/bits.deBruijn32tab", "math/bits.deBruijn64tab", "truchman/api.ErrKind", "truchman/api.ErrRange", "truchman/api.ErrForm", "truchman/api.ErrFull", "truchman/api.ErrShort", "truchman/api.ErrLong", "truchman/api.ErrName", "truchman/api.ErrNone", "truchman/api.ErrDup", "truchman/api.ErrState", "truchman/api.ErrDepth", "truchman/api.ErrFuel", "truchman/api.ErrStack", "truchman/api.ErrClosed", "truchman/api.ErrEmpty", "truchman/api.ErrNumber"], apart := false, laid := [("math/bits.deBruijn32tab", laid_math_bits_deBruijn32tab), ("math/bits.deBruijn64tab", laid_math_bits_deBruijn64tab), ("internal/strconv.uint64pow10", laid_internal_strconv_uint64pow10), ("truchman/api.ErrRange", laid_truchman_api_ErrRange), ("truchman/api.ErrFull", laid_truchman_api_ErrFull), ("truchman/api.ErrShort", laid_truchman_api_ErrShort), ("truchman/api.ErrLong", laid_truchman_api_ErrLong), ("truchman/api.ErrForm", laid_truchman_api_ErrForm), ("truchman/api.ErrName", laid_truchman_api_ErrName), ("truchman/api.ErrNone", laid_truchman_api_ErrNone), ("truchman/api.ErrDup", laid_truchman_api_ErrDup), ("truchman/api.ErrKind", laid_truchman_api_ErrKind), ("truchman/api.ErrState", laid_truchman_api_ErrState), ("truchman/api.ErrDepth", laid_truchman_api_ErrDepth), ("truchman/api.ErrFuel", laid_truchman_api_ErrFuel), ("truchman/api.ErrStack", laid_truchman_api_ErrStack), ("truchman/api.ErrClosed", laid_truchman_api_ErrClosed), ("truchman/api.ErrEmpty", laid_truchman_api_ErrEmpty), ("truchman/api.ErrNumber", laid_truchman_api_ErrNumber), ("truchman/codes.words", laid_truchman_codes_words)] }
def StatusTablesSaid : Prop := statusTablesRow.holds Tryd.pinned (OpenSpec.ofChange statusTablesSpec)

/-- ITS FALSE NEIGHBOUR: 'it returns false'. Refute it at one input. -/
def statusTablesWrong : ChangeSpec := { name := "statusTables", fn := fun _ => fun
  | [d1, d2] => { results := [.lit (.bool false)], args := [d1, d2] }
  | _ => none }
def StatusTablesWrongFalsely : Prop := statusTablesRow.holds Tryd.pinned (OpenSpec.ofChange statusTablesWrong)

/-- 'truchmanlaw04.CodesNames': WHATEVER THE INPUT: true; the input reads as it did. -/
def codesNamesSpec : ChangeSpec := { name := "codesNames", fn := fun _ => fun
  | [d1, d2] => { results := [.lit (.bool true)], args := [d1, d2] }
  | _ => none }
def codesNamesRow : OpenClaim := { program := "ytealbjkhjpmilaadoor", sum := "7a5b739d8966d28e3fd812795e69df37977ead21ae5f501be418f6c85bfa1042", func := "truchman/truchmanlaw04.CodesNames", spec := "codesNames", named := ["internal/strconv.uint64pow10", "math/bits.deBruijn32tab", "math/bits.deBruijn64tab", "strconv.ErrSyntax", "strconv.ErrRange"], apart := false, laid := [("math/bits.deBruijn32tab", laid_math_bits_deBruijn32tab), ("math/bits.deBruijn64tab", laid_math_bits_deBruijn64tab), ("internal/strconv.uint64pow10", laid_internal_strconv_uint64pow10), ("strconv.ErrRange", laid_strconv_ErrRange), ("strconv.ErrSyntax", laid_strconv_ErrSyntax)] }
def CodesNamesSaid : Prop := codesNamesRow.holds Tryd.pinned (OpenSpec.ofChange codesNamesSpec)

/-- ITS FALSE NEIGHBOUR: 'it returns false'. Refute it at one input. -/
def codesNamesWrong : ChangeSpec := { name := "codesNames", fn := fun _ => fun
  | [d1, d2] => { results := [.lit (.bool false)], args := [d1, d2] }
  | _ => none }
def CodesNamesWrongFalsely : Prop := codesNamesRow.holds Tryd.pinned (OpenSpec.ofChange codesNamesWrong)

/-- 'truchmanlaw04.CodesOwn': WHATEVER THE INPUT: true; the input reads as it did. -/
def codesOwnSpec : ChangeSpec := { name := "codesOwn", fn := fun _ => fun
  | [d1, d2, d3] => { results := [.lit (.bool true)], args := [d1, d2, d3] }
  | _ => none }
def codesOwnRow : OpenClaim := { program := "ytealbjkhjpmilaadoor", sum := "7a5b739d8966d28e3fd812795e69df37977ead21ae5f501be418f6c85bfa1042", func := "truchman/truchmanlaw04.CodesOwn", spec := "codesOwn", named := ["internal/strconv.uint64pow10", "math/bits.deBruijn32tab", "math/bits.deBruijn64tab", "strconv.ErrSyntax", "strconv.ErrRange", "truchman/codes.words"], apart := false, laid := [("math/bits.deBruijn32tab", laid_math_bits_deBruijn32tab), ("math/bits.deBruijn64tab", laid_math_bits_deBruijn64tab), ("internal/strconv.uint64pow10", laid_internal_strconv_uint64pow10), ("strconv.ErrRange", laid_strconv_ErrRange), ("strconv.ErrSyntax", laid_strconv_ErrSyntax), ("truchman/codes.words", laid_truchman_codes_words)] }
def CodesOwnSaid : Prop := codesOwnRow.holds Tryd.pinned (OpenSpec.ofChange codesOwnSpec)

/-- ITS FALSE NEIGHBOUR: 'it returns false'. Refute it at one input. -/
def codesOwnWrong : ChangeSpec := { name := "codesOwn", fn := fun _ => fun
  | [d1, d2, d3] => { results := [.lit (.bool false)], args := [d1, d2, d3] }
  | _ => none }
def CodesOwnWrongFalsely : Prop := codesOwnRow.holds Tryd.pinned (OpenSpec.ofChange codesOwnWrong)

/- THE SECOND FORM. 'bulk': how many values and letters a reading holds, each counted each time it is reached (what is shared counts as often as it is met; a slice's spare places count too). A statement '..UptoSaid' is the law's where the arguments, and the package variables that the reading takes, are together of bulk at most 1048576: NARROWER than '..Said'. Prove '..Said' where nothing that the law and all that it calls make is longer than what came in: it says more and counts as full. Else prove '..UptoSaid'. A law counts once. -/
mutual
def uptoBulk {H : Type} : DataW H → Nat
  | .lit (.string bytes) => bytes.length + 1
  | .lit _ => 1
  | .nil => 1
  | .ptr d => uptoBulk d + 1
  | .slice elems spare => uptoBulkAll elems + uptoBulkAll spare + 1
  | .agg parts => uptoBulkAll parts + 1
  | .iface _ d => uptoBulk d + 1
  | .map entries => uptoBulkEntries entries + 1
  | .held _ => 1
def uptoBulkAll {H : Type} : List (DataW H) → Nat
  | [] => 0
  | d :: r => uptoBulk d + uptoBulkAll r
def uptoBulkEntries {H : Type} : List (Lit × DataW H) → Nat
  | [] => 0
  | x :: r => uptoBulkEntry x + uptoBulkEntries r
def uptoBulkEntry {H : Type} : Lit × DataW H → Nat
  | (.string bytes, d) => bytes.length + uptoBulk d + 1
  | (_, d) => uptoBulk d + 1
 end
def uptoSmall : (H : Type) → List (DataW H) → Bool := fun _ ds => decide (uptoBulkAll ds ≤ 1048576)
def OpenSpec.upto (s : _root_.Go.ChangeSpec) : _root_.Go.OpenSpec := { _root_.Go.OpenSpec.ofChange s with cond := some uptoSmall }

/-- 'truchmanlaw15.ModeRests', WHERE WHAT IT READS IS OF BULK AT MOST 1048576: true; the input reads as it did. -/
def modeRestsUptoRow : OpenClaim := { program := "ytealbjkhjpmilaadoor", sum := "7a5b739d8966d28e3fd812795e69df37977ead21ae5f501be418f6c85bfa1042", func := "truchman/truchmanlaw15.ModeRests", spec := "modeRests", inPlace := ["internal/abi.NoEscape", "internal/bytealg.MakeNoZero"], named := ["truchman/api.ErrForm", "truchman/api.ErrState", "truchman/api.ErrDup", "truchman/api.ErrShort", "truchman/api.ErrLong", "truchman/api.ErrKind"], apart := false, laid := [("truchman/api.ErrShort", laid_truchman_api_ErrShort), ("truchman/api.ErrLong", laid_truchman_api_ErrLong), ("truchman/api.ErrForm", laid_truchman_api_ErrForm), ("truchman/api.ErrDup", laid_truchman_api_ErrDup), ("truchman/api.ErrKind", laid_truchman_api_ErrKind), ("truchman/api.ErrState", laid_truchman_api_ErrState)], narrowed := true }
def ModeRestsUptoSaid : Prop := modeRestsUptoRow.holds Tryd.pinned (OpenSpec.upto modeRestsSpec)

/-- 'truchmanlaw16.MaskRows', WHERE WHAT IT READS IS OF BULK AT MOST 1048576: true; the input reads as it did. -/
def maskRowsUptoRow : OpenClaim := { program := "ytealbjkhjpmilaadoor", sum := "7a5b739d8966d28e3fd812795e69df37977ead21ae5f501be418f6c85bfa1042", func := "truchman/truchmanlaw16.MaskRows", spec := "maskRows", named := ["unicode/utf8.first", "unicode/utf8.acceptRanges"], apart := false, laid := [("unicode/utf8.acceptRanges", laid_unicode_utf8_acceptRanges), ("unicode/utf8.first", laid_unicode_utf8_first)], narrowed := true }
def MaskRowsUptoSaid : Prop := maskRowsUptoRow.holds Tryd.pinned (OpenSpec.upto maskRowsSpec)

/-- 'truchmanlaw15.ModeBodies', WHERE WHAT IT READS IS OF BULK AT MOST 1048576: true; the input reads as it did. -/
def modeBodiesUptoRow : OpenClaim := { program := "ytealbjkhjpmilaadoor", sum := "7a5b739d8966d28e3fd812795e69df37977ead21ae5f501be418f6c85bfa1042", func := "truchman/truchmanlaw15.ModeBodies", spec := "modeBodies", inPlace := ["internal/abi.NoEscape", "internal/bytealg.MakeNoZero", "internal/reflectlite.TypeOf"], unfollowed := true, recurses := true, named := ["truchman/api.ErrForm", "truchman/api.ErrState", "truchman/api.ErrDup", "truchman/api.ErrShort", "truchman/api.ErrLong", "truchman/api.ErrKind", "truchman/api.ErrRange", "truchman/api.ErrFull", "truchman/api.ErrName", "truchman/api.ErrNone", "truchman/api.ErrDepth", "truchman/api.ErrFuel", "truchman/api.ErrStack", "truchman/api.ErrClosed", "truchman/api.ErrEmpty", "truchman/api.ErrNumber"], apart := false, laid := [("truchman/api.ErrRange", laid_truchman_api_ErrRange), ("truchman/api.ErrFull", laid_truchman_api_ErrFull), ("truchman/api.ErrShort", laid_truchman_api_ErrShort), ("truchman/api.ErrLong", laid_truchman_api_ErrLong), ("truchman/api.ErrForm", laid_truchman_api_ErrForm), ("truchman/api.ErrName", laid_truchman_api_ErrName), ("truchman/api.ErrNone", laid_truchman_api_ErrNone), ("truchman/api.ErrDup", laid_truchman_api_ErrDup), ("truchman/api.ErrKind", laid_truchman_api_ErrKind), ("truchman/api.ErrState", laid_truchman_api_ErrState), ("truchman/api.ErrDepth", laid_truchman_api_ErrDepth), ("truchman/api.ErrFuel", laid_truchman_api_ErrFuel), ("truchman/api.ErrStack", laid_truchman_api_ErrStack), ("truchman/api.ErrClosed", laid_truchman_api_ErrClosed), ("truchman/api.ErrEmpty", laid_truchman_api_ErrEmpty), ("truchman/api.ErrNumber", laid_truchman_api_ErrNumber)], narrowed := true }
def ModeBodiesUptoSaid : Prop := modeBodiesUptoRow.holds Tryd.pinned (OpenSpec.upto modeBodiesSpec)

/-- 'truchmanlaw15.ModeActs', WHERE WHAT IT READS IS OF BULK AT MOST 1048576: true; the input reads as it did. -/
def modeActsUptoRow : OpenClaim := { program := "ytealbjkhjpmilaadoor", sum := "7a5b739d8966d28e3fd812795e69df37977ead21ae5f501be418f6c85bfa1042", func := "truchman/truchmanlaw15.ModeActs", spec := "modeActs", inPlace := ["internal/abi.NoEscape", "internal/bytealg.MakeNoZero", "internal/reflectlite.TypeOf"], unfollowed := true, recurses := true, named := ["truchman/api.ErrForm", "truchman/api.ErrState", "truchman/api.ErrDup", "truchman/api.ErrShort", "truchman/api.ErrLong", "truchman/api.ErrKind", "truchman/api.ErrRange", "truchman/api.ErrFull", "truchman/api.ErrName", "truchman/api.ErrNone", "truchman/api.ErrDepth", "truchman/api.ErrFuel", "truchman/api.ErrStack", "truchman/api.ErrClosed", "truchman/api.ErrEmpty", "truchman/api.ErrNumber"], apart := false, laid := [("truchman/api.ErrRange", laid_truchman_api_ErrRange), ("truchman/api.ErrFull", laid_truchman_api_ErrFull), ("truchman/api.ErrShort", laid_truchman_api_ErrShort), ("truchman/api.ErrLong", laid_truchman_api_ErrLong), ("truchman/api.ErrForm", laid_truchman_api_ErrForm), ("truchman/api.ErrName", laid_truchman_api_ErrName), ("truchman/api.ErrNone", laid_truchman_api_ErrNone), ("truchman/api.ErrDup", laid_truchman_api_ErrDup), ("truchman/api.ErrKind", laid_truchman_api_ErrKind), ("truchman/api.ErrState", laid_truchman_api_ErrState), ("truchman/api.ErrDepth", laid_truchman_api_ErrDepth), ("truchman/api.ErrFuel", laid_truchman_api_ErrFuel), ("truchman/api.ErrStack", laid_truchman_api_ErrStack), ("truchman/api.ErrClosed", laid_truchman_api_ErrClosed), ("truchman/api.ErrEmpty", laid_truchman_api_ErrEmpty), ("truchman/api.ErrNumber", laid_truchman_api_ErrNumber)], narrowed := true }
def ModeActsUptoSaid : Prop := modeActsUptoRow.holds Tryd.pinned (OpenSpec.upto modeActsSpec)

/-- 'truchmanlaw16.MaskBack', WHERE WHAT IT READS IS OF BULK AT MOST 1048576: true; the input reads as it did. -/
def maskBackUptoRow : OpenClaim := { program := "ytealbjkhjpmilaadoor", sum := "7a5b739d8966d28e3fd812795e69df37977ead21ae5f501be418f6c85bfa1042", func := "truchman/truchmanlaw16.MaskBack", spec := "maskBack", named := ["unicode/utf8.first", "unicode/utf8.acceptRanges", "truchman/api.ErrKind", "truchman/api.ErrShort", "truchman/api.ErrLong"], apart := false, laid := [("unicode/utf8.acceptRanges", laid_unicode_utf8_acceptRanges), ("truchman/api.ErrShort", laid_truchman_api_ErrShort), ("truchman/api.ErrLong", laid_truchman_api_ErrLong), ("truchman/api.ErrKind", laid_truchman_api_ErrKind), ("unicode/utf8.first", laid_unicode_utf8_first)], narrowed := true }
def MaskBackUptoSaid : Prop := maskBackUptoRow.holds Tryd.pinned (OpenSpec.upto maskBackSpec)

/-- 'truchmanlaw16.MaskBodies', WHERE WHAT IT READS IS OF BULK AT MOST 1048576: true; the input reads as it did. -/
def maskBodiesUptoRow : OpenClaim := { program := "ytealbjkhjpmilaadoor", sum := "7a5b739d8966d28e3fd812795e69df37977ead21ae5f501be418f6c85bfa1042", func := "truchman/truchmanlaw16.MaskBodies", spec := "maskBodies", inPlace := ["internal/reflectlite.TypeOf"], unfollowed := true, recurses := true, named := ["unicode/utf8.first", "unicode/utf8.acceptRanges", "truchman/api.ErrShort", "truchman/api.ErrKind", "truchman/api.ErrLong", "truchman/api.ErrRange", "truchman/api.ErrFull", "truchman/api.ErrForm", "truchman/api.ErrName", "truchman/api.ErrNone", "truchman/api.ErrDup", "truchman/api.ErrState", "truchman/api.ErrDepth", "truchman/api.ErrFuel", "truchman/api.ErrStack", "truchman/api.ErrClosed", "truchman/api.ErrEmpty", "truchman/api.ErrNumber"], apart := false, laid := [("unicode/utf8.acceptRanges", laid_unicode_utf8_acceptRanges), ("truchman/api.ErrRange", laid_truchman_api_ErrRange), ("truchman/api.ErrFull", laid_truchman_api_ErrFull), ("truchman/api.ErrShort", laid_truchman_api_ErrShort), ("truchman/api.ErrLong", laid_truchman_api_ErrLong), ("truchman/api.ErrForm", laid_truchman_api_ErrForm), ("truchman/api.ErrName", laid_truchman_api_ErrName), ("truchman/api.ErrNone", laid_truchman_api_ErrNone), ("truchman/api.ErrDup", laid_truchman_api_ErrDup), ("truchman/api.ErrKind", laid_truchman_api_ErrKind), ("truchman/api.ErrState", laid_truchman_api_ErrState), ("truchman/api.ErrDepth", laid_truchman_api_ErrDepth), ("truchman/api.ErrFuel", laid_truchman_api_ErrFuel), ("truchman/api.ErrStack", laid_truchman_api_ErrStack), ("truchman/api.ErrClosed", laid_truchman_api_ErrClosed), ("truchman/api.ErrEmpty", laid_truchman_api_ErrEmpty), ("truchman/api.ErrNumber", laid_truchman_api_ErrNumber), ("unicode/utf8.first", laid_unicode_utf8_first)], narrowed := true }
def MaskBodiesUptoSaid : Prop := maskBodiesUptoRow.holds Tryd.pinned (OpenSpec.upto maskBodiesSpec)

/-- 'truchmanlaw04.CodesTell', WHERE WHAT IT READS IS OF BULK AT MOST 1048576: true; the input reads as it did. -/
def codesTellUptoRow : OpenClaim := { program := "ytealbjkhjpmilaadoor", sum := "7a5b739d8966d28e3fd812795e69df37977ead21ae5f501be418f6c85bfa1042", func := "truchman/truchmanlaw04.CodesTell", spec := "codesTell", named := ["internal/strconv.uint64pow10", "math/bits.deBruijn32tab", "math/bits.deBruijn64tab", "truchman/codes.words"], apart := false, laid := [("math/bits.deBruijn32tab", laid_math_bits_deBruijn32tab), ("math/bits.deBruijn64tab", laid_math_bits_deBruijn64tab), ("internal/strconv.uint64pow10", laid_internal_strconv_uint64pow10), ("truchman/codes.words", laid_truchman_codes_words)], narrowed := true }
def CodesTellUptoSaid : Prop := codesTellUptoRow.holds Tryd.pinned (OpenSpec.upto codesTellSpec)

/-- 'truchmanlaw17.StatusBodies', WHERE WHAT IT READS IS OF BULK AT MOST 1048576: true; the input reads as it did. -/
def statusBodiesUptoRow : OpenClaim := { program := "ytealbjkhjpmilaadoor", sum := "7a5b739d8966d28e3fd812795e69df37977ead21ae5f501be418f6c85bfa1042", func := "truchman/truchmanlaw17.StatusBodies", spec := "statusBodies", inPlace := ["internal/abi.NoEscape", "internal/bytealg.MakeNoZero", "internal/reflectlite.TypeOf"], unfollowed := true, recurses := true, named := ["truchman/codes.words", "internal/strconv.uint64pow10", "math/bits.deBruijn32tab", "math/bits.deBruijn64tab", "truchman/api.ErrLong", "truchman/api.ErrKind", "truchman/api.ErrRange", "truchman/api.ErrFull", "truchman/api.ErrShort", "truchman/api.ErrForm", "truchman/api.ErrName", "truchman/api.ErrNone", "truchman/api.ErrDup", "truchman/api.ErrState", "truchman/api.ErrDepth", "truchman/api.ErrFuel", "truchman/api.ErrStack", "truchman/api.ErrClosed", "truchman/api.ErrEmpty", "truchman/api.ErrNumber"], apart := false, laid := [("math/bits.deBruijn32tab", laid_math_bits_deBruijn32tab), ("math/bits.deBruijn64tab", laid_math_bits_deBruijn64tab), ("internal/strconv.uint64pow10", laid_internal_strconv_uint64pow10), ("truchman/api.ErrRange", laid_truchman_api_ErrRange), ("truchman/api.ErrFull", laid_truchman_api_ErrFull), ("truchman/api.ErrShort", laid_truchman_api_ErrShort), ("truchman/api.ErrLong", laid_truchman_api_ErrLong), ("truchman/api.ErrForm", laid_truchman_api_ErrForm), ("truchman/api.ErrName", laid_truchman_api_ErrName), ("truchman/api.ErrNone", laid_truchman_api_ErrNone), ("truchman/api.ErrDup", laid_truchman_api_ErrDup), ("truchman/api.ErrKind", laid_truchman_api_ErrKind), ("truchman/api.ErrState", laid_truchman_api_ErrState), ("truchman/api.ErrDepth", laid_truchman_api_ErrDepth), ("truchman/api.ErrFuel", laid_truchman_api_ErrFuel), ("truchman/api.ErrStack", laid_truchman_api_ErrStack), ("truchman/api.ErrClosed", laid_truchman_api_ErrClosed), ("truchman/api.ErrEmpty", laid_truchman_api_ErrEmpty), ("truchman/api.ErrNumber", laid_truchman_api_ErrNumber), ("truchman/codes.words", laid_truchman_codes_words)], narrowed := true }
def StatusBodiesUptoSaid : Prop := statusBodiesUptoRow.holds Tryd.pinned (OpenSpec.upto statusBodiesSpec)

/-- 'truchmanlaw17.StatusTables', WHERE WHAT IT READS IS OF BULK AT MOST 1048576: true; the input reads as it did. -/
def statusTablesUptoRow : OpenClaim := { program := "ytealbjkhjpmilaadoor", sum := "7a5b739d8966d28e3fd812795e69df37977ead21ae5f501be418f6c85bfa1042", func := "truchman/truchmanlaw17.StatusTables", spec := "statusTables", inPlace := ["internal/abi.NoEscape", "internal/bytealg.MakeNoZero", "internal/reflectlite.TypeOf"], unfollowed := true, recurses := true, named := ["truchman/codes.words", "internal/strconv.uint64pow10", "math/bits.deBruijn32tab", "math/bits.deBruijn64tab", "truchman/api.ErrKind", "truchman/api.ErrRange", "truchman/api.ErrForm", "truchman/api.ErrFull", "truchman/api.ErrShort", "truchman/api.ErrLong", "truchman/api.ErrName", "truchman/api.ErrNone", "truchman/api.ErrDup", "truchman/api.ErrState", "truchman/api.ErrDepth", "truchman/api.ErrFuel", "truchman/api.ErrStack", "truchman/api.ErrClosed", "truchman/api.ErrEmpty", "truchman/api.ErrNumber"], apart := false, laid := [("math/bits.deBruijn32tab", laid_math_bits_deBruijn32tab), ("math/bits.deBruijn64tab", laid_math_bits_deBruijn64tab), ("internal/strconv.uint64pow10", laid_internal_strconv_uint64pow10), ("truchman/api.ErrRange", laid_truchman_api_ErrRange), ("truchman/api.ErrFull", laid_truchman_api_ErrFull), ("truchman/api.ErrShort", laid_truchman_api_ErrShort), ("truchman/api.ErrLong", laid_truchman_api_ErrLong), ("truchman/api.ErrForm", laid_truchman_api_ErrForm), ("truchman/api.ErrName", laid_truchman_api_ErrName), ("truchman/api.ErrNone", laid_truchman_api_ErrNone), ("truchman/api.ErrDup", laid_truchman_api_ErrDup), ("truchman/api.ErrKind", laid_truchman_api_ErrKind), ("truchman/api.ErrState", laid_truchman_api_ErrState), ("truchman/api.ErrDepth", laid_truchman_api_ErrDepth), ("truchman/api.ErrFuel", laid_truchman_api_ErrFuel), ("truchman/api.ErrStack", laid_truchman_api_ErrStack), ("truchman/api.ErrClosed", laid_truchman_api_ErrClosed), ("truchman/api.ErrEmpty", laid_truchman_api_ErrEmpty), ("truchman/api.ErrNumber", laid_truchman_api_ErrNumber), ("truchman/codes.words", laid_truchman_codes_words)], narrowed := true }
def StatusTablesUptoSaid : Prop := statusTablesUptoRow.holds Tryd.pinned (OpenSpec.upto statusTablesSpec)

/-- 'truchmanlaw04.CodesNames', WHERE WHAT IT READS IS OF BULK AT MOST 1048576: true; the input reads as it did. -/
def codesNamesUptoRow : OpenClaim := { program := "ytealbjkhjpmilaadoor", sum := "7a5b739d8966d28e3fd812795e69df37977ead21ae5f501be418f6c85bfa1042", func := "truchman/truchmanlaw04.CodesNames", spec := "codesNames", named := ["internal/strconv.uint64pow10", "math/bits.deBruijn32tab", "math/bits.deBruijn64tab", "strconv.ErrSyntax", "strconv.ErrRange"], apart := false, laid := [("math/bits.deBruijn32tab", laid_math_bits_deBruijn32tab), ("math/bits.deBruijn64tab", laid_math_bits_deBruijn64tab), ("internal/strconv.uint64pow10", laid_internal_strconv_uint64pow10), ("strconv.ErrRange", laid_strconv_ErrRange), ("strconv.ErrSyntax", laid_strconv_ErrSyntax)], narrowed := true }
def CodesNamesUptoSaid : Prop := codesNamesUptoRow.holds Tryd.pinned (OpenSpec.upto codesNamesSpec)

/-- 'truchmanlaw04.CodesOwn', WHERE WHAT IT READS IS OF BULK AT MOST 1048576: true; the input reads as it did. -/
def codesOwnUptoRow : OpenClaim := { program := "ytealbjkhjpmilaadoor", sum := "7a5b739d8966d28e3fd812795e69df37977ead21ae5f501be418f6c85bfa1042", func := "truchman/truchmanlaw04.CodesOwn", spec := "codesOwn", named := ["internal/strconv.uint64pow10", "math/bits.deBruijn32tab", "math/bits.deBruijn64tab", "strconv.ErrSyntax", "strconv.ErrRange", "truchman/codes.words"], apart := false, laid := [("math/bits.deBruijn32tab", laid_math_bits_deBruijn32tab), ("math/bits.deBruijn64tab", laid_math_bits_deBruijn64tab), ("internal/strconv.uint64pow10", laid_internal_strconv_uint64pow10), ("strconv.ErrRange", laid_strconv_ErrRange), ("strconv.ErrSyntax", laid_strconv_ErrSyntax), ("truchman/codes.words", laid_truchman_codes_words)], narrowed := true }
def CodesOwnUptoSaid : Prop := codesOwnUptoRow.holds Tryd.pinned (OpenSpec.upto codesOwnSpec)

end Rows
end Go.Proofs.YtealbjkhjpmilaaDoor
