/-
  NARROWER THAN 'FOR EVERY INPUT', by the rows' own cells (each row's printed sentence says how): NawsBack: laid · BufferLast: laid · NawsBodies: laid · SlcRests: laid · BufferActs: laid · SlcActs: laid · SlcBodies: laid.
  DERIVED. THE GIVEN ROWS OF THIS SEAT. 7 by the template 'for every input the law returns true; each argument reads behind the call as it read before'; 0 by the template 'total and deterministic' (their statements: YtdmkdmaofgjelaaDoorTotals.lean).
  GIVEN WITH THE SEED: the statements are not yours to turn. If you find one false, say at which input.
  Laid BY PROGRAM, IN A SANDBOX (cutbox-rows.mjs): the forced cells as the released guide's own fill.sh prints them over the translation d7b795d2403825ac… (all of the seat's roots in one cut). By AI agents, Wed Nov 11 2026. No macro, syntax, notation, axiom, sorry.
-/
import Derived.Test.YtdmkdmaofgjelaaDoorChecked
import GoSem.Claim
import GoSem.ClaimJoined
import GoSem.ClaimMapViews
import Derived.JoinedTies
import Derived.KernelRfl
namespace Go.Proofs.YtdmkdmaofgjelaaDoor
/- THE CELL 'sum', in the pinned program and in every row, IS THE sha256 OF THE DUMP (.gsa) THAT YtdmkdmaofgjelaaDoorProg.lean LOADS. Nothing in Lean hashes anything: it is a label: what it is worth is what the hold of that sum in a sandbox is worth. -/
noncomputable def Tryd.pinned : Pinned := { name := "ytdmkdmaofgjelaadoor", sum := "d7b795d2403825aca31a950277bc5740b298ad9348ecd24bee212650b76b3b5d", checked := Tryd.checked }
namespace Rows
def none {H : Type} : Left H := { results := [], args := [] }

/- WHAT THE LISTED PACKAGE-LEVEL VARIABLES READ AS WHEN THE CALL BEGINS. Each datum BY PROGRAM (the guide's laid-datum.mjs) off the statement by which the dump's own 'gosem.cut.vars' lays the variable. In a bare row this is a premise. The card (YtdmkdmaofgjelaaDoorCards.lean) ties it to the program's text. -/
def laid_truchman_api_ErrRange {H : Type} : DataW H := .iface "*errors.errorString" (.ptr (.agg [.lit (.string [97, 32, 110, 117, 109, 98, 101, 114, 32, 105, 115, 32, 111, 117, 116, 32, 111, 102, 32, 105, 116, 115, 32, 114, 97, 110, 103, 101])]))
def laid_truchman_api_ErrShort {H : Type} : DataW H := .iface "*errors.errorString" (.ptr (.agg [.lit (.string [115, 111, 109, 101, 116, 104, 105, 110, 103, 32, 105, 115, 32, 109, 105, 115, 115, 105, 110, 103, 32, 97, 116, 32, 116, 104, 101, 32, 101, 110, 100])]))
def laid_truchman_api_ErrLong {H : Type} : DataW H := .iface "*errors.errorString" (.ptr (.agg [.lit (.string [116, 104, 101, 114, 101, 32, 105, 115, 32, 109, 111, 114, 101, 32, 116, 104, 97, 110, 32, 109, 97, 121, 32, 98, 101])]))
def laid_truchman_api_ErrFull {H : Type} : DataW H := .iface "*errors.errorString" (.ptr (.agg [.lit (.string [116, 104, 101, 114, 101, 32, 105, 115, 32, 110, 111, 32, 109, 111, 114, 101, 32, 114, 111, 111, 109])]))
def laid_truchman_api_ErrForm {H : Type} : DataW H := .iface "*errors.errorString" (.ptr (.agg [.lit (.string [105, 116, 32, 105, 115, 32, 110, 111, 116, 32, 111, 102, 32, 105, 116, 115, 32, 102, 111, 114, 109])]))
def laid_truchman_api_ErrName {H : Type} : DataW H := .iface "*errors.errorString" (.ptr (.agg [.lit (.string [116, 104, 101, 114, 101, 32, 105, 115, 32, 110, 111, 32, 115, 117, 99, 104, 32, 110, 97, 109, 101])]))
def laid_truchman_api_ErrNone {H : Type} : DataW H := .iface "*errors.errorString" (.ptr (.agg [.lit (.string [116, 104, 101, 114, 101, 32, 105, 115, 32, 110, 111, 110, 101])]))
def laid_truchman_api_ErrDup {H : Type} : DataW H := .iface "*errors.errorString" (.ptr (.agg [.lit (.string [105, 116, 32, 105, 115, 32, 116, 104, 101, 114, 101, 32, 97, 108, 114, 101, 97, 100, 121])]))
def laid_truchman_api_ErrKind {H : Type} : DataW H := .iface "*errors.errorString" (.ptr (.agg [.lit (.string [105, 116, 32, 105, 115, 32, 111, 102, 32, 97, 110, 111, 116, 104, 101, 114, 32, 107, 105, 110, 100])]))
def laid_truchman_api_ErrState {H : Type} : DataW H := .iface "*errors.errorString" (.ptr (.agg [.lit (.string [105, 116, 32, 99, 97, 110, 32, 110, 111, 116, 32, 98, 101, 32, 100, 111, 110, 101, 32, 105, 110, 32, 116, 104, 105, 115, 32, 115, 116, 97, 116, 101])]))
def laid_truchman_api_ErrDepth {H : Type} : DataW H := .iface "*errors.errorString" (.ptr (.agg [.lit (.string [105, 116, 32, 103, 111, 101, 115, 32, 116, 111, 111, 32, 100, 101, 101, 112])]))
def laid_truchman_api_ErrFuel {H : Type} : DataW H := .iface "*errors.errorString" (.ptr (.agg [.lit (.string [116, 104, 101, 32, 102, 117, 101, 108, 32, 105, 115, 32, 115, 112, 101, 110, 116])]))
def laid_truchman_api_ErrStack {H : Type} : DataW H := .iface "*errors.errorString" (.ptr (.agg [.lit (.string [116, 104, 101, 114, 101, 32, 97, 114, 101, 32, 116, 111, 111, 32, 109, 97, 110, 121, 32, 99, 97, 108, 108, 115, 32, 119, 105, 116, 104, 105, 110, 32, 111, 110, 101, 32, 97, 110, 111, 116, 104, 101, 114])]))
def laid_truchman_api_ErrClosed {H : Type} : DataW H := .iface "*errors.errorString" (.ptr (.agg [.lit (.string [105, 116, 32, 105, 115, 32, 99, 108, 111, 115, 101, 100])]))
def laid_truchman_api_ErrEmpty {H : Type} : DataW H := .iface "*errors.errorString" (.ptr (.agg [.lit (.string [105, 116, 32, 119, 111, 117, 108, 100, 32, 109, 97, 116, 99, 104, 32, 110, 111, 116, 104, 105, 110, 103, 32, 97, 116, 32, 97, 108, 108])]))
def laid_truchman_api_ErrNumber {H : Type} : DataW H := .iface "*errors.errorString" (.ptr (.agg [.lit (.string [116, 104, 101, 32, 116, 101, 120, 116, 32, 105, 115, 32, 110, 111, 32, 110, 117, 109, 98, 101, 114])]))

/-- 'truchmanlaw12.NawsBack': WHATEVER THE INPUT: true; the input reads as it did. -/
def nawsBackSpec : ChangeSpec := { name := "nawsBack", fn := fun _ => fun
  | [d1, d2, d3] => { results := [.lit (.bool true)], args := [d1, d2, d3] }
  | _ => none }
def nawsBackRow : OpenClaim := { program := "ytdmkdmaofgjelaadoor", sum := "d7b795d2403825aca31a950277bc5740b298ad9348ecd24bee212650b76b3b5d", func := "truchman/truchmanlaw12.NawsBack", spec := "nawsBack", named := ["truchman/api.ErrRange", "truchman/api.ErrShort", "truchman/api.ErrLong"], apart := false, laid := [("truchman/api.ErrRange", laid_truchman_api_ErrRange), ("truchman/api.ErrShort", laid_truchman_api_ErrShort), ("truchman/api.ErrLong", laid_truchman_api_ErrLong)] }
def NawsBackSaid : Prop := nawsBackRow.holds Tryd.pinned (OpenSpec.ofChange nawsBackSpec)

/-- ITS FALSE NEIGHBOUR: 'it returns false'. Refute it at one input. -/
def nawsBackWrong : ChangeSpec := { name := "nawsBack", fn := fun _ => fun
  | [d1, d2, d3] => { results := [.lit (.bool false)], args := [d1, d2, d3] }
  | _ => none }
def NawsBackWrongFalsely : Prop := nawsBackRow.holds Tryd.pinned (OpenSpec.ofChange nawsBackWrong)

/-- 'truchmanlaw28.BufferLast': WHATEVER THE INPUT: true; the input reads as it did. -/
def bufferLastSpec : ChangeSpec := { name := "bufferLast", fn := fun _ => fun
  | [d1, d2] => { results := [.lit (.bool true)], args := [d1, d2] }
  | _ => none }
def bufferLastRow : OpenClaim := { program := "ytdmkdmaofgjelaadoor", sum := "d7b795d2403825aca31a950277bc5740b298ad9348ecd24bee212650b76b3b5d", func := "truchman/truchmanlaw28.BufferLast", spec := "bufferLast", named := ["truchman/api.ErrRange"], apart := false, laid := [("truchman/api.ErrRange", laid_truchman_api_ErrRange)] }
def BufferLastSaid : Prop := bufferLastRow.holds Tryd.pinned (OpenSpec.ofChange bufferLastSpec)

/-- ITS FALSE NEIGHBOUR: 'it returns false'. Refute it at one input. -/
def bufferLastWrong : ChangeSpec := { name := "bufferLast", fn := fun _ => fun
  | [d1, d2] => { results := [.lit (.bool false)], args := [d1, d2] }
  | _ => none }
def BufferLastWrongFalsely : Prop := bufferLastRow.holds Tryd.pinned (OpenSpec.ofChange bufferLastWrong)

/-- 'truchmanlaw12.NawsBodies': WHATEVER THE INPUT: true; the input reads as it did. -/
def nawsBodiesSpec : ChangeSpec := { name := "nawsBodies", fn := fun _ => fun
  | [d1, d2, d3] => { results := [.lit (.bool true)], args := [d1, d2, d3] }
  | _ => none }
def nawsBodiesRow : OpenClaim := { program := "ytdmkdmaofgjelaadoor", sum := "d7b795d2403825aca31a950277bc5740b298ad9348ecd24bee212650b76b3b5d", func := "truchman/truchmanlaw12.NawsBodies", spec := "nawsBodies", inPlace := ["internal/reflectlite.TypeOf"], unfollowed := true, recurses := true, named := ["truchman/api.ErrRange", "truchman/api.ErrShort", "truchman/api.ErrLong", "truchman/api.ErrFull", "truchman/api.ErrForm", "truchman/api.ErrName", "truchman/api.ErrNone", "truchman/api.ErrDup", "truchman/api.ErrKind", "truchman/api.ErrState", "truchman/api.ErrDepth", "truchman/api.ErrFuel", "truchman/api.ErrStack", "truchman/api.ErrClosed", "truchman/api.ErrEmpty", "truchman/api.ErrNumber"], apart := false, laid := [("truchman/api.ErrRange", laid_truchman_api_ErrRange), ("truchman/api.ErrFull", laid_truchman_api_ErrFull), ("truchman/api.ErrShort", laid_truchman_api_ErrShort), ("truchman/api.ErrLong", laid_truchman_api_ErrLong), ("truchman/api.ErrForm", laid_truchman_api_ErrForm), ("truchman/api.ErrName", laid_truchman_api_ErrName), ("truchman/api.ErrNone", laid_truchman_api_ErrNone), ("truchman/api.ErrDup", laid_truchman_api_ErrDup), ("truchman/api.ErrKind", laid_truchman_api_ErrKind), ("truchman/api.ErrState", laid_truchman_api_ErrState), ("truchman/api.ErrDepth", laid_truchman_api_ErrDepth), ("truchman/api.ErrFuel", laid_truchman_api_ErrFuel), ("truchman/api.ErrStack", laid_truchman_api_ErrStack), ("truchman/api.ErrClosed", laid_truchman_api_ErrClosed), ("truchman/api.ErrEmpty", laid_truchman_api_ErrEmpty), ("truchman/api.ErrNumber", laid_truchman_api_ErrNumber)] }
def NawsBodiesSaid : Prop := nawsBodiesRow.holds Tryd.pinned (OpenSpec.ofChange nawsBodiesSpec)

/-- ITS FALSE NEIGHBOUR: 'it returns false'. Refute it at one input. -/
def nawsBodiesWrong : ChangeSpec := { name := "nawsBodies", fn := fun _ => fun
  | [d1, d2, d3] => { results := [.lit (.bool false)], args := [d1, d2, d3] }
  | _ => none }
def NawsBodiesWrongFalsely : Prop := nawsBodiesRow.holds Tryd.pinned (OpenSpec.ofChange nawsBodiesWrong)

/-- 'truchmanlaw14.SlcRests': WHATEVER THE INPUT: true; the input reads as it did. -/
def slcRestsSpec : ChangeSpec := { name := "slcRests", fn := fun _ => fun
  | [d1, d2, d3] => { results := [.lit (.bool true)], args := [d1, d2, d3] }
  | _ => none }
def slcRestsRow : OpenClaim := { program := "ytdmkdmaofgjelaadoor", sum := "d7b795d2403825aca31a950277bc5740b298ad9348ecd24bee212650b76b3b5d", func := "truchman/truchmanlaw14.SlcRests", spec := "slcRests", named := ["truchman/api.ErrRange", "truchman/api.ErrForm", "truchman/api.ErrState", "truchman/api.ErrDup"], apart := false, laid := [("truchman/api.ErrRange", laid_truchman_api_ErrRange), ("truchman/api.ErrForm", laid_truchman_api_ErrForm), ("truchman/api.ErrDup", laid_truchman_api_ErrDup), ("truchman/api.ErrState", laid_truchman_api_ErrState)] }
def SlcRestsSaid : Prop := slcRestsRow.holds Tryd.pinned (OpenSpec.ofChange slcRestsSpec)

/-- ITS FALSE NEIGHBOUR: 'it returns false'. Refute it at one input. -/
def slcRestsWrong : ChangeSpec := { name := "slcRests", fn := fun _ => fun
  | [d1, d2, d3] => { results := [.lit (.bool false)], args := [d1, d2, d3] }
  | _ => none }
def SlcRestsWrongFalsely : Prop := slcRestsRow.holds Tryd.pinned (OpenSpec.ofChange slcRestsWrong)

/-- 'truchmanlaw28.BufferActs': WHATEVER THE INPUT: true; the input reads as it did. -/
def bufferActsSpec : ChangeSpec := { name := "bufferActs", fn := fun _ => fun
  | [d1, d2] => { results := [.lit (.bool true)], args := [d1, d2] }
  | _ => none }
def bufferActsRow : OpenClaim := { program := "ytdmkdmaofgjelaadoor", sum := "d7b795d2403825aca31a950277bc5740b298ad9348ecd24bee212650b76b3b5d", func := "truchman/truchmanlaw28.BufferActs", spec := "bufferActs", inPlace := ["internal/reflectlite.TypeOf"], unfollowed := true, recurses := true, named := ["truchman/api.ErrRange", "truchman/api.ErrFull", "truchman/api.ErrShort", "truchman/api.ErrLong", "truchman/api.ErrForm", "truchman/api.ErrName", "truchman/api.ErrNone", "truchman/api.ErrDup", "truchman/api.ErrKind", "truchman/api.ErrState", "truchman/api.ErrDepth", "truchman/api.ErrFuel", "truchman/api.ErrStack", "truchman/api.ErrClosed", "truchman/api.ErrEmpty", "truchman/api.ErrNumber"], apart := false, laid := [("truchman/api.ErrRange", laid_truchman_api_ErrRange), ("truchman/api.ErrFull", laid_truchman_api_ErrFull), ("truchman/api.ErrShort", laid_truchman_api_ErrShort), ("truchman/api.ErrLong", laid_truchman_api_ErrLong), ("truchman/api.ErrForm", laid_truchman_api_ErrForm), ("truchman/api.ErrName", laid_truchman_api_ErrName), ("truchman/api.ErrNone", laid_truchman_api_ErrNone), ("truchman/api.ErrDup", laid_truchman_api_ErrDup), ("truchman/api.ErrKind", laid_truchman_api_ErrKind), ("truchman/api.ErrState", laid_truchman_api_ErrState), ("truchman/api.ErrDepth", laid_truchman_api_ErrDepth), ("truchman/api.ErrFuel", laid_truchman_api_ErrFuel), ("truchman/api.ErrStack", laid_truchman_api_ErrStack), ("truchman/api.ErrClosed", laid_truchman_api_ErrClosed), ("truchman/api.ErrEmpty", laid_truchman_api_ErrEmpty), ("truchman/api.ErrNumber", laid_truchman_api_ErrNumber)] }
def BufferActsSaid : Prop := bufferActsRow.holds Tryd.pinned (OpenSpec.ofChange bufferActsSpec)

/-- ITS FALSE NEIGHBOUR: 'it returns false'. Refute it at one input. -/
def bufferActsWrong : ChangeSpec := { name := "bufferActs", fn := fun _ => fun
  | [d1, d2] => { results := [.lit (.bool false)], args := [d1, d2] }
  | _ => none }
def BufferActsWrongFalsely : Prop := bufferActsRow.holds Tryd.pinned (OpenSpec.ofChange bufferActsWrong)

/-- 'truchmanlaw14.SlcActs': WHATEVER THE INPUT: true; the input reads as it did. -/
def slcActsSpec : ChangeSpec := { name := "slcActs", fn := fun _ => fun
  | [d1, d2] => { results := [.lit (.bool true)], args := [d1, d2] }
  | _ => none }
def slcActsRow : OpenClaim := { program := "ytdmkdmaofgjelaadoor", sum := "d7b795d2403825aca31a950277bc5740b298ad9348ecd24bee212650b76b3b5d", func := "truchman/truchmanlaw14.SlcActs", spec := "slcActs", inPlace := ["internal/reflectlite.TypeOf"], unfollowed := true, recurses := true, named := ["truchman/api.ErrRange", "truchman/api.ErrForm", "truchman/api.ErrState", "truchman/api.ErrDup", "truchman/api.ErrFull", "truchman/api.ErrShort", "truchman/api.ErrLong", "truchman/api.ErrName", "truchman/api.ErrNone", "truchman/api.ErrKind", "truchman/api.ErrDepth", "truchman/api.ErrFuel", "truchman/api.ErrStack", "truchman/api.ErrClosed", "truchman/api.ErrEmpty", "truchman/api.ErrNumber"], apart := false, laid := [("truchman/api.ErrRange", laid_truchman_api_ErrRange), ("truchman/api.ErrFull", laid_truchman_api_ErrFull), ("truchman/api.ErrShort", laid_truchman_api_ErrShort), ("truchman/api.ErrLong", laid_truchman_api_ErrLong), ("truchman/api.ErrForm", laid_truchman_api_ErrForm), ("truchman/api.ErrName", laid_truchman_api_ErrName), ("truchman/api.ErrNone", laid_truchman_api_ErrNone), ("truchman/api.ErrDup", laid_truchman_api_ErrDup), ("truchman/api.ErrKind", laid_truchman_api_ErrKind), ("truchman/api.ErrState", laid_truchman_api_ErrState), ("truchman/api.ErrDepth", laid_truchman_api_ErrDepth), ("truchman/api.ErrFuel", laid_truchman_api_ErrFuel), ("truchman/api.ErrStack", laid_truchman_api_ErrStack), ("truchman/api.ErrClosed", laid_truchman_api_ErrClosed), ("truchman/api.ErrEmpty", laid_truchman_api_ErrEmpty), ("truchman/api.ErrNumber", laid_truchman_api_ErrNumber)] }
def SlcActsSaid : Prop := slcActsRow.holds Tryd.pinned (OpenSpec.ofChange slcActsSpec)

/-- ITS FALSE NEIGHBOUR: 'it returns false'. Refute it at one input. -/
def slcActsWrong : ChangeSpec := { name := "slcActs", fn := fun _ => fun
  | [d1, d2] => { results := [.lit (.bool false)], args := [d1, d2] }
  | _ => none }
def SlcActsWrongFalsely : Prop := slcActsRow.holds Tryd.pinned (OpenSpec.ofChange slcActsWrong)

/-- 'truchmanlaw14.SlcBodies': WHATEVER THE INPUT: true; the input reads as it did. -/
def slcBodiesSpec : ChangeSpec := { name := "slcBodies", fn := fun _ => fun
  | [d1, d2] => { results := [.lit (.bool true)], args := [d1, d2] }
  | _ => none }
def slcBodiesRow : OpenClaim := { program := "ytdmkdmaofgjelaadoor", sum := "d7b795d2403825aca31a950277bc5740b298ad9348ecd24bee212650b76b3b5d", func := "truchman/truchmanlaw14.SlcBodies", spec := "slcBodies", inPlace := ["internal/reflectlite.TypeOf"], unfollowed := true, recurses := true, named := ["truchman/api.ErrForm", "truchman/api.ErrLong", "truchman/api.ErrRange", "truchman/api.ErrFull", "truchman/api.ErrShort", "truchman/api.ErrName", "truchman/api.ErrNone", "truchman/api.ErrDup", "truchman/api.ErrKind", "truchman/api.ErrState", "truchman/api.ErrDepth", "truchman/api.ErrFuel", "truchman/api.ErrStack", "truchman/api.ErrClosed", "truchman/api.ErrEmpty", "truchman/api.ErrNumber"], apart := false, laid := [("truchman/api.ErrRange", laid_truchman_api_ErrRange), ("truchman/api.ErrFull", laid_truchman_api_ErrFull), ("truchman/api.ErrShort", laid_truchman_api_ErrShort), ("truchman/api.ErrLong", laid_truchman_api_ErrLong), ("truchman/api.ErrForm", laid_truchman_api_ErrForm), ("truchman/api.ErrName", laid_truchman_api_ErrName), ("truchman/api.ErrNone", laid_truchman_api_ErrNone), ("truchman/api.ErrDup", laid_truchman_api_ErrDup), ("truchman/api.ErrKind", laid_truchman_api_ErrKind), ("truchman/api.ErrState", laid_truchman_api_ErrState), ("truchman/api.ErrDepth", laid_truchman_api_ErrDepth), ("truchman/api.ErrFuel", laid_truchman_api_ErrFuel), ("truchman/api.ErrStack", laid_truchman_api_ErrStack), ("truchman/api.ErrClosed", laid_truchman_api_ErrClosed), ("truchman/api.ErrEmpty", laid_truchman_api_ErrEmpty), ("truchman/api.ErrNumber", laid_truchman_api_ErrNumber)] }
def SlcBodiesSaid : Prop := slcBodiesRow.holds Tryd.pinned (OpenSpec.ofChange slcBodiesSpec)

/-- ITS FALSE NEIGHBOUR: 'it returns false'. Refute it at one input. -/
def slcBodiesWrong : ChangeSpec := { name := "slcBodies", fn := fun _ => fun
  | [d1, d2] => { results := [.lit (.bool false)], args := [d1, d2] }
  | _ => none }
def SlcBodiesWrongFalsely : Prop := slcBodiesRow.holds Tryd.pinned (OpenSpec.ofChange slcBodiesWrong)

/- THE SECOND FORM. 'bulk': how many values and letters a reading holds, each counted each time it is reached (what is shared counts as often as it is met; a slice's spare places count too). A statement '..UptoSaid' is the law's where the arguments, and the package variables that the reading takes, are together of bulk at most 1048576: NARROWER than '..Said'. Prove '..Said' where nothing that the law and all that it calls make is longer than what came in: it says more and counts as full. Else prove '..UptoSaid'. A law counts once. -/
mutual
def uptoBulk {H : Type} : DataW H → Nat
  | .lit (.string bytes) => bytes.length + 1
  | .lit _ => 1
  | .nil => 1
  | .ptr d => uptoBulk d + 1
  | .slice elems spare => uptoBulkAll elems + uptoBulkAll spare + 1
  | .agg parts => uptoBulkAll parts + 1
  | .iface _ d => uptoBulk d + 1
  | .map entries => uptoBulkEntries entries + 1
  | .held _ => 1
def uptoBulkAll {H : Type} : List (DataW H) → Nat
  | [] => 0
  | d :: r => uptoBulk d + uptoBulkAll r
def uptoBulkEntries {H : Type} : List (Lit × DataW H) → Nat
  | [] => 0
  | x :: r => uptoBulkEntry x + uptoBulkEntries r
def uptoBulkEntry {H : Type} : Lit × DataW H → Nat
  | (.string bytes, d) => bytes.length + uptoBulk d + 1
  | (_, d) => uptoBulk d + 1
 end
def uptoSmall : (H : Type) → List (DataW H) → Bool := fun _ ds => decide (uptoBulkAll ds ≤ 1048576)
def OpenSpec.upto (s : _root_.Go.ChangeSpec) : _root_.Go.OpenSpec := { _root_.Go.OpenSpec.ofChange s with cond := some uptoSmall }

/-- 'truchmanlaw12.NawsBack', WHERE WHAT IT READS IS OF BULK AT MOST 1048576: true; the input reads as it did. -/
def nawsBackUptoRow : OpenClaim := { program := "ytdmkdmaofgjelaadoor", sum := "d7b795d2403825aca31a950277bc5740b298ad9348ecd24bee212650b76b3b5d", func := "truchman/truchmanlaw12.NawsBack", spec := "nawsBack", named := ["truchman/api.ErrRange", "truchman/api.ErrShort", "truchman/api.ErrLong"], apart := false, laid := [("truchman/api.ErrRange", laid_truchman_api_ErrRange), ("truchman/api.ErrShort", laid_truchman_api_ErrShort), ("truchman/api.ErrLong", laid_truchman_api_ErrLong)], narrowed := true }
def NawsBackUptoSaid : Prop := nawsBackUptoRow.holds Tryd.pinned (OpenSpec.upto nawsBackSpec)

/-- 'truchmanlaw28.BufferLast', WHERE WHAT IT READS IS OF BULK AT MOST 1048576: true; the input reads as it did. -/
def bufferLastUptoRow : OpenClaim := { program := "ytdmkdmaofgjelaadoor", sum := "d7b795d2403825aca31a950277bc5740b298ad9348ecd24bee212650b76b3b5d", func := "truchman/truchmanlaw28.BufferLast", spec := "bufferLast", named := ["truchman/api.ErrRange"], apart := false, laid := [("truchman/api.ErrRange", laid_truchman_api_ErrRange)], narrowed := true }
def BufferLastUptoSaid : Prop := bufferLastUptoRow.holds Tryd.pinned (OpenSpec.upto bufferLastSpec)

/-- 'truchmanlaw12.NawsBodies', WHERE WHAT IT READS IS OF BULK AT MOST 1048576: true; the input reads as it did. -/
def nawsBodiesUptoRow : OpenClaim := { program := "ytdmkdmaofgjelaadoor", sum := "d7b795d2403825aca31a950277bc5740b298ad9348ecd24bee212650b76b3b5d", func := "truchman/truchmanlaw12.NawsBodies", spec := "nawsBodies", inPlace := ["internal/reflectlite.TypeOf"], unfollowed := true, recurses := true, named := ["truchman/api.ErrRange", "truchman/api.ErrShort", "truchman/api.ErrLong", "truchman/api.ErrFull", "truchman/api.ErrForm", "truchman/api.ErrName", "truchman/api.ErrNone", "truchman/api.ErrDup", "truchman/api.ErrKind", "truchman/api.ErrState", "truchman/api.ErrDepth", "truchman/api.ErrFuel", "truchman/api.ErrStack", "truchman/api.ErrClosed", "truchman/api.ErrEmpty", "truchman/api.ErrNumber"], apart := false, laid := [("truchman/api.ErrRange", laid_truchman_api_ErrRange), ("truchman/api.ErrFull", laid_truchman_api_ErrFull), ("truchman/api.ErrShort", laid_truchman_api_ErrShort), ("truchman/api.ErrLong", laid_truchman_api_ErrLong), ("truchman/api.ErrForm", laid_truchman_api_ErrForm), ("truchman/api.ErrName", laid_truchman_api_ErrName), ("truchman/api.ErrNone", laid_truchman_api_ErrNone), ("truchman/api.ErrDup", laid_truchman_api_ErrDup), ("truchman/api.ErrKind", laid_truchman_api_ErrKind), ("truchman/api.ErrState", laid_truchman_api_ErrState), ("truchman/api.ErrDepth", laid_truchman_api_ErrDepth), ("truchman/api.ErrFuel", laid_truchman_api_ErrFuel), ("truchman/api.ErrStack", laid_truchman_api_ErrStack), ("truchman/api.ErrClosed", laid_truchman_api_ErrClosed), ("truchman/api.ErrEmpty", laid_truchman_api_ErrEmpty), ("truchman/api.ErrNumber", laid_truchman_api_ErrNumber)], narrowed := true }
def NawsBodiesUptoSaid : Prop := nawsBodiesUptoRow.holds Tryd.pinned (OpenSpec.upto nawsBodiesSpec)

/-- 'truchmanlaw14.SlcRests', WHERE WHAT IT READS IS OF BULK AT MOST 1048576: true; the input reads as it did. -/
def slcRestsUptoRow : OpenClaim := { program := "ytdmkdmaofgjelaadoor", sum := "d7b795d2403825aca31a950277bc5740b298ad9348ecd24bee212650b76b3b5d", func := "truchman/truchmanlaw14.SlcRests", spec := "slcRests", named := ["truchman/api.ErrRange", "truchman/api.ErrForm", "truchman/api.ErrState", "truchman/api.ErrDup"], apart := false, laid := [("truchman/api.ErrRange", laid_truchman_api_ErrRange), ("truchman/api.ErrForm", laid_truchman_api_ErrForm), ("truchman/api.ErrDup", laid_truchman_api_ErrDup), ("truchman/api.ErrState", laid_truchman_api_ErrState)], narrowed := true }
def SlcRestsUptoSaid : Prop := slcRestsUptoRow.holds Tryd.pinned (OpenSpec.upto slcRestsSpec)

/-- 'truchmanlaw28.BufferActs', WHERE WHAT IT READS IS OF BULK AT MOST 1048576: true; the input reads as it did. -/
def bufferActsUptoRow : OpenClaim := { program := "ytdmkdmaofgjelaadoor", sum := "d7b795d2403825aca31a950277bc5740b298ad9348ecd24bee212650b76b3b5d", func := "truchman/truchmanlaw28.BufferActs", spec := "bufferActs", inPlace := ["internal/reflectlite.TypeOf"], unfollowed := true, recurses := true, named := ["truchman/api.ErrRange", "truchman/api.ErrFull", "truchman/api.ErrShort", "truchman/api.ErrLong", "truchman/api.ErrForm", "truchman/api.ErrName", "truchman/api.ErrNone", "truchman/api.ErrDup", "truchman/api.ErrKind", "truchman/api.ErrState", "truchman/api.ErrDepth", "truchman/api.ErrFuel", "truchman/api.ErrStack", "truchman/api.ErrClosed", "truchman/api.ErrEmpty", "truchman/api.ErrNumber"], apart := false, laid := [("truchman/api.ErrRange", laid_truchman_api_ErrRange), ("truchman/api.ErrFull", laid_truchman_api_ErrFull), ("truchman/api.ErrShort", laid_truchman_api_ErrShort), ("truchman/api.ErrLong", laid_truchman_api_ErrLong), ("truchman/api.ErrForm", laid_truchman_api_ErrForm), ("truchman/api.ErrName", laid_truchman_api_ErrName), ("truchman/api.ErrNone", laid_truchman_api_ErrNone), ("truchman/api.ErrDup", laid_truchman_api_ErrDup), ("truchman/api.ErrKind", laid_truchman_api_ErrKind), ("truchman/api.ErrState", laid_truchman_api_ErrState), ("truchman/api.ErrDepth", laid_truchman_api_ErrDepth), ("truchman/api.ErrFuel", laid_truchman_api_ErrFuel), ("truchman/api.ErrStack", laid_truchman_api_ErrStack), ("truchman/api.ErrClosed", laid_truchman_api_ErrClosed), ("truchman/api.ErrEmpty", laid_truchman_api_ErrEmpty), ("truchman/api.ErrNumber", laid_truchman_api_ErrNumber)], narrowed := true }
def BufferActsUptoSaid : Prop := bufferActsUptoRow.holds Tryd.pinned (OpenSpec.upto bufferActsSpec)

/-- 'truchmanlaw14.SlcActs', WHERE WHAT IT READS IS OF BULK AT MOST 1048576: true; the input reads as it did. -/
def slcActsUptoRow : OpenClaim := { program := "ytdmkdmaofgjelaadoor", sum := "d7b795d2403825aca31a950277bc5740b298ad9348ecd24bee212650b76b3b5d", func := "truchman/truchmanlaw14.SlcActs", spec := "slcActs", inPlace := ["internal/reflectlite.TypeOf"], unfollowed := true, recurses := true, named := ["truchman/api.ErrRange", "truchman/api.ErrForm", "truchman/api.ErrState", "truchman/api.ErrDup", "truchman/api.ErrFull", "truchman/api.ErrShort", "truchman/api.ErrLong", "truchman/api.ErrName", "truchman/api.ErrNone", "truchman/api.ErrKind", "truchman/api.ErrDepth", "truchman/api.ErrFuel", "truchman/api.ErrStack", "truchman/api.ErrClosed", "truchman/api.ErrEmpty", "truchman/api.ErrNumber"], apart := false, laid := [("truchman/api.ErrRange", laid_truchman_api_ErrRange), ("truchman/api.ErrFull", laid_truchman_api_ErrFull), ("truchman/api.ErrShort", laid_truchman_api_ErrShort), ("truchman/api.ErrLong", laid_truchman_api_ErrLong), ("truchman/api.ErrForm", laid_truchman_api_ErrForm), ("truchman/api.ErrName", laid_truchman_api_ErrName), ("truchman/api.ErrNone", laid_truchman_api_ErrNone), ("truchman/api.ErrDup", laid_truchman_api_ErrDup), ("truchman/api.ErrKind", laid_truchman_api_ErrKind), ("truchman/api.ErrState", laid_truchman_api_ErrState), ("truchman/api.ErrDepth", laid_truchman_api_ErrDepth), ("truchman/api.ErrFuel", laid_truchman_api_ErrFuel), ("truchman/api.ErrStack", laid_truchman_api_ErrStack), ("truchman/api.ErrClosed", laid_truchman_api_ErrClosed), ("truchman/api.ErrEmpty", laid_truchman_api_ErrEmpty), ("truchman/api.ErrNumber", laid_truchman_api_ErrNumber)], narrowed := true }
def SlcActsUptoSaid : Prop := slcActsUptoRow.holds Tryd.pinned (OpenSpec.upto slcActsSpec)

/-- 'truchmanlaw14.SlcBodies', WHERE WHAT IT READS IS OF BULK AT MOST 1048576: true; the input reads as it did. -/
def slcBodiesUptoRow : OpenClaim := { program := "ytdmkdmaofgjelaadoor", sum := "d7b795d2403825aca31a950277bc5740b298ad9348ecd24bee212650b76b3b5d", func := "truchman/truchmanlaw14.SlcBodies", spec := "slcBodies", inPlace := ["internal/reflectlite.TypeOf"], unfollowed := true, recurses := true, named := ["truchman/api.ErrForm", "truchman/api.ErrLong", "truchman/api.ErrRange", "truchman/api.ErrFull", "truchman/api.ErrShort", "truchman/api.ErrName", "truchman/api.ErrNone", "truchman/api.ErrDup", "truchman/api.ErrKind", "truchman/api.ErrState", "truchman/api.ErrDepth", "truchman/api.ErrFuel", "truchman/api.ErrStack", "truchman/api.ErrClosed", "truchman/api.ErrEmpty", "truchman/api.ErrNumber"], apart := false, laid := [("truchman/api.ErrRange", laid_truchman_api_ErrRange), ("truchman/api.ErrFull", laid_truchman_api_ErrFull), ("truchman/api.ErrShort", laid_truchman_api_ErrShort), ("truchman/api.ErrLong", laid_truchman_api_ErrLong), ("truchman/api.ErrForm", laid_truchman_api_ErrForm), ("truchman/api.ErrName", laid_truchman_api_ErrName), ("truchman/api.ErrNone", laid_truchman_api_ErrNone), ("truchman/api.ErrDup", laid_truchman_api_ErrDup), ("truchman/api.ErrKind", laid_truchman_api_ErrKind), ("truchman/api.ErrState", laid_truchman_api_ErrState), ("truchman/api.ErrDepth", laid_truchman_api_ErrDepth), ("truchman/api.ErrFuel", laid_truchman_api_ErrFuel), ("truchman/api.ErrStack", laid_truchman_api_ErrStack), ("truchman/api.ErrClosed", laid_truchman_api_ErrClosed), ("truchman/api.ErrEmpty", laid_truchman_api_ErrEmpty), ("truchman/api.ErrNumber", laid_truchman_api_ErrNumber)], narrowed := true }
def SlcBodiesUptoSaid : Prop := slcBodiesUptoRow.holds Tryd.pinned (OpenSpec.upto slcBodiesSpec)

end Rows
end Go.Proofs.YtdmkdmaofgjelaaDoor
