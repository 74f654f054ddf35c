/-
  No cell of these rows narrows 'for every input' (looked for: loops, veiled, ifaces, maps, wideKeys, modest, calm, conditions, laid).
  DERIVED. THE GIVEN ROWS OF THIS SEAT. 3 by the template 'for every input the law returns true; each argument reads behind the call as it read before'; 0 by the template 'total and deterministic' (their statements: YtcphocfnhekdaaaTotals.lean).
  GIVEN WITH THE SEED: the statements are not yours to turn. If you find one false, say at which input.
  Laid BY PROGRAM, IN A SANDBOX (cutbox-rows.mjs): the forced cells as the released guide's own fill.sh prints them over the translation f2374c79988bac46… (all of the seat's roots in one cut). By AI agents, Wed Nov 11 2026. No macro, syntax, notation, axiom, sorry.
-/
import Derived.Test.YtcphocfnhekdaaaChecked
import GoSem.Claim
import GoSem.ClaimJoined
import GoSem.ClaimMapViews
import Derived.JoinedTies
import Derived.KernelRfl
namespace Go.Proofs.Ytcphocfnhekdaaa
/- THE CELL 'sum', in the pinned program and in every row, IS THE sha256 OF THE DUMP (.gsa) THAT YtcphocfnhekdaaaProg.lean LOADS. Nothing in Lean hashes anything: it is a label: what it is worth is what the hold of that sum in a sandbox is worth. -/
noncomputable def Try.pinned : Pinned := { name := "ytcphocfnhekdaaa", sum := "f2374c79988bac46dce90beeb92cbfb63c5165fd5d1d80a6374c4a002e8b8e23", checked := Try.checked }
namespace Rows
def none {H : Type} : Left H := { results := [], args := [] }

/-- 'truchmanlaw09.CleanAll': WHATEVER THE INPUT: true; the input reads as it did. -/
def cleanAllSpec : ChangeSpec := { name := "cleanAll", fn := fun _ => fun
  | [d1, d2, d3] => { results := [.lit (.bool true)], args := [d1, d2, d3] }
  | _ => none }
def cleanAllRow : OpenClaim := { program := "ytcphocfnhekdaaa", sum := "f2374c79988bac46dce90beeb92cbfb63c5165fd5d1d80a6374c4a002e8b8e23", func := "truchman/truchmanlaw09.CleanAll", spec := "cleanAll", apart := false }
def CleanAllSaid : Prop := cleanAllRow.holds Try.pinned (OpenSpec.ofChange cleanAllSpec)

/-- ITS FALSE NEIGHBOUR: 'it returns false'. Refute it at one input. -/
def cleanAllWrong : ChangeSpec := { name := "cleanAll", fn := fun _ => fun
  | [d1, d2, d3] => { results := [.lit (.bool false)], args := [d1, d2, d3] }
  | _ => none }
def CleanAllWrongFalsely : Prop := cleanAllRow.holds Try.pinned (OpenSpec.ofChange cleanAllWrong)

/-- 'truchmanlaw09.CleanMarks': WHATEVER THE INPUT: true; the input reads as it did. -/
def cleanMarksSpec : ChangeSpec := { name := "cleanMarks", fn := fun _ => fun
  | [d1, d2, d3] => { results := [.lit (.bool true)], args := [d1, d2, d3] }
  | _ => none }
def cleanMarksRow : OpenClaim := { program := "ytcphocfnhekdaaa", sum := "f2374c79988bac46dce90beeb92cbfb63c5165fd5d1d80a6374c4a002e8b8e23", func := "truchman/truchmanlaw09.CleanMarks", spec := "cleanMarks", apart := false }
def CleanMarksSaid : Prop := cleanMarksRow.holds Try.pinned (OpenSpec.ofChange cleanMarksSpec)

/-- ITS FALSE NEIGHBOUR: 'it returns false'. Refute it at one input. -/
def cleanMarksWrong : ChangeSpec := { name := "cleanMarks", fn := fun _ => fun
  | [d1, d2, d3] => { results := [.lit (.bool false)], args := [d1, d2, d3] }
  | _ => none }
def CleanMarksWrongFalsely : Prop := cleanMarksRow.holds Try.pinned (OpenSpec.ofChange cleanMarksWrong)

/-- 'truchmanlaw09.CleanFeeds': WHATEVER THE INPUT: true; the input reads as it did. -/
def cleanFeedsSpec : ChangeSpec := { name := "cleanFeeds", fn := fun _ => fun
  | [d] => { results := [.lit (.bool true)], args := [d] }
  | _ => none }
def cleanFeedsRow : OpenClaim := { program := "ytcphocfnhekdaaa", sum := "f2374c79988bac46dce90beeb92cbfb63c5165fd5d1d80a6374c4a002e8b8e23", func := "truchman/truchmanlaw09.CleanFeeds", spec := "cleanFeeds", apart := false }
def CleanFeedsSaid : Prop := cleanFeedsRow.holds Try.pinned (OpenSpec.ofChange cleanFeedsSpec)

/-- ITS FALSE NEIGHBOUR: 'it returns false'. Refute it at one input. -/
def cleanFeedsWrong : ChangeSpec := { name := "cleanFeeds", fn := fun _ => fun
  | [d] => { results := [.lit (.bool false)], args := [d] }
  | _ => none }
def CleanFeedsWrongFalsely : Prop := cleanFeedsRow.holds Try.pinned (OpenSpec.ofChange cleanFeedsWrong)

/- THE SECOND FORM. 'bulk': how many values and letters a reading holds, each counted each time it is reached (what is shared counts as often as it is met; a slice's spare places count too). A statement '..UptoSaid' is the law's where the arguments, and the package variables that the reading takes, are together of bulk at most 1048576: NARROWER than '..Said'. Prove '..Said' where nothing that the law and all that it calls make is longer than what came in: it says more and counts as full. Else prove '..UptoSaid'. A law counts once. -/
mutual
def uptoBulk {H : Type} : DataW H → Nat
  | .lit (.string bytes) => bytes.length + 1
  | .lit _ => 1
  | .nil => 1
  | .ptr d => uptoBulk d + 1
  | .slice elems spare => uptoBulkAll elems + uptoBulkAll spare + 1
  | .agg parts => uptoBulkAll parts + 1
  | .iface _ d => uptoBulk d + 1
  | .map entries => uptoBulkEntries entries + 1
  | .held _ => 1
def uptoBulkAll {H : Type} : List (DataW H) → Nat
  | [] => 0
  | d :: r => uptoBulk d + uptoBulkAll r
def uptoBulkEntries {H : Type} : List (Lit × DataW H) → Nat
  | [] => 0
  | x :: r => uptoBulkEntry x + uptoBulkEntries r
def uptoBulkEntry {H : Type} : Lit × DataW H → Nat
  | (.string bytes, d) => bytes.length + uptoBulk d + 1
  | (_, d) => uptoBulk d + 1
 end
def uptoSmall : (H : Type) → List (DataW H) → Bool := fun _ ds => decide (uptoBulkAll ds ≤ 1048576)
def OpenSpec.upto (s : _root_.Go.ChangeSpec) : _root_.Go.OpenSpec := { _root_.Go.OpenSpec.ofChange s with cond := some uptoSmall }

/-- 'truchmanlaw09.CleanAll', WHERE WHAT IT READS IS OF BULK AT MOST 1048576: true; the input reads as it did. -/
def cleanAllUptoRow : OpenClaim := { program := "ytcphocfnhekdaaa", sum := "f2374c79988bac46dce90beeb92cbfb63c5165fd5d1d80a6374c4a002e8b8e23", func := "truchman/truchmanlaw09.CleanAll", spec := "cleanAll", apart := false, narrowed := true }
def CleanAllUptoSaid : Prop := cleanAllUptoRow.holds Try.pinned (OpenSpec.upto cleanAllSpec)

/-- 'truchmanlaw09.CleanMarks', WHERE WHAT IT READS IS OF BULK AT MOST 1048576: true; the input reads as it did. -/
def cleanMarksUptoRow : OpenClaim := { program := "ytcphocfnhekdaaa", sum := "f2374c79988bac46dce90beeb92cbfb63c5165fd5d1d80a6374c4a002e8b8e23", func := "truchman/truchmanlaw09.CleanMarks", spec := "cleanMarks", apart := false, narrowed := true }
def CleanMarksUptoSaid : Prop := cleanMarksUptoRow.holds Try.pinned (OpenSpec.upto cleanMarksSpec)

/-- 'truchmanlaw09.CleanFeeds', WHERE WHAT IT READS IS OF BULK AT MOST 1048576: true; the input reads as it did. -/
def cleanFeedsUptoRow : OpenClaim := { program := "ytcphocfnhekdaaa", sum := "f2374c79988bac46dce90beeb92cbfb63c5165fd5d1d80a6374c4a002e8b8e23", func := "truchman/truchmanlaw09.CleanFeeds", spec := "cleanFeeds", apart := false, narrowed := true }
def CleanFeedsUptoSaid : Prop := cleanFeedsUptoRow.holds Try.pinned (OpenSpec.upto cleanFeedsSpec)

end Rows
end Go.Proofs.Ytcphocfnhekdaaa
