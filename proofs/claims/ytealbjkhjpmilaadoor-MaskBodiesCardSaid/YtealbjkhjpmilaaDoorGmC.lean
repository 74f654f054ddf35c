/- Errors: their numbers, run by run. -/
import Derived.Test.YtealbjkhjpmilaaDoorGsC
import Derived.Test.YtealbjkhjpmilaaDoorSyKit
set_option linter.unusedSimpArgs false
set_option linter.unusedVariables false
set_option maxRecDepth 100000
namespace Go.Proofs.YtealbjkhjpmilaaDoor
open Go.Sx

def errG : List Nat := [0, 1, 2, 3, 4, 5, 7, 8, 9, 10, 11, 12, 13, 14, 15, 16]
def numC (H : List Ent) : List Ent := sentEnts 25 223 (textsIn 25 H errG)
def numA (l : Nat) : SV := .v (.ve 223 (.vp l (fun _ => 0) []))
def sumsI : List (FuncId × Summ) := [(78, isS)]

theorem goodN : PGood Tryd.prog := good_of (by kernel_rfl) (by kernel_rfl)
theorem gtopE : gtop Tryd.prog ≤ 58 := of_decide_eq_true (by kernel_rfl)
theorem baseI : Base0 Tryd.prog sumsI := (Base0.nil goodN).cons Tryd.func78 (by kernel_rfl) isS_ok
theorem num_nil_p0 (H : List Ent) :
    isEnd (evTill Tryd.prog sumsI 100 99 900 35 [.code (bodyOf Tryd.f35)] (envOf [.v .ve0] Tryd.f35.ntmps) [] ⟨[.t], 58⟩) (endP ([]) (.v (.vi .i64 fun _ => 0)) [] 108) =
    (OkL [] ∧ (0 : Int) = (0 : Int) ∧ True) := by kernel_rfl

set_option maxHeartbeats 4000000 in
theorem num_nil (H : List Ent)  :
    RunsTo Tryd.prog 35 [.code (bodyOf Tryd.f35)] (envOf [.v .ve0] Tryd.f35.ntmps) (Sx.look []) 58 (.v (.vi .i64 fun _ => 0)) (Sx.look []) 108 := by
  exact runs_last baseI (Sx.Ends.of (num_nil_p0 H) ⟨okn, rfl, trivial⟩) (by kernel_rfl) rfl gtopE (Nat.le_refl _)

theorem num_0_p0 (H : List Ent) :
    isEnd (evTill Tryd.prog sumsI 100 99 900 35 [.code (bodyOf Tryd.f35)] (envOf [numA 25] Tryd.f35.ntmps) (numC H) ⟨[.f, .t, .t, .t, .f, .t, .t, .t, .f, .t, .t, .t, .f, .t, .t, .t, .f, .t, .t, .t, .t], 58⟩) (endP ([]) (.v (.vi .i64 fun _ => 5)) [] 108) =
    (OkL [] ∧ (5 : Int) = IntKind.i64.wrap (IntKind.i64.wrap (IntKind.i64.wrap (IntKind.i64.wrap (IntKind.i64.wrap ((0 : Int) + (1 : Int)) + (1 : Int)) + (1 : Int)) + (1 : Int)) + (1 : Int)) ∧ True) := by kernel_rfl

set_option maxHeartbeats 4000000 in
theorem num_0 (H : List Ent)  :
    RunsTo Tryd.prog 35 [.code (bodyOf Tryd.f35)] (envOf [numA 25] Tryd.f35.ntmps) (Sx.look (numC H)) 58 (.v (.vi .i64 fun _ => 5)) (Sx.look []) 108 := by
  exact runs_last baseI (Sx.Ends.of (num_0_p0 H) ⟨okn, rfl, trivial⟩) (by kernel_rfl) rfl gtopE (Nat.le_refl _)

theorem num_1_p0 (H : List Ent) :
    isEnd (evTill Tryd.prog sumsI 100 99 900 35 [.code (bodyOf Tryd.f35)] (envOf [numA 26] Tryd.f35.ntmps) (numC H) ⟨[.f, .t, .t, .t, .f, .t, .t, .t, .f, .t, .t, .t, .f, .t, .t, .t, .f, .t, .t, .t, .f, .t, .t, .t, .f, .t, .t, .t, .f, .t, .t, .t, .f, .t, .t, .t, .f, .t, .t, .t, .t], 58⟩) (endP ([]) (.v (.vi .i64 fun _ => 10)) [] 108) =
    (OkL [] ∧ (10 : Int) = IntKind.i64.wrap (IntKind.i64.wrap (IntKind.i64.wrap (IntKind.i64.wrap (IntKind.i64.wrap (IntKind.i64.wrap (IntKind.i64.wrap (IntKind.i64.wrap (IntKind.i64.wrap (IntKind.i64.wrap ((0 : Int) + (1 : Int)) + (1 : Int)) + (1 : Int)) + (1 : Int)) + (1 : Int)) + (1 : Int)) + (1 : Int)) + (1 : Int)) + (1 : Int)) + (1 : Int)) ∧ True) := by kernel_rfl

set_option maxHeartbeats 4000000 in
theorem num_1 (H : List Ent)  :
    RunsTo Tryd.prog 35 [.code (bodyOf Tryd.f35)] (envOf [numA 26] Tryd.f35.ntmps) (Sx.look (numC H)) 58 (.v (.vi .i64 fun _ => 10)) (Sx.look []) 108 := by
  exact runs_last baseI (Sx.Ends.of (num_1_p0 H) ⟨okn, rfl, trivial⟩) (by kernel_rfl) rfl gtopE (Nat.le_refl _)

theorem num_2_p0 (H : List Ent) :
    isEnd (evTill Tryd.prog sumsI 100 99 900 35 [.code (bodyOf Tryd.f35)] (envOf [numA 27] Tryd.f35.ntmps) (numC H) ⟨[.f, .t, .t, .t, .f, .t, .t, .t, .f, .t, .t, .t, .f, .t, .t, .t, .f, .t, .t, .t, .f, .t, .t, .t, .f, .t, .t, .t, .f, .t, .t, .t, .t], 58⟩) (endP ([]) (.v (.vi .i64 fun _ => 8)) [] 108) =
    (OkL [] ∧ (8 : Int) = IntKind.i64.wrap (IntKind.i64.wrap (IntKind.i64.wrap (IntKind.i64.wrap (IntKind.i64.wrap (IntKind.i64.wrap (IntKind.i64.wrap (IntKind.i64.wrap ((0 : Int) + (1 : Int)) + (1 : Int)) + (1 : Int)) + (1 : Int)) + (1 : Int)) + (1 : Int)) + (1 : Int)) + (1 : Int)) ∧ True) := by kernel_rfl

set_option maxHeartbeats 4000000 in
theorem num_2 (H : List Ent)  :
    RunsTo Tryd.prog 35 [.code (bodyOf Tryd.f35)] (envOf [numA 27] Tryd.f35.ntmps) (Sx.look (numC H)) 58 (.v (.vi .i64 fun _ => 8)) (Sx.look []) 108 := by
  exact runs_last baseI (Sx.Ends.of (num_2_p0 H) ⟨okn, rfl, trivial⟩) (by kernel_rfl) rfl gtopE (Nat.le_refl _)

theorem num_3_p0 (H : List Ent) :
    isEnd (evTill Tryd.prog sumsI 100 99 900 35 [.code (bodyOf Tryd.f35)] (envOf [numA 28] Tryd.f35.ntmps) (numC H) ⟨[.f, .t, .t, .t, .f, .t, .t, .t, .f, .t, .t, .t, .t], 58⟩) (endP ([]) (.v (.vi .i64 fun _ => 3)) [] 108) =
    (OkL [] ∧ (3 : Int) = IntKind.i64.wrap (IntKind.i64.wrap (IntKind.i64.wrap ((0 : Int) + (1 : Int)) + (1 : Int)) + (1 : Int)) ∧ True) := by kernel_rfl

set_option maxHeartbeats 4000000 in
theorem num_3 (H : List Ent)  :
    RunsTo Tryd.prog 35 [.code (bodyOf Tryd.f35)] (envOf [numA 28] Tryd.f35.ntmps) (Sx.look (numC H)) 58 (.v (.vi .i64 fun _ => 3)) (Sx.look []) 108 := by
  exact runs_last baseI (Sx.Ends.of (num_3_p0 H) ⟨okn, rfl, trivial⟩) (by kernel_rfl) rfl gtopE (Nat.le_refl _)

theorem num_4_p0 (H : List Ent) :
    isEnd (evTill Tryd.prog sumsI 100 99 900 35 [.code (bodyOf Tryd.f35)] (envOf [numA 29] Tryd.f35.ntmps) (numC H) ⟨[.f, .t, .t, .t, .f, .t, .t, .t, .f, .t, .t, .t, .f, .t, .t, .t, .t], 58⟩) (endP ([]) (.v (.vi .i64 fun _ => 4)) [] 108) =
    (OkL [] ∧ (4 : Int) = IntKind.i64.wrap (IntKind.i64.wrap (IntKind.i64.wrap (IntKind.i64.wrap ((0 : Int) + (1 : Int)) + (1 : Int)) + (1 : Int)) + (1 : Int)) ∧ True) := by kernel_rfl

set_option maxHeartbeats 4000000 in
theorem num_4 (H : List Ent)  :
    RunsTo Tryd.prog 35 [.code (bodyOf Tryd.f35)] (envOf [numA 29] Tryd.f35.ntmps) (Sx.look (numC H)) 58 (.v (.vi .i64 fun _ => 4)) (Sx.look []) 108 := by
  exact runs_last baseI (Sx.Ends.of (num_4_p0 H) ⟨okn, rfl, trivial⟩) (by kernel_rfl) rfl gtopE (Nat.le_refl _)

theorem num_5_p0 (H : List Ent) :
    isEnd (evTill Tryd.prog sumsI 100 99 900 35 [.code (bodyOf Tryd.f35)] (envOf [numA 30] Tryd.f35.ntmps) (numC H) ⟨[.f, .t, .t, .t, .f, .t, .t, .t, .f, .t, .t, .t, .f, .t, .t, .t, .f, .t, .t, .t, .f, .t, .t, .t, .f, .t, .t, .t, .f, .t, .t, .t, .f, .t, .t, .t, .t], 58⟩) (endP ([]) (.v (.vi .i64 fun _ => 9)) [] 108) =
    (OkL [] ∧ (9 : Int) = IntKind.i64.wrap (IntKind.i64.wrap (IntKind.i64.wrap (IntKind.i64.wrap (IntKind.i64.wrap (IntKind.i64.wrap (IntKind.i64.wrap (IntKind.i64.wrap (IntKind.i64.wrap ((0 : Int) + (1 : Int)) + (1 : Int)) + (1 : Int)) + (1 : Int)) + (1 : Int)) + (1 : Int)) + (1 : Int)) + (1 : Int)) + (1 : Int)) ∧ True) := by kernel_rfl

set_option maxHeartbeats 4000000 in
theorem num_5 (H : List Ent)  :
    RunsTo Tryd.prog 35 [.code (bodyOf Tryd.f35)] (envOf [numA 30] Tryd.f35.ntmps) (Sx.look (numC H)) 58 (.v (.vi .i64 fun _ => 9)) (Sx.look []) 108 := by
  exact runs_last baseI (Sx.Ends.of (num_5_p0 H) ⟨okn, rfl, trivial⟩) (by kernel_rfl) rfl gtopE (Nat.le_refl _)

theorem num_7_p0 (H : List Ent) :
    isEnd (evTill Tryd.prog sumsI 100 99 900 35 [.code (bodyOf Tryd.f35)] (envOf [numA 32] Tryd.f35.ntmps) (numC H) ⟨[.f, .t, .t, .t, .t], 58⟩) (endP ([]) (.v (.vi .i64 fun _ => 1)) [] 108) =
    (OkL [] ∧ (1 : Int) = IntKind.i64.wrap ((0 : Int) + (1 : Int)) ∧ True) := by kernel_rfl

set_option maxHeartbeats 4000000 in
theorem num_7 (H : List Ent)  :
    RunsTo Tryd.prog 35 [.code (bodyOf Tryd.f35)] (envOf [numA 32] Tryd.f35.ntmps) (Sx.look (numC H)) 58 (.v (.vi .i64 fun _ => 1)) (Sx.look []) 108 := by
  exact runs_last baseI (Sx.Ends.of (num_7_p0 H) ⟨okn, rfl, trivial⟩) (by kernel_rfl) rfl gtopE (Nat.le_refl _)

theorem num_8_p0 (H : List Ent) :
    isEnd (evTill Tryd.prog sumsI 100 99 900 35 [.code (bodyOf Tryd.f35)] (envOf [numA 33] Tryd.f35.ntmps) (numC H) ⟨[.f, .t, .t, .t, .f, .t, .t, .t, .t], 58⟩) (endP ([]) (.v (.vi .i64 fun _ => 2)) [] 108) =
    (OkL [] ∧ (2 : Int) = IntKind.i64.wrap (IntKind.i64.wrap ((0 : Int) + (1 : Int)) + (1 : Int)) ∧ True) := by kernel_rfl

set_option maxHeartbeats 4000000 in
theorem num_8 (H : List Ent)  :
    RunsTo Tryd.prog 35 [.code (bodyOf Tryd.f35)] (envOf [numA 33] Tryd.f35.ntmps) (Sx.look (numC H)) 58 (.v (.vi .i64 fun _ => 2)) (Sx.look []) 108 := by
  exact runs_last baseI (Sx.Ends.of (num_8_p0 H) ⟨okn, rfl, trivial⟩) (by kernel_rfl) rfl gtopE (Nat.le_refl _)

theorem num_9_p0 (H : List Ent) :
    isEnd (evTill Tryd.prog sumsI 100 99 900 35 [.code (bodyOf Tryd.f35)] (envOf [numA 34] Tryd.f35.ntmps) (numC H) ⟨[.f, .t, .t, .t, .f, .t, .t, .t, .f, .t, .t, .t, .f, .t, .t, .t, .f, .t, .t, .t, .f, .t, .t, .t, .t], 58⟩) (endP ([]) (.v (.vi .i64 fun _ => 6)) [] 108) =
    (OkL [] ∧ (6 : Int) = IntKind.i64.wrap (IntKind.i64.wrap (IntKind.i64.wrap (IntKind.i64.wrap (IntKind.i64.wrap (IntKind.i64.wrap ((0 : Int) + (1 : Int)) + (1 : Int)) + (1 : Int)) + (1 : Int)) + (1 : Int)) + (1 : Int)) ∧ True) := by kernel_rfl

set_option maxHeartbeats 4000000 in
theorem num_9 (H : List Ent)  :
    RunsTo Tryd.prog 35 [.code (bodyOf Tryd.f35)] (envOf [numA 34] Tryd.f35.ntmps) (Sx.look (numC H)) 58 (.v (.vi .i64 fun _ => 6)) (Sx.look []) 108 := by
  exact runs_last baseI (Sx.Ends.of (num_9_p0 H) ⟨okn, rfl, trivial⟩) (by kernel_rfl) rfl gtopE (Nat.le_refl _)

theorem num_10_p0 (H : List Ent) :
    isEnd (evTill Tryd.prog sumsI 100 99 900 35 [.code (bodyOf Tryd.f35)] (envOf [numA 35] Tryd.f35.ntmps) (numC H) ⟨[.f, .t, .t, .t, .f, .t, .t, .t, .f, .t, .t, .t, .f, .t, .t, .t, .f, .t, .t, .t, .f, .t, .t, .t, .f, .t, .t, .t, .t], 58⟩) (endP ([]) (.v (.vi .i64 fun _ => 7)) [] 108) =
    (OkL [] ∧ (7 : Int) = IntKind.i64.wrap (IntKind.i64.wrap (IntKind.i64.wrap (IntKind.i64.wrap (IntKind.i64.wrap (IntKind.i64.wrap (IntKind.i64.wrap ((0 : Int) + (1 : Int)) + (1 : Int)) + (1 : Int)) + (1 : Int)) + (1 : Int)) + (1 : Int)) + (1 : Int)) ∧ True) := by kernel_rfl

set_option maxHeartbeats 4000000 in
theorem num_10 (H : List Ent)  :
    RunsTo Tryd.prog 35 [.code (bodyOf Tryd.f35)] (envOf [numA 35] Tryd.f35.ntmps) (Sx.look (numC H)) 58 (.v (.vi .i64 fun _ => 7)) (Sx.look []) 108 := by
  exact runs_last baseI (Sx.Ends.of (num_10_p0 H) ⟨okn, rfl, trivial⟩) (by kernel_rfl) rfl gtopE (Nat.le_refl _)

theorem num_11_p0 (H : List Ent) :
    isEnd (evTill Tryd.prog sumsI 100 99 900 35 [.code (bodyOf Tryd.f35)] (envOf [numA 36] Tryd.f35.ntmps) (numC H) ⟨[.f, .t, .t, .t, .f, .t, .t, .t, .f, .t, .t, .t, .f, .t, .t, .t, .f, .t, .t, .t, .f, .t, .t, .t, .f, .t, .t, .t, .f, .t, .t, .t, .f, .t, .t, .t, .f, .t, .t, .t, .f, .t, .t, .t, .t], 58⟩) (endP ([]) (.v (.vi .i64 fun _ => 11)) [] 108) =
    (OkL [] ∧ (11 : Int) = IntKind.i64.wrap (IntKind.i64.wrap (IntKind.i64.wrap (IntKind.i64.wrap (IntKind.i64.wrap (IntKind.i64.wrap (IntKind.i64.wrap (IntKind.i64.wrap (IntKind.i64.wrap (IntKind.i64.wrap (IntKind.i64.wrap ((0 : Int) + (1 : Int)) + (1 : Int)) + (1 : Int)) + (1 : Int)) + (1 : Int)) + (1 : Int)) + (1 : Int)) + (1 : Int)) + (1 : Int)) + (1 : Int)) + (1 : Int)) ∧ True) := by kernel_rfl

set_option maxHeartbeats 4000000 in
theorem num_11 (H : List Ent)  :
    RunsTo Tryd.prog 35 [.code (bodyOf Tryd.f35)] (envOf [numA 36] Tryd.f35.ntmps) (Sx.look (numC H)) 58 (.v (.vi .i64 fun _ => 11)) (Sx.look []) 108 := by
  exact runs_last baseI (Sx.Ends.of (num_11_p0 H) ⟨okn, rfl, trivial⟩) (by kernel_rfl) rfl gtopE (Nat.le_refl _)

theorem num_12_p0 (H : List Ent) :
    isEnd (evTill Tryd.prog sumsI 100 99 900 35 [.code (bodyOf Tryd.f35)] (envOf [numA 37] Tryd.f35.ntmps) (numC H) ⟨[.f, .t, .t, .t, .f, .t, .t, .t, .f, .t, .t, .t, .f, .t, .t, .t, .f, .t, .t, .t, .f, .t, .t, .t, .f, .t, .t, .t, .f, .t, .t, .t, .f, .t, .t, .t, .f, .t, .t, .t, .f, .t, .t, .t, .f, .t, .t, .t, .t], 58⟩) (endP ([]) (.v (.vi .i64 fun _ => 12)) [] 108) =
    (OkL [] ∧ (12 : Int) = IntKind.i64.wrap (IntKind.i64.wrap (IntKind.i64.wrap (IntKind.i64.wrap (IntKind.i64.wrap (IntKind.i64.wrap (IntKind.i64.wrap (IntKind.i64.wrap (IntKind.i64.wrap (IntKind.i64.wrap (IntKind.i64.wrap (IntKind.i64.wrap ((0 : Int) + (1 : Int)) + (1 : Int)) + (1 : Int)) + (1 : Int)) + (1 : Int)) + (1 : Int)) + (1 : Int)) + (1 : Int)) + (1 : Int)) + (1 : Int)) + (1 : Int)) + (1 : Int)) ∧ True) := by kernel_rfl

set_option maxHeartbeats 4000000 in
theorem num_12 (H : List Ent)  :
    RunsTo Tryd.prog 35 [.code (bodyOf Tryd.f35)] (envOf [numA 37] Tryd.f35.ntmps) (Sx.look (numC H)) 58 (.v (.vi .i64 fun _ => 12)) (Sx.look []) 108 := by
  exact runs_last baseI (Sx.Ends.of (num_12_p0 H) ⟨okn, rfl, trivial⟩) (by kernel_rfl) rfl gtopE (Nat.le_refl _)

theorem num_13_p0 (H : List Ent) :
    isEnd (evTill Tryd.prog sumsI 100 99 900 35 [.code (bodyOf Tryd.f35)] (envOf [numA 38] Tryd.f35.ntmps) (numC H) ⟨[.f, .t, .t, .t, .f, .t, .t, .t, .f, .t, .t, .t, .f, .t, .t, .t, .f, .t, .t, .t, .f, .t, .t, .t, .f, .t, .t, .t, .f, .t, .t, .t, .f, .t, .t, .t, .f, .t, .t, .t, .f, .t, .t, .t, .f, .t, .t, .t, .f, .t, .t, .t, .t], 58⟩) (endP ([]) (.v (.vi .i64 fun _ => 13)) [] 108) =
    (OkL [] ∧ (13 : Int) = IntKind.i64.wrap (IntKind.i64.wrap (IntKind.i64.wrap (IntKind.i64.wrap (IntKind.i64.wrap (IntKind.i64.wrap (IntKind.i64.wrap (IntKind.i64.wrap (IntKind.i64.wrap (IntKind.i64.wrap (IntKind.i64.wrap (IntKind.i64.wrap (IntKind.i64.wrap ((0 : Int) + (1 : Int)) + (1 : Int)) + (1 : Int)) + (1 : Int)) + (1 : Int)) + (1 : Int)) + (1 : Int)) + (1 : Int)) + (1 : Int)) + (1 : Int)) + (1 : Int)) + (1 : Int)) + (1 : Int)) ∧ True) := by kernel_rfl

set_option maxHeartbeats 4000000 in
theorem num_13 (H : List Ent)  :
    RunsTo Tryd.prog 35 [.code (bodyOf Tryd.f35)] (envOf [numA 38] Tryd.f35.ntmps) (Sx.look (numC H)) 58 (.v (.vi .i64 fun _ => 13)) (Sx.look []) 108 := by
  exact runs_last baseI (Sx.Ends.of (num_13_p0 H) ⟨okn, rfl, trivial⟩) (by kernel_rfl) rfl gtopE (Nat.le_refl _)

theorem num_14_p0 (H : List Ent) :
    isEnd (evTill Tryd.prog sumsI 100 99 900 35 [.code (bodyOf Tryd.f35)] (envOf [numA 39] Tryd.f35.ntmps) (numC H) ⟨[.f, .t, .t, .t, .f, .t, .t, .t, .f, .t, .t, .t, .f, .t, .t, .t, .f, .t, .t, .t, .f, .t, .t, .t, .f, .t, .t, .t, .f, .t, .t, .t, .f, .t, .t, .t, .f, .t, .t, .t, .f, .t, .t, .t, .f, .t, .t, .t, .f, .t, .t, .t, .f, .t, .t, .t, .t], 58⟩) (endP ([]) (.v (.vi .i64 fun _ => 14)) [] 108) =
    (OkL [] ∧ (14 : Int) = IntKind.i64.wrap (IntKind.i64.wrap (IntKind.i64.wrap (IntKind.i64.wrap (IntKind.i64.wrap (IntKind.i64.wrap (IntKind.i64.wrap (IntKind.i64.wrap (IntKind.i64.wrap (IntKind.i64.wrap (IntKind.i64.wrap (IntKind.i64.wrap (IntKind.i64.wrap (IntKind.i64.wrap ((0 : Int) + (1 : Int)) + (1 : Int)) + (1 : Int)) + (1 : Int)) + (1 : Int)) + (1 : Int)) + (1 : Int)) + (1 : Int)) + (1 : Int)) + (1 : Int)) + (1 : Int)) + (1 : Int)) + (1 : Int)) + (1 : Int)) ∧ True) := by kernel_rfl

set_option maxHeartbeats 4000000 in
theorem num_14 (H : List Ent)  :
    RunsTo Tryd.prog 35 [.code (bodyOf Tryd.f35)] (envOf [numA 39] Tryd.f35.ntmps) (Sx.look (numC H)) 58 (.v (.vi .i64 fun _ => 14)) (Sx.look []) 108 := by
  exact runs_last baseI (Sx.Ends.of (num_14_p0 H) ⟨okn, rfl, trivial⟩) (by kernel_rfl) rfl gtopE (Nat.le_refl _)

theorem num_15_p0 (H : List Ent) :
    isEnd (evTill Tryd.prog sumsI 100 99 900 35 [.code (bodyOf Tryd.f35)] (envOf [numA 40] Tryd.f35.ntmps) (numC H) ⟨[.f, .t, .t, .t, .f, .t, .t, .t, .f, .t, .t, .t, .f, .t, .t, .t, .f, .t, .t, .t, .f, .t, .t, .t, .f, .t, .t, .t, .f, .t, .t, .t, .f, .t, .t, .t, .f, .t, .t, .t, .f, .t, .t, .t, .f, .t, .t, .t, .f, .t, .t, .t, .f, .t, .t, .t, .f, .t, .t, .t, .t], 58⟩) (endP ([]) (.v (.vi .i64 fun _ => 15)) [] 108) =
    (OkL [] ∧ (15 : Int) = IntKind.i64.wrap (IntKind.i64.wrap (IntKind.i64.wrap (IntKind.i64.wrap (IntKind.i64.wrap (IntKind.i64.wrap (IntKind.i64.wrap (IntKind.i64.wrap (IntKind.i64.wrap (IntKind.i64.wrap (IntKind.i64.wrap (IntKind.i64.wrap (IntKind.i64.wrap (IntKind.i64.wrap (IntKind.i64.wrap ((0 : Int) + (1 : Int)) + (1 : Int)) + (1 : Int)) + (1 : Int)) + (1 : Int)) + (1 : Int)) + (1 : Int)) + (1 : Int)) + (1 : Int)) + (1 : Int)) + (1 : Int)) + (1 : Int)) + (1 : Int)) + (1 : Int)) + (1 : Int)) ∧ True) := by kernel_rfl

set_option maxHeartbeats 4000000 in
theorem num_15 (H : List Ent)  :
    RunsTo Tryd.prog 35 [.code (bodyOf Tryd.f35)] (envOf [numA 40] Tryd.f35.ntmps) (Sx.look (numC H)) 58 (.v (.vi .i64 fun _ => 15)) (Sx.look []) 108 := by
  exact runs_last baseI (Sx.Ends.of (num_15_p0 H) ⟨okn, rfl, trivial⟩) (by kernel_rfl) rfl gtopE (Nat.le_refl _)

theorem num_16_p0 (H : List Ent) :
    isEnd (evTill Tryd.prog sumsI 100 99 900 35 [.code (bodyOf Tryd.f35)] (envOf [numA 41] Tryd.f35.ntmps) (numC H) ⟨[.f, .t, .t, .t, .f, .t, .t, .t, .f, .t, .t, .t, .f, .t, .t, .t, .f, .t, .t, .t, .f, .t, .t, .t, .f, .t, .t, .t, .f, .t, .t, .t, .f, .t, .t, .t, .f, .t, .t, .t, .f, .t, .t, .t, .f, .t, .t, .t, .f, .t, .t, .t, .f, .t, .t, .t, .f, .t, .t, .t, .f, .t, .t, .t, .t], 58⟩) (endP ([]) (.v (.vi .i64 fun _ => 16)) [] 108) =
    (OkL [] ∧ (16 : Int) = IntKind.i64.wrap (IntKind.i64.wrap (IntKind.i64.wrap (IntKind.i64.wrap (IntKind.i64.wrap (IntKind.i64.wrap (IntKind.i64.wrap (IntKind.i64.wrap (IntKind.i64.wrap (IntKind.i64.wrap (IntKind.i64.wrap (IntKind.i64.wrap (IntKind.i64.wrap (IntKind.i64.wrap (IntKind.i64.wrap (IntKind.i64.wrap ((0 : Int) + (1 : Int)) + (1 : Int)) + (1 : Int)) + (1 : Int)) + (1 : Int)) + (1 : Int)) + (1 : Int)) + (1 : Int)) + (1 : Int)) + (1 : Int)) + (1 : Int)) + (1 : Int)) + (1 : Int)) + (1 : Int)) + (1 : Int)) + (1 : Int)) ∧ True) := by kernel_rfl

set_option maxHeartbeats 4000000 in
theorem num_16 (H : List Ent)  :
    RunsTo Tryd.prog 35 [.code (bodyOf Tryd.f35)] (envOf [numA 41] Tryd.f35.ntmps) (Sx.look (numC H)) 58 (.v (.vi .i64 fun _ => 16)) (Sx.look []) 108 := by
  exact runs_last baseI (Sx.Ends.of (num_16_p0 H) ⟨okn, rfl, trivial⟩) (by kernel_rfl) rfl gtopE (Nat.le_refl _)

end Go.Proofs.YtealbjkhjpmilaaDoor
