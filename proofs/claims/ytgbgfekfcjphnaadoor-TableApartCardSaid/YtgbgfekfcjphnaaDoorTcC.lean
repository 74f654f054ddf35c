/- Tables: the chapter's example. -/
import Derived.Test.YtgbgfekfcjphnaaDoorTbC
set_option linter.unusedSimpArgs false
set_option linter.unusedVariables false
set_option maxRecDepth 100000
namespace Go.Proofs.YtgbgfekfcjphnaaDoor
open Go.Sx


def sumsM : List (FuncId × Summ) := [(23, newPC.summ 32)]
theorem baseM : Base0 Tryd.prog sumsM := baseO.cons Tryd.func23 (by kernel_rfl) (PC.summ_ok new_pc gtop32)

theorem aliveI_p0 (z : Nat) :
    isEnd (evTill Tryd.prog sumsM 300 99 900 22 [.code (bodyOf Tryd.f22)] (envOf [] Tryd.f22.ntmps) [] ⟨[.t, .t, .f, .t, .f, .t, .f, .t, .t, .t, .t, .t, .t, .t, .t, .t, .t, .f, .t, .t, .t, .f, .t, .t, .t, .t, .f, .f, .f, .t, .t, .t, .t, .t, .t, .t, .f, .t, .f, .t, .t, .t, .t, .t, .f, .t, .f, .t, .t, .t, .t], 80⟩) (endP ([]) YES [] 400) =
    (OkL [] ∧ true = true ∧ True) := by kernel_rfl

set_option maxHeartbeats 4000000 in
theorem aliveI (z : Nat)  :
    RunsTo Tryd.prog 22 [.code (bodyOf Tryd.f22)] (envOf [] Tryd.f22.ntmps) (Sx.look []) 80 YES (Sx.look []) 400 := by
  exact runs_last baseM (Sx.Ends.of (aliveI_p0 z) ⟨okn, by simp⟩) (by kernel_rfl) rfl (gtL (by decide)) (by decide)

def aliveC : PC := { args := [], heap := [], gs := [], G := 16, tp := 131, n := 80, n' := 400, cond := fun e => true, v := fun e => YES, post := fun e => [] }
theorem alive_pc : PC.Runs Tryd.prog 22 Tryd.f22 (bodyOf Tryd.f22) aliveC := ⟨Tryd.func22, by kernel_rfl, (fun g hg => by cases hg), fun e H hc => aliveI 0⟩
def sumsN : List (FuncId × Summ) := [(22, aliveC.summ 32), (23, newPC.summ 32), (24, onePC.summ 32)]
theorem baseN : Base0 Tryd.prog sumsN := ((baseO.cons Tryd.func24 (by kernel_rfl) (PC.summ_ok one_pc gtop32)).cons Tryd.func23 (by kernel_rfl) (PC.summ_ok new_pc gtop32)).cons Tryd.func22 (by kernel_rfl) (PC.summ_ok alive_pc gtop32)

end Go.Proofs.YtgbgfekfcjphnaaDoor
