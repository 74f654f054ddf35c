/- Buffer: the chapter's example holds. -/
import Derived.Test.YtdmkdmaofgjelaaDoorBlC
set_option linter.unusedSimpArgs false
set_option linter.unusedVariables false
set_option maxRecDepth 100000
namespace Go.Proofs.YtdmkdmaofgjelaaDoor
open Go.Sx

theorem alive_ends (zz : Nat) :
    isEnd (evTill Tryd.prog [] 100 99 300 15 [.code (bodyOf Tryd.f15)] (envOf [] Tryd.f15.ntmps) [] ⟨[.t, .f, .f, .f, .t, .t, .t, .t, .t, .t, .t, .t, .t, .t, .t, .t, .t, .t, .t, .t, .t, .t, .t, .t], 100⟩) (endP [] (.v (.vb fun _ => true)) [] 130) =
    (OkL [] ∧ true = true ∧ True) := by kernel_rfl


theorem alive_runs : RunsTo Tryd.prog 15 [.code (bodyOf Tryd.f15)] (envOf [] Tryd.f15.ntmps) (Sx.look []) 100 (.v (.vb fun _ => true)) (Sx.look []) 130 :=
  runs_last (Base0.nil goodP) (Ends.of (alive_ends 0) ⟨okn, rfl, trivial⟩) (by kernel_rfl) rfl gtopP (by decide)

def aliveS : Summ := fun args _ =>
  match args with
  | [] => do
    bump 30
    pure ⟨.v (.vb fun _ => true), [], [], []⟩
  | _ => M.fail

theorem aliveS_ok : ∀ args H x e d y, aliveS args H x = .ok e d y → OkL d → (∀ a ∈ args, ∀ l ∈ a.labs, l < x.nl) → WFh (Sx.look H) x.nl → gtop Tryd.prog ≤ x.nl → CallOK Tryd.prog 15 args H x.nl e y.nl := by
  intro args H x e d y h hd h3 h4 h5
  unfold aliveS at h
  split at h
  · obtain ⟨x8, n8, h⟩ := bump_bind h
    obtain ⟨rfl, rfl, rfl⟩ := pure_ok h
    rw [n8]
    exact useC_ok (σ := []) Tryd.func15 (body := bodyOf Tryd.f15) (by kernel_rfl) (cargs := []) (C := []) (C' := []) (n := 100) (n' := 130) alive_runs rfl rfl trivial trivial rfl rfl rfl rfl
  · exact (fail_ok h).elim

def sums1 : List (FuncId × Summ) := [(15, aliveS), (16, longS)]
theorem base1 : Base0 Tryd.prog sums1 :=
  ((Base0.nil goodP).cons Tryd.func16 (by kernel_rfl) longS_ok).cons Tryd.func15 (by kernel_rfl) aliveS_ok

end Go.Proofs.YtdmkdmaofgjelaaDoor
