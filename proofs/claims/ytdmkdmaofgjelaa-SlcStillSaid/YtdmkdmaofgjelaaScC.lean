/- Special characters: the chapter's example. -/
import Derived.Test.YtdmkdmaofgjelaaSbC
set_option linter.unusedSimpArgs false
set_option linter.unusedVariables false
set_option maxRecDepth 100000
namespace Go.Proofs.Ytdmkdmaofgjelaa
open Go.Sx

def sums3 : List (FuncId × Summ) := [(5, newS), (9, rightS)]
theorem base3 : Base0 Try.prog sums3 := base2.cons Try.func5 (by kernel_rfl) newS_ok

theorem alive_ends (zz : Nat) :
    isEnd (evTill Try.prog sums3 100 99 300 4 [.code (bodyOf Try.f4)] (envOf [] 35) [] ⟨[.t, .t, .f, .t, .t, .f, .t, .t, .f, .t, .f, .t, .f, .f, .t, .t, .t, .t, .t, .f, .f, .t, .t], 100⟩) (endP [] (.v (.vb fun _ => true)) [] 200) =
    (OkL [] ∧ true = true ∧ True) := by kernel_rfl

theorem alive_runs : RunsTo Try.prog 4 [.code (bodyOf Try.f4)] (envOf [] 35) (Sx.look []) 100 (.v (.vb fun _ => true)) (Sx.look []) 200 :=
  runs_last base3 (Sx.Ends.of (alive_ends 0) ⟨okn, rfl, trivial⟩) (by kernel_rfl) rfl gtopN (by decide)

def aliveS : Summ := fun args _ =>
  match args with
  | [] => do
    bump 100
    pure ⟨.v (.vb fun _ => true), [], [], []⟩
  | _ => M.fail

theorem aliveS_ok : ∀ args H x e d y, aliveS args H x = .ok e d y → OkL d → (∀ a ∈ args, ∀ l ∈ a.labs, l < x.nl) → WFh (Sx.look H) x.nl → gtop Try.prog ≤ x.nl → CallOK Try.prog 4 args H x.nl e y.nl := by
  intro args H x e d y h hd h3 h4 h5
  unfold aliveS at h
  split at h
  · obtain ⟨x8, n8, h⟩ := bump_bind h
    obtain ⟨rfl, rfl, rfl⟩ := pure_ok h
    rw [n8]
    exact useC_ok (σ := []) Try.func4 (body := bodyOf Try.f4) (by kernel_rfl) (cargs := []) (C := []) (C' := []) (n := 100) (n' := 200) alive_runs rfl rfl trivial trivial (by kernel_rfl) rfl rfl rfl
  · exact (fail_ok h).elim

def sums4 : List (FuncId × Summ) := [(4, aliveS), (5, newS), (9, rightS)]
theorem base4 : Base0 Try.prog sums4 := base3.cons Try.func4 (by kernel_rfl) aliveS_ok

def actE (M : Nat) (K F Lv Vv : Ix → Int) (A : Ix → Bool) : List Ent := [⟨101, false, none, 5, .ta M (.tc (.vi .i64 K) (.tc (.tc (.vi .i64 F) (.tc (.tc (.vi .i64 Lv) (.tc (.vi .i64 Vv) .t0)) (.tc (.vb A) .t0))) .t0))⟩]
def actV (M : Nat) : SV := .v (.vl 101 (fun _ => 0) 5 [] (fun _ => M))
def triT (f l v : Int) (a : Bool) : Tr := .tc (.vi .i64 fun _ => f) (.tc (.tc (.vi .i64 fun _ => l) (.tc (.vi .i64 fun _ => v) .t0)) (.tc (.vb fun _ => a) .t0))
def X3 (N M : Nat) (L V K F Lv Vv : Ix → Int) (A : Ix → Bool) : List Ent := setE N L V ++ actE M K F Lv Vv A

def triE (f l v : Int) (a : Bool) : List Ent := [⟨119, true, none, 4, triT f l v a⟩]
def slE (M i : Nat) : List (Nat × SV) := [(5, .v (.vp 119 (fun _ => 0) [])), (7, .v (.vp 120 (fun _ => 0) [])), (31, actV M), (32, .v (.vi .i64 fun _ => M)), (33, .v (.vi .i64 fun _ => i))]

end Go.Proofs.Ytdmkdmaofgjelaa
