/- Errors: their numbers. -/
import Derived.Test.YtealbjkhjpmilaaDoorGmC
import Derived.Test.YtealbjkhjpmilaaDoorSyKit
set_option linter.unusedSimpArgs false
set_option linter.unusedVariables false
set_option maxRecDepth 100000
namespace Go.Proofs.YtealbjkhjpmilaaDoor
open Go.Sx

def memB (l : Nat) : List Nat → Bool
  | [] => false
  | a :: r => match Nat.beq a l with | true => true | false => memB l r
theorem memB_ok {l : Nat} : ∀ {r : List Nat}, memB l r = true → l ∈ r
  | a :: r, h => by
    simp only [memB] at h
    split at h
    · rename_i e; rw [Nat.eq_of_beq_eq_true e]; simp
    · exact List.mem_cons_of_mem _ (memB_ok h)

def numOf (l : Nat) : Int := match l with
  | 25 => 5
  | 26 => 10
  | 27 => 8
  | 28 => 3
  | 29 => 4
  | 30 => 9
  | 32 => 1
  | 33 => 2
  | 34 => 6
  | 35 => 7
  | 36 => 11
  | 37 => 12
  | 38 => 13
  | 39 => 14
  | 40 => 15
  | 41 => 16
  | _ => 0

def numS : Summ := fun args H =>
  match args with
  | [.v .ve0] => do
    bump 50
    pure ⟨.v (.vi .i64 fun _ => 0), [], [], []⟩
  | [.v (.ve t (.vp l m p))] => do
    chk (Nat.beq t 223)
    chk (Nat.beq (m []) 0)
    chk p.isEmpty
    chk (errsIn 25 223 H errG)
    chk (memB l (errG.map (25 + ·)))
    bump 50
    pure ⟨.v (.vi .i64 fun _ => numOf l), [], [], errLabs 25 errG⟩
  | _ => M.fail

theorem num_runs (H : List Ent) (l : Nat) (hl : memB l (errG.map (25 + ·)) = true) : RunsTo Tryd.prog 35 [.code (bodyOf Tryd.f35)] (envOf [numA l] Tryd.f35.ntmps) (Sx.look (numC H)) 58 (.v (.vi .i64 fun _ => numOf l)) (Sx.look []) (58 + 50) := by
  have hl := memB_ok hl
  simp only [errG, List.map_cons, List.map_nil, List.mem_cons, List.not_mem_nil, or_false] at hl
  rcases hl with rfl | rfl | rfl | rfl | rfl | rfl | rfl | rfl | rfl | rfl | rfl | rfl | rfl | rfl | rfl | rfl
  · exact num_0 H
  · exact num_1 H
  · exact num_2 H
  · exact num_3 H
  · exact num_4 H
  · exact num_5 H
  · exact num_7 H
  · exact num_8 H
  · exact num_9 H
  · exact num_10 H
  · exact num_11 H
  · exact num_12 H
  · exact num_13 H
  · exact num_14 H
  · exact num_15 H
  · exact num_16 H

theorem numS_ok : ∀ args H x e d y, numS args H x = .ok e d y → OkL d → (∀ a ∈ args, ∀ l ∈ a.labs, l < x.nl) → WFh (Sx.look H) x.nl → gtop Tryd.prog ≤ x.nl → CallOK Tryd.prog 35 args H x.nl e y.nl := by
  intro args H x e d y h hd h3 h4 h5
  unfold numS at h
  split at h
  · obtain ⟨x9, n9, h⟩ := bump_bind h
    obtain ⟨rfl, rfl, rfl⟩ := pure_ok h
    rw [n9]
    exact useC_ok (σ := []) Tryd.func35 (body := bodyOf Tryd.f35) (by kernel_rfl) (cargs := [.v .ve0]) (C := []) (C' := []) (n := 58) (n' := 58 + 50)
      (num_nil []) rfl rfl ⟨trivial, trivial⟩ trivial (by kernel_rfl) rfl rfl rfl
  · rename_i t l m p
    obtain ⟨e1, h⟩ := chk_bind h
    obtain ⟨e2, h⟩ := chk_bind h
    obtain ⟨e3, h⟩ := chk_bind h
    obtain ⟨e4, h⟩ := chk_bind h
    obtain ⟨e5, h⟩ := chk_bind h
    obtain ⟨x9, n9, h⟩ := bump_bind h
    obtain ⟨rfl, rfl, rfl⟩ := pure_ok h
    have e1 := Nat.eq_of_beq_eq_true e1
    have e2 := Nat.eq_of_beq_eq_true e2
    have e3 : p = [] := List.isEmpty_iff.1 e3
    subst e1; subst e3
    rw [n9]
    have hs := srcs_sent (G := 25) (tp := 223) (H := H) errG
    have hu := useC_ok (σ := []) (args := [.v (.ve 223 (.vp l m []))]) (H := H) (nl := x.nl) Tryd.func35 (body := bodyOf Tryd.f35) (by kernel_rfl) (cargs := [numA l]) (C := numC H) (C' := []) (n := 58) (n' := 58 + 50) (num_runs H l e5) (by kernel_rfl) rfl
      ⟨by simp [numA, fitS, fitT, fitP, sgOf, onB_true, offs, allB, e2, beqT rfl], trivial⟩ (errs_fitH e4) (by kernel_rfl) rfl rfl rfl
    unfold effC at hu
    rw [show srcsOf [] (numC H) = errLabs 25 errG from hs] at hu
    exact hu
  · exact (fail_ok h).elim

end Go.Proofs.YtealbjkhjpmilaaDoor
