/- Special characters: what is heard, at its calls. -/
import Derived.Test.YtdmkdmaofgjelaaSdC
set_option linter.unusedSimpArgs false
set_option linter.unusedVariables false
set_option maxRecDepth 100000
namespace Go.Proofs.Ytdmkdmaofgjelaa
open Go.Sx

structure SideF where
  hL : Ix → Int
  hV : Ix → Int
  oL : Ix → Int
  oV : Ix → Int
  wt : Ix → Bool

def rowSide : Tr → Option SideF
  | .tc (.ta 19 (.tc (.tc (.vi .i64 hL) (.tc (.vi .i64 hV) .t0)) (.tc (.tc (.vi .i64 oL) (.tc (.vi .i64 oV) .t0)) (.tc (.vb wt) .t0)))) .t0 => some ⟨hL, hV, oL, oV, wt⟩
  | _ => none
theorem rowSide_ok {t : Tr} {s : SideF} (h : rowSide t = some s) : t = sideT s.hL s.hV s.oL s.oV s.wt := by
  unfold rowSide at h
  split at h
  · simp only [Option.some.injEq] at h
    subst h
    rfl
  · cases h

def hearSm : Summ := fun args H =>
  match args with
  | [.v (.vp lab mem path), .agg (.tc (.vi .i64 f) (.tc (.tc (.vi .i64 l) (.tc (.vi .i64 v) .t0)) (.tc (.vb a) .t0)))] => do
    let e ← opt (Sx.look H lab)
    let s ← opt (rowSide e.t)
    chk e.own
    chk (noFam e.fam)
    chk (Nat.beq e.wid 95)
    chk (Nat.beq (mem []) 0)
    chk path.isEmpty
    let n ← nlOf
    chk (Nat.blt lab n)
    bump 35
    pure ⟨hearSV (hearR (f []) (l []) (v []) (a []) s.hL s.hV s.oL s.oV), [⟨lab, true, none, 95, sideT (hearS (f []) (l []) (v []) (a []) s.hL s.hV s.oL s.oV).1 (hearS (f []) (l []) (v []) (a []) s.hL s.hV s.oL s.oV).2 s.oL s.oV (hearW (f []) (l []) (v []) s.wt)⟩], [], [lab]⟩
  | _ => M.fail

theorem hearSm_ok : ∀ args H x e d y, hearSm args H x = .ok e d y → OkL d → (∀ a ∈ args, ∀ l ∈ a.labs, l < x.nl) → WFh (Sx.look H) x.nl → gtop Try.prog ≤ x.nl → CallOK Try.prog 6 args H x.nl e y.nl := by
  intro args H x e d y h hd h3 h4 h5
  unfold hearSm at h
  split at h
  · rename_i lab mem path f l v a
    obtain ⟨en, hl, h⟩ := opt_bind h
    obtain ⟨s, hs, h⟩ := opt_bind h
    have ht := rowSide_ok hs
    obtain ⟨e1, h⟩ := chk_bind h
    obtain ⟨e2, h⟩ := chk_bind h
    obtain ⟨e3, h⟩ := chk_bind h
    obtain ⟨e4, h⟩ := chk_bind h
    obtain ⟨e5, h⟩ := chk_bind h
    have h := nlOf_bind h
    obtain ⟨e9, h⟩ := chk_bind h
    obtain ⟨x9, n9, h⟩ := bump_bind h
    obtain ⟨rfl, rfl, rfl⟩ := pure_ok h
    have e9 : lab < x.nl := by rw [Nat.blt_eq] at e9; exact e9
    have e4 := Nat.eq_of_beq_eq_true e4
    have e5 : path = [] := List.isEmpty_iff.1 e5
    have e3 := Nat.eq_of_beq_eq_true e3
    have e2 := noFam_ok e2
    subst e5
    rw [n9]
    have hlook := look_part1 hl
    have hb : Nat.blt lab x.nl = true := by rw [Nat.blt_eq]; exact e9
    refine useC_ok (σ := [(120, .to lab)]) Try.func6 (body := bodyOf Try.f6) (by kernel_rfl) (cargs := [.v (.vp 120 (fun _ => 0) []), .agg (triT (f []) (l []) (v []) (a []))]) (C := sideE s.hL s.hV s.oL s.oV s.wt)
      (C' := sideE (hearS (f []) (l []) (v []) (a []) s.hL s.hV s.oL s.oV).1 (hearS (f []) (l []) (v []) (a []) s.hL s.hV s.oL s.oV).2 s.oL s.oV (hearW (f []) (l []) (v []) s.wt)) (n := 125) (n' := 160) (hear_runs (f []) (l []) (v []) (a []) s.hL s.hV s.oL s.oV s.wt) (by kernel_rfl) rfl ?_ ?_ (by kernel_rfl) ?_ rfl rfl
    · refine ⟨?_, ⟨rfl, ⟨rfl, rfl⟩, rfl⟩, trivial⟩
      simp [fitS, fitT, fitP, sgOf, onB_true, offs, allB, e4]
    · simp [fitH, sepH, sepFrom, fitEs, sideE, fitEnt, sgOf, srcsOf, srcL, hlook, e1, e3, sameB, fitTo, e2, ht, sideT, fitT, sameK, allB, onB_true]
    · simp [ownOf, sideE, okEnts, okLab, okLabs, sgOf, hb, sideT, Tr.labs]
  · exact (fail_ok h).elim

def sums5 : List (FuncId × Summ) := [(4, aliveS), (5, newS), (6, hearSm), (9, rightS)]
theorem base5 : Base0 Try.prog sums5 := (((base2.cons Try.func6 (by kernel_rfl) hearSm_ok).cons Try.func5 (by kernel_rfl) newS_ok).cons Try.func4 (by kernel_rfl) aliveS_ok)

end Go.Proofs.Ytdmkdmaofgjelaa
