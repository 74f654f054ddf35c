/- The engine, part 28: a piece of a run up to a loop's head; the rules for loops. -/
import Derived.Test.YtankmgnjkcgpaaaDoorSyR
set_option linter.unusedSimpArgs false
set_option linter.unusedVariables false
namespace Go.Sx

def lenC : Code → Nat
  | .seq _ b => lenC b + 1
  | _ => 0
def dropC : Nat → Code → Code
  | n + 1, .seq _ b => dropC n b
  | _, c => c

def enters (d : Nat) : List Item → Bool
  | .inLoop _ :: k => Nat.beq k.length d
  | .code (.loop _) :: k => Nat.beq k.length d
  | [.code c] => Nat.beq (lenC c + 1000) d
  | .code .skip :: .code c :: .inScope _ :: _ => Nat.beq (lenC c + 2000) d
  | .code (.label _) :: .code c :: .inScope _ :: _ => Nat.beq (lenC c + 2000) d
  | _ => false

def evTill (P : Program) (S : List (FuncId × Summ)) (F d : Nat) : Nat → FuncId → List Item → List SV → List Ent → M Out
  | 0, _, _, _, _ => M.fail
  | n + 1, f, todo, env, H => do
    match ← evStep P S (evRun P S F) f todo env H with
    | .ret v H' m => pure (.ret v H' m)
    | .more todo' env' H' m =>
      match enters d todo with
      | true => pure (.more todo' env' H' m)
      | false => evTill P S F d n f todo' env' H'

theorem evTill_ok {P : Program} {S : List (FuncId × Summ)} (B : Base0 P S) (F dp : Nat) :
    ∀ (n : Nat) {f : FuncId} {todo : List Item} {env : List SV} {H : List Ent} {x y : Aux} {o : Out} {d : Conds}, evTill P S F dp n f todo env H x = .ok o d y → OkL d → WFe env x.nl → WFh (look H) x.nl → gtop P ≤ x.nl → OutOK P f todo env H x.nl o y.nl
  | 0, f, todo, env, H, x, y, o, d, h, hd, he, hh, hg => (fail_ok h).elim
  | n + 1, f, todo, env, H, x, y, o, d, h, hd, he, hh, hg => by
    simp only [evTill] at h
    obtain ⟨o1, c1, y1, c2, h1, h2, rfl⟩ := bind_ok h
    simp only [OkL_append] at hd
    have hs := evStep_ok ⟨B.good, evRun_ok B.good B.sums B.body F, B.sums, B.body⟩ h1 hd.1 he hh hg
    cases o1 with
    | ret v' H1 m1 =>
      simp only at h2
      obtain ⟨rfl, rfl, rfl⟩ := pure_ok h2
      exact hs
    | more todo' env' H1 m1 =>
      simp only at h2
      cases hen : enters dp todo with
      | true =>
        simp only [hen] at h2
        obtain ⟨rfl, rfl, rfl⟩ := pure_ok h2
        exact hs
      | false =>
        simp only [hen] at h2
        have hs : GoesTo P f todo env H x.nl todo' env' H1 y1.nl := hs
        have := evTill_ok B F dp n h2 hd.2 hs.2.1 hs.2.2.1 (Nat.le_trans hg hs.1)
        cases o with
        | ret v H2 m2 => exact hs.runs this
        | more t2 e2 H2 m2 => exact hs.trans this

def loopsOf : Code → List Item → List (List Item)
  | .seq a b, k => loopsOf a (.code b :: k) ++ loopsOf b k
  | .cond _ x y, k => loopsOf x k ++ loopsOf y k
  | .block id b, k => loopsOf b (.inBlock id :: k)
  | .loop b, k => (.code b :: .inLoop b :: k) :: loopsOf b (.inLoop b :: k)
  | .scope b, k => loopsOf b (.inScope b :: k)
  | _, _ => []

def bodyOf (fn : Func) : Code := fn.body.getD .skip

def headOf (fn : Func) (i : Nat) : List Item := (nth (loopsOf (bodyOf fn) []) i).getD []

def atRest (fn : Func) (k : Nat) : Nat := lenC (dropC k (bodyOf fn)) + 1000

def behind (fn : Func) (i : Nat) : Nat := (headOf fn i).length - 2

def isMore (r : R Out) (Φ : List Item → List SV → List Ent → Nat → Conds → Prop) : Prop :=
  match r with
  | .ok (.more t e H _) d y => Φ t e H y.nl d
  | _ => False

def isEnd (r : R Out) (Φ : SV → List Ent → Nat → Conds → Prop) : Prop :=
  match r with
  | .ok (.ret v H _) d y => Φ v H y.nl d
  | _ => False


def wfState (n : Nat) (env : List SV) (H : List Ent) : Bool := if argsBelow n env then entsBelow n H else false

theorem wfState_ok {n : Nat} {env : List SV} {H : List Ent} (h : wfState n env H = true) : WFe env n ∧ WFh (look H) n := by
  unfold wfState at h
  split at h
  · rename_i h1
    exact ⟨fun t s hs l hl => argsBelow_ok h1 s (by rw [nth_eq] at hs; exact List.mem_of_getElem? hs) l hl, WFh.ents h⟩
  · cases h

def moreP (todo' : List Item) (σ : Sg) (k : Nat) (lc : List (Nat × SV)) (Hc : List Ent) (n' : Nat) (t : List Item) (e : List SV) (H' : List Ent) (m : Nat) (c : Conds) : Prop :=
  OkL c ∧ t = todo' ∧ onB (Nat.ble m n') (onB (Nat.beq e.length k) (fitE σ lc e ∧ fitH σ Hc H'))

structure More (P : Program) (S : List (FuncId × Summ)) (F d N : Nat) (f : FuncId) (todo : List Item) (env : List SV) (H : List Ent) (o : List Hint) (n1 : Nat) (todo' : List Item) (σ : Sg) (k : Nat) (lc : List (Nat × SV)) (Hc : List Ent) (n' : Nat) : Prop where
  ok : isMore (evTill P S F d N f todo env H ⟨o, n1⟩) (moreP todo' σ k lc Hc n')

theorem More.of {P : Program} {S : List (FuncId × Summ)} {F d N : Nat} {f : FuncId} {todo : List Item} {env : List SV} {H : List Ent} {o : List Hint} {n1 : Nat} {todo' : List Item} {σ : Sg} {k : Nat} {lc : List (Nat × SV)} {Hc : List Ent} {n' : Nat} {A : Prop}
    (e : isMore (evTill P S F d N f todo env H ⟨o, n1⟩) (moreP todo' σ k lc Hc n') = A) (a : A) : More P S F d N f todo env H o n1 todo' σ k lc Hc n' := More.mk (e.symm.mp a)

def endP (σ : Sg) (v : SV) (Hc : List Ent) (n' : Nat) (u : SV) (H' : List Ent) (m : Nat) (c : Conds) : Prop := OkL c ∧ onB (Nat.ble m n') (fitS σ v u ∧ fitH σ Hc H')

structure Ends (P : Program) (S : List (FuncId × Summ)) (F d N : Nat) (f : FuncId) (todo : List Item) (env : List SV) (H : List Ent) (o : List Hint) (n1 : Nat) (σ : Sg) (v : SV) (Hc : List Ent) (n' : Nat) : Prop where
  ok : isEnd (evTill P S F d N f todo env H ⟨o, n1⟩) (endP σ v Hc n')

theorem Ends.of {P : Program} {S : List (FuncId × Summ)} {F d N : Nat} {f : FuncId} {todo : List Item} {env : List SV} {H : List Ent} {o : List Hint} {n1 : Nat} {σ : Sg} {v : SV} {Hc : List Ent} {n' : Nat} {A : Prop}
    (e : isEnd (evTill P S F d N f todo env H ⟨o, n1⟩) (endP σ v Hc n') = A) (a : A) : Ends P S F d N f todo env H o n1 σ v Hc n' := Ends.mk (e.symm.mp a)

theorem runs_more {P : Program} {S : List (FuncId × Summ)} (B : Base0 P S) {F d N : Nat} {f : FuncId} {todo : List Item} {env : List SV} {X Y : List Ent} {o : List Hint} {n n1 n' : Nat} {todo' : List Item} {σ : Sg} {k : Nat} {lc : List (Nat × SV)} {Hc : List Ent} {v : SV} {L' : HF}
    (h : More P S F d N f todo env (X ++ Y) o n1 todo' σ k lc Hc n') (hX : sharedB n X = true) (hw : wfState n1 env (X ++ Y) = true) (hk : keysIn n n' σ = true) (hg : gtop P ≤ n) (h1 : n ≤ n1)
    (b : RunsTo P f todo' (envAt k lc) (look (X ++ Hc)) n v L' n') : RunsTo P f todo env (look (X ++ Y)) n v L' n' := by
  obtain ⟨h⟩ := h
  unfold isMore at h
  split at h
  · rename_i t e H' m c y hr
    obtain ⟨c1, c2, c3⟩ := h
    obtain ⟨c3, c4⟩ := onB_ok c3
    obtain ⟨c4, c5, c6⟩ := onB_ok c4
    subst c2
    obtain ⟨w1, w2⟩ := wfState_ok hw
    have hgo : GoesTo P f todo env (X ++ Y) n1 t e H' y.nl := evTill_ok B F d N hr c1 w1 w2 (Nat.le_trans hg h1)
    exact hgo.fit hX c5 (Nat.eq_of_beq_eq_true c4) c6 hk hg h1 (by rwa [Nat.ble_eq] at c3) b
  · exact h.elim

theorem runs_last {P : Program} {S : List (FuncId × Summ)} (B : Base0 P S) {F d N : Nat} {f : FuncId} {todo : List Item} {env : List SV} {H : List Ent} {o : List Hint} {n n1 n' : Nat} {σ : Sg} {Hc : List Ent} {v : SV}
    (h : Ends P S F d N f todo env H o n1 σ v Hc n') (hw : wfState n1 env H = true) (hk : keysIn n n' σ = true) (hg : gtop P ≤ n) (h1 : n ≤ n1) : RunsTo P f todo env (look H) n v (look Hc) n' := by
  obtain ⟨h⟩ := h
  unfold isEnd at h
  split at h
  · rename_i u H' m c y hr
    obtain ⟨c1, c3⟩ := h
    obtain ⟨c3, c5, c6⟩ := onB_ok c3
    obtain ⟨w1, w2⟩ := wfState_ok hw
    have hgo : RunsTo P f todo env (look H) n1 u (look H') y.nl := evTill_ok B F d N hr c1 w1 w2 (Nat.le_trans hg h1)
    exact hgo.out c5 c6 hk h1 (by rwa [Nat.ble_eq] at c3)
  · exact h.elim

end Go.Sx
