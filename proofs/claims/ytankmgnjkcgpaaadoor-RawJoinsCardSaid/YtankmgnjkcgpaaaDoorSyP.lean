/- The engine, part 25: summaries of calls that own nothing. -/
import Derived.Test.YtankmgnjkcgpaaaDoorSyO
set_option linter.unusedSimpArgs false
set_option linter.unusedVariables false
namespace Go.Sx

def argsBelow (n : Nat) : List SV → Bool
  | [] => true
  | a :: r => if below n a.labs then argsBelow n r else false

theorem argsBelow_ok {n : Nat} : ∀ {l : List SV}, argsBelow n l = true → ∀ a ∈ l, ∀ k ∈ a.labs, k < n
  | [], _, a, ha => by cases ha
  | x :: r, h, a, ha => by
    simp only [argsBelow] at h
    split at h
    · rename_i hb
      rcases List.mem_cons.1 ha with rfl | ha
      · exact below_ok hb
      · exact argsBelow_ok h a ha
    · cases h

theorem WFe.envOf {n m : Nat} {args : List SV} (h : argsBelow n args = true) : WFe (envOf args m) n := by
  intro t s hts l hl
  rw [nth_eq] at hts
  unfold Sx.envOf at hts
  rw [List.getElem?_append] at hts
  split at hts
  · exact argsBelow_ok h s (List.mem_of_getElem? hts) l hl
  · have := List.mem_of_getElem? hts
    rw [List.mem_replicate] at this
    rw [this.2] at hl
    simp [SV.labs, labsL] at hl

theorem WFh.ents {n : Nat} {H : List Ent} (h : entsBelow n H = true) : WFh (look H) n := fun l x hx => by
  have := entsBelow_ok h x (look_mem hx)
  rw [look_lab hx] at this
  exact this

structure Base0 (P : Program) (S : List (FuncId × Summ)) : Prop where
  good : PGood P
  sums : SumsOK P S
  body : ∀ f, (sumOf S f).isSome → ∃ fn : Func, P.funcs[f]? = some fn ∧ fn.body.isSome = true

theorem Base0.nil {P : Program} (h : PGood P) : Base0 P [] := ⟨h, fun f s hs => by simp [sumOf] at hs, fun f hs => by simp [sumOf] at hs⟩

theorem Base0.cons {P : Program} {S : List (FuncId × Summ)} (B : Base0 P S) {f : FuncId} {s : Summ} {fn : Func} (hfn : P.funcs[f]? = some fn) (hb : fn.body.isSome = true)
    (hs : ∀ args H x e d y, s args H x = .ok e d y → OkL d → (∀ a ∈ args, ∀ l ∈ a.labs, l < x.nl) → WFh (look H) x.nl → gtop P ≤ x.nl → CallOK P f args H x.nl e y.nl) : Base0 P ((f, s) :: S) := by
  refine ⟨B.good, fun g t hgt => ?_, fun g hgt => ?_⟩
  · simp only [sumOf] at hgt
    split at hgt
    · rename_i hb
      have := Nat.eq_of_beq_eq_true hb
      subst this
      simp only [Option.some.injEq] at hgt; subst hgt
      exact hs
    · exact B.sums g t hgt
  · simp only [sumOf] at hgt
    split at hgt
    · rename_i hb'
      have := Nat.eq_of_beq_eq_true hb'
      subst this
      exact ⟨fn, hfn, hb⟩
    · exact B.body g hgt

theorem good_of {P : Program} (h : (P.funcs.toList.all fun fn => !(fn.name == "runtime.NumGoroutine")) = true) (h2 : P.follows .mixedOrders = true) : PGood P :=
  ⟨fun f fn hf => by
    have := List.all_eq_true.1 h fn (List.mem_of_getElem? (by rw [Array.getElem?_toList]; exact hf))
    simpa using this, h2⟩

def isRet (r : R Out) (Φ : SV → Conds → Prop) : Prop :=
  match r with
  | .ok (.ret v _ _) d _ => Φ v d
  | _ => False

def evFn (P : Program) (S : List (FuncId × Summ)) (N : Nat) (f : FuncId) (fn : Func) (args : List SV) (H : List Ent) (o : List Hint) (n : Nat) : R Out :=
  evRun P S N f [.code (fn.body.getD .skip)] (envOf args fn.ntmps) H ⟨o, n⟩

structure EvVal (P : Program) (S : List (FuncId × Summ)) (N : Nat) (f : FuncId) (fn : Func) (args : List SV) (H : List Ent) (o : List Hint) (n : Nat) (u : Value) : Prop where
  ok : isRet (evFn P S N f fn args H o n) fun v d => OkL d ∧ v.isJ = false ∧ ∀ ρ, v.val ρ = u

theorem EvVal.of {P : Program} {S : List (FuncId × Summ)} {N : Nat} {f : FuncId} {fn : Func} {args : List SV} {H : List Ent} {o : List Hint} {n : Nat} {u : Value} {A : Prop}
    (e : isRet (evFn P S N f fn args H o n) (fun v d => OkL d ∧ v.isJ = false ∧ ∀ ρ, v.val ρ = u) = A) (a : A) : EvVal P S N f fn args H o n u := EvVal.mk (e.symm.mp a)

end Go.Sx
