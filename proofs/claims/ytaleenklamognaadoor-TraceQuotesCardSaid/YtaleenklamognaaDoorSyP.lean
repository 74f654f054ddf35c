/- The engine, part 25: summaries of calls that own nothing. -/
import Derived.Test.YtaleenklamognaaDoorSyO
set_option linter.unusedSimpArgs false
set_option linter.unusedVariables false
namespace Go.Sx

theorem callOK_pure {P : Program} {f : FuncId} {args : List SV} {H : List Ent} {n : Nat} {v : SV}
    (h : ∀ (ρ : Con) (w : World) (av : List Value), av.length = args.length → (∀ (t : Nat) (s : SV) (x : Value), args[t]? = some s → av[t]? = some x → s.isJ = false → x = s.val ρ) → GlobOK P ρ →
      Calls P f av.toArray w fun e w' => e = .returned (v.val ρ) ∧ RowKit.Below w.heap.size w w') : CallOK P f args H n ⟨v, [], [], []⟩ n := by
  refine ⟨Nat.le_refl _, fun ρ w av hlen hav hG hHp => ?_⟩
  refine (h ρ w av hlen hav hG).mono fun e w' ⟨he, hb⟩ => ?_
  refine ⟨ρ, _, he, fun _ => rfl, fun _ _ => rfl, fun x hx => (by cases hx), ⟨hb.os, hb.tape, hb.output, hb.size, fun k hk _ => hb.block k hk⟩, fun x hx => (by cases hx), fun x hx => (by cases hx)⟩

theorem below_mono {n m : Nat} (h : n ≤ m) : ∀ {l : List Nat}, below n l = true → ∀ k ∈ l, k < m := fun hb k hk => Nat.lt_of_lt_of_le (below_ok hb k hk) h

def argsBelow (n : Nat) : List SV → Bool
  | [] => true
  | a :: r => if below n a.labs then argsBelow n r else false

theorem argsBelow_ok {n : Nat} : ∀ {l : List SV}, argsBelow n l = true → ∀ a ∈ l, ∀ k ∈ a.labs, k < n
  | [], _, a, ha => by cases ha
  | x :: r, h, a, ha => by
    simp only [argsBelow] at h
    split at h
    · rename_i hb
      rcases List.mem_cons.1 ha with rfl | ha
      · exact below_ok hb
      · exact argsBelow_ok h a ha
    · cases h

theorem WFe.envOf {n m : Nat} {args : List SV} (h : argsBelow n args = true) : WFe (envOf args m) n := by
  intro t s hts l hl
  rw [nth_eq] at hts
  unfold Sx.envOf at hts
  rw [List.getElem?_append] at hts
  split at hts
  · exact argsBelow_ok h s (List.mem_of_getElem? hts) l hl
  · have := List.mem_of_getElem? hts
    rw [List.mem_replicate] at this
    rw [this.2] at hl
    simp [SV.labs, labsL] at hl

theorem WFh.ents {n : Nat} {H : List Ent} (h : entsBelow n H = true) : WFh (look H) n := fun l x hx => by
  have := entsBelow_ok h x (look_mem hx)
  rw [look_lab hx] at this
  exact this

structure Base0 (P : Program) (S : List (FuncId × Summ)) : Prop where
  good : PGood P
  sums : SumsOK P S
  body : ∀ f, (sumOf S f).isSome → ∃ fn : Func, P.funcs[f]? = some fn ∧ fn.body.isSome = true

theorem Base0.nil {P : Program} (h : PGood P) : Base0 P [] := ⟨h, fun f s hs => by simp [sumOf] at hs, fun f hs => by simp [sumOf] at hs⟩

theorem Base0.cons {P : Program} {S : List (FuncId × Summ)} (B : Base0 P S) {f : FuncId} {s : Summ} {fn : Func} (hfn : P.funcs[f]? = some fn) (hb : fn.body.isSome = true)
    (hs : ∀ args H x e d y, s args H x = .ok e d y → OkL d → (∀ a ∈ args, ∀ l ∈ a.labs, l < x.nl) → WFh (look H) x.nl → gtop P ≤ x.nl → CallOK P f args H x.nl e y.nl) : Base0 P ((f, s) :: S) := by
  refine ⟨B.good, fun g t hgt => ?_, fun g hgt => ?_⟩
  · simp only [sumOf] at hgt
    split at hgt
    · rename_i hb
      have := Nat.eq_of_beq_eq_true hb
      subst this
      simp only [Option.some.injEq] at hgt; subst hgt
      exact hs
    · exact B.sums g t hgt
  · simp only [sumOf] at hgt
    split at hgt
    · rename_i hb'
      have := Nat.eq_of_beq_eq_true hb'
      subst this
      exact ⟨fn, hfn, hb⟩
    · exact B.body g hgt

theorem good_of {P : Program} (h : (P.funcs.toList.all fun fn => !(fn.name == "runtime.NumGoroutine")) = true) (h2 : P.follows .mixedOrders = true) : PGood P :=
  ⟨fun f fn hf => by
    have := List.all_eq_true.1 h fn (List.mem_of_getElem? (by rw [Array.getElem?_toList]; exact hf))
    simpa using this, h2⟩

theorem calls_ev {P : Program} {S : List (FuncId × Summ)} (B : Base0 P S) {N : Nat} {f : FuncId} {fn : Func} {body : Code} {args : List SV} {H H' : List Ent} {n m k : Nat} {v : SV} {o : List Hint} {d : Conds} {y : Aux}
    (hfn : P.funcs[f]? = some fn) (hbody : fn.body = some body) (hk : fn.ntmps = k) (h : evRun P S N f [.code body] (envOf args k) H ⟨o, n⟩ = .ok (.ret v H' m) d y) (hd : OkL d)
    (ha : argsBelow n args = true) (hH : entsBelow n H = true) (hg : gtop P ≤ n) {ρ : Con} {w : World} {av : Array Value} (hlen : av.size = args.length)
    (hav : ∀ (t : Nat) (s : SV), args[t]? = some s → s.isJ = false → av[t]? = some (s.val ρ)) (hold : HoldF ρ (look H) w) (hG : GlobOK P ρ) :
    Calls P f av w fun e w' => ∃ ρ' vv, e = .returned vv ∧ (v.isJ = false → vv = v.val ρ') ∧ Res ρ ρ' n y.nl (look H) (look H') w w' := by
  subst hk
  exact calls_runs hfn hbody (evRun_ok B.good B.sums B.body N f _ _ _ _ _ _ _ _ _ h hd (WFe.envOf ha) (WFh.ents hH) hg) hlen hav hold hG

def isRet (r : R Out) (Φ : SV → Conds → Prop) : Prop :=
  match r with
  | .ok (.ret v _ _) d _ => Φ v d
  | _ => False

def evFn (P : Program) (S : List (FuncId × Summ)) (N : Nat) (f : FuncId) (fn : Func) (args : List SV) (H : List Ent) (o : List Hint) (n : Nat) : R Out :=
  evRun P S N f [.code (fn.body.getD .skip)] (envOf args fn.ntmps) H ⟨o, n⟩

def noneOwn : List Ent → Bool
  | [] => true
  | e :: r => if e.own then false else noneOwn r

theorem noneOwn_ok : ∀ {H : List Ent}, noneOwn H = true → ∀ l e, look H l = some e → e.own = false
  | [], _, l, e, h => by cases h
  | x :: r, h, l, e, he => by
    simp only [noneOwn] at h
    split at h
    · cases h
    · rename_i hx
      simp only [look] at he
      split at he
      · simp only [Option.some.injEq] at he; subst he; simpa using hx
      · exact noneOwn_ok h l e he

structure EvVal (P : Program) (S : List (FuncId × Summ)) (N : Nat) (f : FuncId) (fn : Func) (args : List SV) (H : List Ent) (o : List Hint) (n : Nat) (u : Value) : Prop where
  ok : isRet (evFn P S N f fn args H o n) fun v d => OkL d ∧ v.isJ = false ∧ ∀ ρ, v.val ρ = u

theorem EvVal.of {P : Program} {S : List (FuncId × Summ)} {N : Nat} {f : FuncId} {fn : Func} {args : List SV} {H : List Ent} {o : List Hint} {n : Nat} {u : Value} {A : Prop}
    (e : isRet (evFn P S N f fn args H o n) (fun v d => OkL d ∧ v.isJ = false ∧ ∀ ρ, v.val ρ = u) = A) (a : A) : EvVal P S N f fn args H o n u := EvVal.mk (e.symm.mp a)

theorem calls_val {P : Program} {S : List (FuncId × Summ)} (B : Base0 P S) {N : Nat} {f : FuncId} {fn : Func} {args : List SV} {H : List Ent} {n : Nat} {o : List Hint} {u : Value}
    (hfn : P.funcs[f]? = some fn) (hbody : fn.body.isSome = true) (h : EvVal P S N f fn args H o n u)
    (ha : argsBelow n args = true) (hH : entsBelow n H = true) (ho : noneOwn H = true) (hg : gtop P ≤ n) {ρ : Con} {w : World} {av : Array Value} (hlen : av.size = args.length)
    (hav : ∀ (t : Nat) (s : SV), args[t]? = some s → s.isJ = false → av[t]? = some (s.val ρ)) (hold : HoldF ρ (look H) w) (hG : GlobOK P ρ) :
    Calls P f av w fun e w' => e = .returned u ∧ RowKit.Below w.heap.size w w' := by
  obtain ⟨body, hb⟩ := Option.isSome_iff_exists.1 hbody
  have h := h.ok
  unfold isRet at h
  split at h
  · rename_i v H' m d y hr
    unfold evFn at hr
    rw [hb] at hr
    refine (calls_ev B hfn hb rfl hr h.1 ha hH hg hlen hav hold hG).mono fun e w' ⟨ρ', vv, he, hv, hres⟩ => ?_
    rw [he, hv h.2.1, h.2.2]
    exact ⟨rfl, hres.below (noneOwn_ok ho)⟩
  · exact h.elim

end Go.Sx
