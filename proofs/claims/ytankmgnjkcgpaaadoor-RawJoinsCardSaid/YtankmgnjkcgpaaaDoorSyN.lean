/- The engine, part 23: the machine. -/
import Derived.Test.YtankmgnjkcgpaaaDoorSyM
set_option linter.unusedSimpArgs false
set_option linter.unusedVariables false
namespace Go.Sx

def resSem (tmps : Array Value) : ResultVar → Sem Value
  | .tmp t => pure (tmps.getD t undef)
  | .cell a t => do loadVar t (← asAddr (tmps.getD a undef))

theorem getD_of {tmps : Array Value} {t : Nat} {v : Value} (h : tmps[t]? = some v) : tmps.getD t undef = v := by
  rw [Array.getD_eq_getD_getElem?, h]; rfl

theorem load_of_at {P : Program} {t : TypeId} {v u : Value} {w : World} (h : (Instr.loadAt t v).run P w = .ok u w) : (do loadVar t (← asAddr v) : Sem Value).run P w = .ok u w := by
  cases v with
  | pointer p =>
    cases p with
    | none => simp [Instr.loadAt, Instr.sureAddr, Sem.run_bind] at h
    | some a => simpa [Instr.loadAt, Instr.sureAddr, asAddr, Sem.run_bind] using h
  | _ => simp [Instr.loadAt, Instr.sureAddr, Sem.run_bind] at h

theorem un_val (ρ : Con) (s : SV) : s.un.val ρ = s.val ρ := by cases s <;> rfl
theorem un_isJ (s : SV) : s.un.isJ = s.isJ := by cases s <;> rfl

theorem slot_val {ρ : Con} {env : List SV} {tmps : Array Value} (h : SlotsOK ρ (nth env) tmps) {t : Nat} {s : SV} (hs : ((nth env t).getD .junk).un = s) (hj : s.isJ = false) : tmps.getD t undef = s.val ρ := by
  cases hn : nth env t with
  | none => simp [hn] at hs; subst hs; simp [SV.un, SV.isJ] at hj
  | some s0 =>
    simp only [hn, Option.getD_some] at hs
    subst hs
    rw [un_isJ] at hj
    rw [un_val]
    exact getD_of (h t s0 hn hj)

theorem resOf_ok {P : Program} {env : List SV} {H : List Ent} : ∀ (l : List ResultVar) {x y : Aux} {v : List (Bool × Tr)} {d : Conds}, resOf P env H l x = .ok v d y → OkL d →
    y.nl = x.nl ∧ ∀ (ρ : Con) (w : World) (tmps : Array Value), SlotsOK ρ (nth env) tmps → HoldF ρ (look H) w → (l.mapM (resSem tmps)).run P w = .ok (v.map (bval ρ)) w
  | [], x, y, v, d, h, hd => by
    obtain ⟨rfl, rfl, rfl⟩ := pure_ok h
    exact ⟨rfl, fun ρ w tmps _ _ => by simp⟩
  | .tmp t :: r, x, y, v, d, h, hd => by
    simp only [resOf] at h
    cases hs : ((nth env t).getD .junk).un with
    | v u =>
      simp only [hs] at h
      obtain ⟨l, c1, y1, c2, h1, h2, rfl⟩ := bind_ok h
      obtain ⟨rfl, rfl, rfl⟩ := pure_ok h2
      simp only [OkL_append] at hd
      obtain ⟨g1, g2⟩ := resOf_ok r h1 hd.1
      refine ⟨g1, fun ρ w tmps hsl hH => ?_⟩
      have hv := slot_val hsl hs rfl
      rw [List.mapM_cons]
      simp only [resSem, hv, Sem.run_bind, Sem.run_pure, Result.andThen_ok, g2 ρ w tmps hsl hH, List.map_cons, bval, SV.val]
    | agg u =>
      simp only [hs] at h
      obtain ⟨l, c1, y1, c2, h1, h2, rfl⟩ := bind_ok h
      obtain ⟨rfl, rfl, rfl⟩ := pure_ok h2
      simp only [OkL_append] at hd
      obtain ⟨g1, g2⟩ := resOf_ok r h1 hd.1
      refine ⟨g1, fun ρ w tmps hsl hH => ?_⟩
      have hv := slot_val hsl hs rfl
      rw [List.mapM_cons]
      simp only [resSem, hv, Sem.run_bind, Sem.run_pure, Result.andThen_ok, g2 ρ w tmps hsl hH, List.map_cons, bval, SV.val]
    | _ => simp only [hs] at h; exact (fail_ok h).elim
  | .cell a t :: r, x, y, v, d, h, hd => by
    simp only [resOf] at h
    obtain ⟨e, c1, y1, c2, h1, h2, rfl⟩ := bind_ok h
    simp only [OkL_append] at hd
    obtain ⟨k1, k2, k3, k4, k5⟩ := opLoad_ok h1 hd.1
    have hslot : ((nth env a).getD .junk).isJ = false := by
      cases hs : (nth env a).getD .junk with
      | junk => rw [hs] at h1; simp only [opLoad] at h1; exact (fail_ok h1).elim
      | _ => rfl
    have key : ∀ (ρ : Con) (w : World) (tmps : Array Value), SlotsOK ρ (nth env) tmps → HoldF ρ (look H) w → (resSem tmps (.cell a t)).run P w = .ok (e.v.val ρ) w := by
      intro ρ w tmps hsl hH
      have h5 := k5 ρ w (fun l _ en he => hH.all l en he)
      have hv : tmps.getD a undef = ((nth env a).getD .junk).val ρ := by
        cases hn : nth env a with
        | none => rw [hn] at hslot; simp [SV.isJ] at hslot
        | some s0 => rw [hn] at hslot; exact getD_of (hsl a s0 hn hslot)
      simp only [resSem]
      rw [hv]
      exact load_of_at h5
    cases hev : e.v with
    | v u =>
      simp only [hev] at h2
      obtain ⟨l, c3, y3, c4, h3, h4, rfl⟩ := bind_ok h2
      obtain ⟨rfl, rfl, rfl⟩ := pure_ok h4
      simp only [OkL_append] at hd
      obtain ⟨g1, g2⟩ := resOf_ok r h3 hd.2.1
      refine ⟨by omega, fun ρ w tmps hsl hH => ?_⟩
      have hk := key ρ w tmps hsl hH
      rw [hev] at hk
      rw [List.mapM_cons, Sem.run_bind, hk]
      simp only [Sem.run_bind, Sem.run_pure, Result.andThen_ok, g2 ρ w tmps hsl hH, List.map_cons, bval, SV.val]
    | agg u =>
      simp only [hev] at h2
      obtain ⟨l, c3, y3, c4, h3, h4, rfl⟩ := bind_ok h2
      obtain ⟨rfl, rfl, rfl⟩ := pure_ok h4
      simp only [OkL_append] at hd
      obtain ⟨g1, g2⟩ := resOf_ok r h3 hd.2.1
      refine ⟨by omega, fun ρ w tmps hsl hH => ?_⟩
      have hk := key ρ w tmps hsl hH
      rw [hev] at hk
      rw [List.mapM_cons, Sem.run_bind, hk]
      simp only [Sem.run_bind, Sem.run_pure, Result.andThen_ok, g2 ρ w tmps hsl hH, List.map_cons, bval, SV.val]
    | _ => simp only [hev] at h2; exact (fail_ok h2).elim

theorem resultsOf_ok {P : Program} {f : FuncId} {env : List SV} {H : List Ent} {x y : Aux} {o : Out} {d : Conds} (h : resultsOf P f env H x = .ok o d y) (hd : OkL d) :
    y.nl = x.nl ∧ ∃ fn v m, P.funcs[f]? = some fn ∧ o = .ret v H m ∧ ∀ (ρ : Con) (w : World) (tmps : Array Value), SlotsOK ρ (nth env) tmps → HoldF ρ (look H) w → (results fn tmps).run P w = .ok (v.val ρ) w := by
  unfold resultsOf at h
  obtain ⟨fn, c1, y1, c2, h1, h2, rfl⟩ := bind_ok h
  obtain ⟨hfn, rfl, rfl⟩ := opt_ok h1
  obtain ⟨l, c3, y3, c4, h3, h4, rfl⟩ := bind_ok h2
  obtain ⟨m, c5, y5, c6, h5, h6, rfl⟩ := bind_ok h4
  obtain ⟨rfl, rfl, rfl⟩ := nlOf_ok h5
  simp only [OkL_append] at hd
  obtain ⟨g1, g2⟩ := resOf_ok _ h3 hd.2.1
  have run : ∀ (ρ : Con) (w : World) (tmps : Array Value), SlotsOK ρ (nth env) tmps → HoldF ρ (look H) w → (results fn tmps).run P w = .ok (if h : ((l.map (bval ρ)).toArray).size = 1 then ((l.map (bval ρ)).toArray)[0] else .tuple (l.map (bval ρ)).toArray) w := by
    intro ρ w tmps hs hH
    have hm : (fn.results.mapM (resSem tmps)).run P w = .ok (l.map (bval ρ)).toArray w := by
      rw [Array.mapM_eq_mapM_toList]
      rw [map_eq_pure_bind, Sem.run_bind, g2 ρ w tmps hs hH]
      simp
    have : results fn tmps = (do let vs ← fn.results.mapM (resSem tmps); pure (if h : vs.size = 1 then vs[0] else .tuple vs)) := by
      unfold results
      congr 1
    rw [this, Sem.run_bind, hm]
    simp only [Result.andThen_ok, Sem.run_pure]
  have out : ∀ v, o = .ret v H y3.nl → (∀ ρ, v.val ρ = (if h : ((l.map (bval ρ)).toArray).size = 1 then ((l.map (bval ρ)).toArray)[0] else .tuple (l.map (bval ρ)).toArray)) → ∃ fn v m, P.funcs[f]? = some fn ∧ o = .ret v H m ∧ ∀ (ρ : Con) (w : World) (tmps : Array Value), SlotsOK ρ (nth env) tmps → HoldF ρ (look H) w → (results fn tmps).run P w = .ok (v.val ρ) w :=
    fun v hv he => ⟨fn, v, _, hfn, hv, fun ρ w tmps hs hH => by rw [he]; exact run ρ w tmps hs hH⟩
  rcases l with _ | ⟨p, _ | ⟨q, r⟩⟩
  · obtain ⟨rfl, rfl, rfl⟩ := pure_ok h6
    exact ⟨g1, out _ rfl (fun ρ => by simp [SV.val])⟩
  · obtain ⟨g, t⟩ := p
    cases g
    · obtain ⟨rfl, rfl, rfl⟩ := pure_ok h6
      exact ⟨g1, out _ rfl (fun ρ => by simp [SV.val, bval])⟩
    · obtain ⟨rfl, rfl, rfl⟩ := pure_ok h6
      exact ⟨g1, out _ rfl (fun ρ => by simp [SV.val, bval])⟩
  · obtain ⟨g, t⟩ := p
    cases g <;>
    · obtain ⟨rfl, rfl, rfl⟩ := pure_ok h6
      exact ⟨g1, out _ rfl (fun ρ => by simp [SV.val])⟩

def GoesTo (P : Program) (f : FuncId) (todo : List Item) (env : List SV) (H : List Ent) (n : Nat) (todo' : List Item) (env' : List SV) (H' : List Ent) (n' : Nat) : Prop :=
  n ≤ n' ∧ WFe env' n' ∧ WFh (look H') n' ∧ env'.length = env.length ∧
  ∀ (ρ : Con) (w : World) (b : Frame) (a : Act) (cs : List Frame), b.fn = f → b.kind = .normal → a.defers = [] → EnvOK ρ env a.tmps → HoldF ρ (look H) w → GlobOK P ρ →
    ∃ ρ' w' a', Steps P (lone (b.at a todo) cs w) (lone (b.at a' todo') cs w') ∧ a'.defers = [] ∧ EnvOK ρ' env' a'.tmps ∧ Res ρ ρ' n n' (look H) (look H') w w' ∧ GlobOK P ρ'

def OutOK (P : Program) (f : FuncId) (todo : List Item) (env : List SV) (H : List Ent) (n : Nat) (o : Out) (n' : Nat) : Prop :=
  match o with
  | .more todo' env' H' _ => GoesTo P f todo env H n todo' env' H' n'
  | .ret v H' _ => RunsTo P f todo env (look H) n v (look H') n'

theorem GoesTo.trans {P : Program} {f : FuncId} {t1 t2 t3 : List Item} {e1 e2 e3 : List SV} {H1 H2 H3 : List Ent} {n1 n2 n3 : Nat} (a : GoesTo P f t1 e1 H1 n1 t2 e2 H2 n2) (b : GoesTo P f t2 e2 H2 n2 t3 e3 H3 n3) : GoesTo P f t1 e1 H1 n1 t3 e3 H3 n3 := by
  obtain ⟨a1, a2, a3, a4, a5⟩ := a
  obtain ⟨b1, b2, b3, b4, b5⟩ := b
  refine ⟨by omega, b2, b3, by omega, fun ρ w fr ac cs h1 h2 h3 h4 h5 h6 => ?_⟩
  obtain ⟨ρ', w', a', g1, g2, g3, g4, g5⟩ := a5 ρ w fr ac cs h1 h2 h3 h4 h5 h6
  obtain ⟨ρ'', w'', a'', k1, k2, k3, k4, k5⟩ := b5 ρ' w' fr a' cs h1 h2 g2 g3 g4.hold g5
  exact ⟨ρ'', w'', a'', g1.trans k1, k2, k3, g4.trans k4 a1 b1, k5⟩

theorem GoesTo.runs {P : Program} {f : FuncId} {t1 t2 : List Item} {e1 e2 : List SV} {H1 H2 : List Ent} {n1 n2 n3 : Nat} {v : SV} {L : HF} (a : GoesTo P f t1 e1 H1 n1 t2 e2 H2 n2) (b : RunsTo P f t2 e2 (look H2) n2 v L n3) : RunsTo P f t1 e1 (look H1) n1 v L n3 := by
  obtain ⟨a1, a2, a3, a4, a5⟩ := a
  obtain ⟨b1, b5⟩ := b
  refine ⟨by omega, fun ρ w fr ac cs h1 h2 h3 h4 h5 h6 => ?_⟩
  obtain ⟨ρ', w', a', g1, g2, g3, g4, g5⟩ := a5 ρ w fr ac cs h1 h2 h3 h4 h5 h6
  obtain ⟨ρ'', w'', fr', vv, k1, k2, k3, k4, k5⟩ := b5 ρ' w' fr a' cs h1 h2 g2 g3 g4.hold g5
  exact ⟨ρ'', w'', fr', vv, g1.trans k1, k2, k3, k4, g4.trans k5 a1 b1⟩

theorem goes_step {P : Program} {f : FuncId} {todo todo' : List Item} {env : List SV} {H : List Ent} {n : Nat} (he : WFe env n) (hh : WFh (look H) n)
    (h : ∀ (ρ : Con) (w : World) (b : Frame) (a : Act) (cs : List Frame), EnvOK ρ env a.tmps → GlobOK P ρ → step P (lone (b.at a todo) cs w) = .next (lone (b.at a todo') cs w)) : GoesTo P f todo env H n todo' env H n :=
  ⟨Nat.le_refl _, he, hh, rfl, fun ρ w b a cs h1 h2 h3 h4 h5 h6 => ⟨ρ, w, a, .one (h ρ w b a cs h4 h6), h3, h4, Res.refl h5, h6⟩⟩

theorem runs_end {P : Program} {f : FuncId} {todo : List Item} {env : List SV} {H : List Ent} {x y : Aux} {o : Out} {d : Conds} (h : resultsOf P f env H x = .ok o d y) (hd : OkL d)
    (hs : ∀ (b : Frame) (a : Act) (cs : List Frame) (w : World), step P (lone (b.at a todo) cs w) = .next (lone { b.at a todo with mode := .returning } cs w)) : OutOK P f todo env H x.nl o y.nl := by
  obtain ⟨g1, fn, v, m, g2, rfl, g3⟩ := resultsOf_ok h hd
  rw [g1]
  refine ⟨Nat.le_refl _, fun ρ w b a cs h1 h2 h3 h4 h5 h6 => ⟨ρ, w, _, v.val ρ, .one (hs b a cs w), ⟨rfl, h3, h2, fn, by rw [← g2, ← h1]; rfl, g3 ρ w a.tmps h4.2 h5⟩, h1, fun _ => rfl, Res.refl h5⟩⟩

theorem evStep_ok {P : Program} {S : List (FuncId × Summ)} {go : Go} (B : Base P S go) {f : FuncId} {todo : List Item} {env : List SV} {H : List Ent} {x y : Aux} {o : Out} {d : Conds}
    (h : evStep P S go f todo env H x = .ok o d y) (hd : OkL d) (he : WFe env x.nl) (hh : WFh (look H) x.nl) (hg : gtop P ≤ x.nl) : OutOK P f todo env H x.nl o y.nl := by
  have simple : ∀ {todo' : List Item} {x y : Aux} {o : Out} {d : Conds}, (do let n ← nlOf; pure (Out.more todo' env H n) : M Out) x = .ok o d y → WFe env x.nl → WFh (look H) x.nl →
      (∀ (ρ : Con) (w : World) (b : Frame) (a : Act) (cs : List Frame), EnvOK ρ env a.tmps → GlobOK P ρ → step P (lone (b.at a todo) cs w) = .next (lone (b.at a todo') cs w)) → OutOK P f todo env H x.nl o y.nl := by
    intro todo' x y o d h he hh hs
    obtain ⟨m, c1, y1, c2, h1, h2, rfl⟩ := bind_ok h
    obtain ⟨rfl, rfl, rfl⟩ := nlOf_ok h1
    obtain ⟨rfl, rfl, rfl⟩ := pure_ok h2
    exact goes_step he hh hs
  match todo, h, @simple with
  | [], h, _ => exact runs_end h hd (fun b a cs w => step_end)
  | .code .ret :: k, h, _ => exact runs_end h hd (fun b a cs w => step_ret)
  | .code .skip :: k, h, simple => exact simple h he hh (fun ρ w b a cs _ _ => step_skip)
  | .code (.label _) :: k, h, simple => exact simple h he hh (fun ρ w b a cs _ _ => step_label)
  | .inBlock _ :: k, h, simple => exact simple h he hh (fun ρ w b a cs _ _ => step_inBlock)
  | .inScope _ :: k, h, simple => exact simple h he hh (fun ρ w b a cs _ _ => step_inScope)
  | .code (.seq a b) :: k, h, simple => exact simple h he hh (fun ρ w b a cs _ _ => step_seq)
  | .code (.block id body) :: k, h, simple => exact simple h he hh (fun ρ w b a cs _ _ => step_block)
  | .code (.loop body) :: k, h, simple => exact simple h he hh (fun ρ w b a cs _ _ => step_loop)
  | .inLoop body :: k, h, simple => exact simple h he hh (fun ρ w b a cs _ _ => step_inLoop)
  | .code (.scope body) :: k, h, simple => exact simple h he hh (fun ρ w b a cs _ _ => step_scope)
  | .code (.exit id) :: k, h, simple =>
    simp only [evStep] at h
    obtain ⟨k', c1, y1, c2, h1, h2, rfl⟩ := bind_ok h
    obtain ⟨hk, rfl, rfl⟩ := opt_ok h1
    exact simple h2 he hh (fun ρ w b a cs _ _ => step_exit hk)
  | .code (.goto l) :: k, h, simple =>
    simp only [evStep] at h
    obtain ⟨k', c1, y1, c2, h1, h2, rfl⟩ := bind_ok h
    obtain ⟨hk, rfl, rfl⟩ := opt_ok h1
    exact simple h2 he hh (fun ρ w b a cs _ _ => step_goto hk)
  | .code (.cond c u v) :: k, h, simple =>
    have cond : ∀ {ρ : Con} {a : Act} {b : Bool} {s : SV}, EnvOK ρ env a.tmps → GlobOK P ρ → Sx.opd P env c = s → s.isJ = false → s.val ρ = .bool b → a.eval c = .bool b := by
      intro ρ a b s hE hG hs hj hv
      have := SlotsOK.opd hE.2 hG c (by rw [hs]; exact hj)
      rw [this, hs, hv]
    simp only [evStep] at h
    cases hs : Sx.opd P env c with
    | lb b =>
      simp only [hs] at h
      cases b
      · exact simple h he hh (fun ρ w fr a cs hE hG => step_cond (cond hE hG hs rfl rfl))
      · exact simple h he hh (fun ρ w fr a cs hE hG => step_cond (cond hE hG hs rfl rfl))
    | v t =>
      cases t with
      | vb g =>
        simp only [hs] at h
        obtain ⟨b, c1, y1, c2, h1, h2, rfl⟩ := bind_ok h
        simp only [OkL_append] at hd
        obtain ⟨h3, h4⟩ := ask_ok h1
        have h3 := h3 hd.1
        obtain ⟨m, c3, y3, c4, h5, h6, rfl⟩ := bind_ok h2
        obtain ⟨rfl, rfl, rfl⟩ := nlOf_ok h5
        have hv : ∀ ρ, (SV.v (.vb g)).val ρ = .bool b := fun ρ => by simp [SV.val, Tr.val, h3]
        cases b
        · obtain ⟨rfl, rfl, rfl⟩ := pure_ok h6
          rw [h4]
          exact goes_step he hh (fun ρ w fr a cs hE hG => step_cond (cond hE hG hs rfl (hv ρ)))
        · obtain ⟨rfl, rfl, rfl⟩ := pure_ok h6
          rw [h4]
          exact goes_step he hh (fun ρ w fr a cs hE hG => step_cond (cond hE hG hs rfl (hv ρ)))
      | _ => simp only [hs] at h; exact (fail_ok h).elim
    | _ => simp only [hs] at h; exact (fail_ok h).elim
  | .code (.region id ops draw) :: k, h, _ =>
    simp only [evStep] at h
    obtain ⟨⟨env', H'⟩, c1, y1, c2, h1, h2, rfl⟩ := bind_ok h
    simp only [OkL_append] at hd
    obtain ⟨m, c3, y3, c4, h5, h6, rfl⟩ := bind_ok h2
    obtain ⟨rfl, rfl, rfl⟩ := nlOf_ok h5
    obtain ⟨rfl, rfl, rfl⟩ := pure_ok h6
    obtain ⟨r1, r2, r3, r4, r5⟩ := region_ok (id := id) B h1 hd.1 he hh hg
    refine ⟨r1, r2, r3, r4, fun ρ w b a cs g1 g2 g3 g4 g5 g6 => ?_⟩
    obtain ⟨e, a', w', ⟨rfl, ρ', k1, k2, k3, k4⟩, harr⟩ := r5 ρ a w g4 g5 g6 b k cs
    exact ⟨ρ', w', a', harr, by rw [k2, g3], k1, k3, k4⟩

theorem evRun_ok {P : Program} {S : List (FuncId × Summ)} (hP : PGood P) (hS : SumsOK P S) (hb : ∀ f, (sumOf S f).isSome → ∃ fn : Func, P.funcs[f]? = some fn ∧ fn.body.isSome = true) : ∀ n, GoOK P (evRun P S n)
  | 0 => fun f todo env H x v H' m d y h => (fail_ok h).elim
  | n + 1 => by
    intro f todo env H x v H' m d y h hd he hh hg
    have ih := evRun_ok hP hS hb n
    simp only [evRun] at h
    obtain ⟨o, c1, y1, c2, h1, h2, rfl⟩ := bind_ok h
    simp only [OkL_append] at hd
    have hs := evStep_ok ⟨hP, ih, hS, hb⟩ h1 hd.1 he hh hg
    cases o with
    | ret v' H1 m1 =>
      simp only at h2
      obtain ⟨h3, rfl, rfl⟩ := pure_ok h2
      simp only [Out.ret.injEq] at h3
      obtain ⟨rfl, rfl, rfl⟩ := h3
      exact hs
    | more todo' env' H1 m1 =>
      simp only at h2
      have hs : GoesTo P f todo env H x.nl todo' env' H1 y1.nl := hs
      exact hs.runs (ih f todo' env' H1 y1 v H' m c2 y h2 hd.2 hs.2.1 hs.2.2.1 (Nat.le_trans hg hs.1))

end Go.Sx
