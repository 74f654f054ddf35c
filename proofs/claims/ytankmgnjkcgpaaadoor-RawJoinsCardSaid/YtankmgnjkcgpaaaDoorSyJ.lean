/- The engine, part 19: regions in the text's order. -/
import Derived.Test.YtankmgnjkcgpaaaDoorSyI
set_option linter.unusedSimpArgs false
set_option linter.unusedVariables false
namespace Go.Sx

structure Base (P : Program) (S : List (FuncId × Summ)) (go : Go) : Prop where
  good : PGood P
  go : GoOK P go
  sums : SumsOK P S
  body : ∀ f, (sumOf S f).isSome → ∃ fn : Func, P.funcs[f]? = some fn ∧ fn.body.isSome = true

def recOf (ops : List Oper) (ev : Ev) : Rec :=
  ⟨ev.o.dst, looksOf ops ev.o, ev.e.rd, (ev.e.upd.map (·.lab) ++ ev.e.drop) ++ upto ev.n (ev.n' - ev.n), ev.e.v.labs ++ ev.e.upd.flatMap (·.t.labs)⟩

structure OpFact (P : Program) (ops : List Oper) (ev : Ev) : Prop where
  le : ev.n ≤ ev.n'
  nd : (ev.e.upd.map (·.lab)).Nodup
  vlabs : ∀ l ∈ ev.e.v.labs, l < ev.n'
  ulabs : ∀ z ∈ ev.e.upd, z.lab < ev.n' ∧ ∀ k ∈ z.t.labs, k < ev.n'
  wfh : WFh (look ev.H) ev.n
  wfe : WFe ev.env ev.n
  wanted : ∀ (ρ : Con) (tmps : Array Value), (∀ t s, t ∈ looksOf ops ev.o → nth ev.env t = some s → s.isJ = false → tmps[t]? = some (s.val ρ)) → Region.wanted ev.o (yielded ops.toArray tmps) = ev.want
  does : ev.want = true → ∀ (f : Operand → Value) (ρ : Con) (w : World), (∀ z ∈ ev.o.op.operands.toList, OpdOK P ρ ev.env f z) → GlobOK P ρ → HpS ρ ev.H ev.e.rd w → DoesW P ρ ev.n ev.n' ev.H ev.e w ((execOp f ev.o).run P w)
  skip : ev.want = false → ev.e = ⟨.tup [], [], [], []⟩ ∧ ev.n' = ev.n

def TraceOK (P : Program) (ops : List Oper) : List Oper → List SV → List Ent → Nat → List Ev → List SV → List Ent → Nat → Prop
  | [], env, H, n, [], env', H', n' => env' = env ∧ H' = H ∧ n' = n
  | o :: r, env, H, n, ev :: tr, env', H', n' =>
    ev.o = o ∧ ev.H = H ∧ ev.n = n ∧ ev.env.length = env.length ∧ (∀ E, LitOf E env → LitOf E ev.env) ∧ OpFact P ops ev ∧
      TraceOK P ops r (putS ev.env o.dst ev.e.v) (applyE H ev.e) ev.n' tr env' H' n'
  | _, _, _, _, _, _, _, _ => False

theorem entsBelow_ok {n : Nat} : ∀ {u : List Ent}, entsBelow n u = true → ∀ z ∈ u, z.lab < n ∧ ∀ k ∈ z.t.labs, k < n
  | [], _, z, hz => by simp at hz
  | x :: r, h, z, hz => by
    simp only [entsBelow] at h
    split at h
    · rename_i h1
      split at h
      · rename_i h2
        rcases List.mem_cons.1 hz with rfl | hz
        · exact ⟨by simpa [Nat.blt_eq] using h1, below_ok h2⟩
        · exact entsBelow_ok h z hz
      · simp at h
    · simp at h

theorem WFe.put {env : List SV} {n m : Nat} (h : WFe env n) (hnm : n ≤ m) (d : Option Nat) (v : SV) (hv : ∀ l ∈ v.labs, l < m) : WFe (putS env d v) m := by
  intro t s hts l hl
  rw [nth_putS] at hts
  unfold putE' at hts
  split at hts
  · simp only [Option.some.injEq] at hts; subst hts; exact hv l hl
  · have := h t s hts l hl; omega

theorem WFh.apply {H : List Ent} {n m : Nat} {e : Eff} (h : WFh (look H) n) (hnm : n ≤ m) (hnd : (e.upd.map (·.lab)).Nodup) (hu : ∀ z ∈ e.upd, z.lab < m ∧ ∀ k ∈ z.t.labs, k < m) : WFh (look (applyE H e)) m := by
  intro l x hx
  rw [look_applyE H e hnd] at hx
  unfold applyF at hx
  split at hx
  · rename_i y hy
    simp only [Option.some.injEq] at hx; subst hx
    have := hu _ (look_mem hy)
    rw [look_lab hy] at this; exact this
  · split at hx
    · cases hx
    · obtain ⟨h1, h2⟩ := h l x hx
      exact ⟨by omega, fun k hk => by have := h2 k hk; omega⟩

theorem nlOf_ok {x y : Aux} {n : Nat} {d : Conds} (h : nlOf x = .ok n d y) : n = x.nl ∧ d = [] ∧ x = y := by
  simp only [nlOf, R.ok.injEq] at h; exact ⟨h.1.symm, h.2.1.symm, h.2.2⟩

theorem regionL_trace {P : Program} {S : List (FuncId × Summ)} {go : Go} (B : Base P S go) (ops : List Oper) : ∀ (rest : List Oper) (env : List SV) (H : List Ent) (x y : Aux) (env' : List SV) (H' : List Ent) (rs : List Rec) (d : Conds),
    evRegionL P S go ops rest env H x = .ok (env', H', rs) d y → OkL d → WFe env x.nl → WFh (look H) x.nl → gtop P ≤ x.nl →
    ∃ tr, TraceOK P ops rest env H x.nl tr env' H' y.nl ∧ rs = tr.map (recOf ops) ∧ WFe env' y.nl ∧ WFh (look H') y.nl ∧ x.nl ≤ y.nl ∧ env'.length = env.length
  | [], env, H, x, y, env', H', rs, d, h, hd, he, hh, hg => by
    obtain ⟨h1, rfl, rfl⟩ := pure_ok h
    simp only [Prod.mk.injEq] at h1
    obtain ⟨rfl, rfl, rfl⟩ := h1
    exact ⟨[], ⟨rfl, rfl, rfl⟩, rfl, he, hh, Nat.le_refl _, rfl⟩
  | o :: r, env, H, x, y, env', H', rs, d, h, hd, he, hh, hg => by
    simp only [evRegionL] at h
    obtain ⟨n, c1, y1, c2, h1, h2, rfl⟩ := bind_ok h
    obtain ⟨rfl, rfl, rfl⟩ := nlOf_ok h1
    obtain ⟨⟨wt, env1⟩, c3, y3, c4, h3, h4, rfl⟩ := bind_ok h2
    simp only [OkL_append] at hd
    obtain ⟨g1, g2, g3, g4, g5⟩ := evGuard_ok h3 hd.2.1
    have he1 := g4 _ he
    cases wt
    · simp only at h4
      obtain ⟨⟨env2, H2, rs2⟩, c5, y5, c6, h5, h6, rfl⟩ := bind_ok h4
      obtain ⟨h7, rfl, rfl⟩ := pure_ok h6
      simp only [Prod.mk.injEq] at h7
      obtain ⟨rfl, rfl, rfl⟩ := h7
      simp only [OkL_append] at hd
      obtain ⟨tr, t1, t2, t3, t4, t5, t6⟩ := regionL_trace B ops r _ _ _ _ _ _ _ _ h5 hd.2.2.1 (by rw [g1]; exact he1.put (Nat.le_refl _) _ _ (by intro l hl; simp [SV.labs, labsL] at hl)) (by rw [g1]; exact hh) (by omega)
      refine ⟨⟨o, false, env1, H, ⟨.tup [], [], [], []⟩, x.nl, x.nl⟩ :: tr, ⟨rfl, rfl, rfl, g2, g3, ?_, ?_⟩, ?_, t3, t4, by omega, by rw [t6, putS_length]; exact g2⟩
      · exact ⟨Nat.le_refl _, List.nodup_nil, by intro l hl; simp [SV.labs, labsL] at hl, by intro z hz; simp at hz, hh, he1, g5, by intro h; simp at h, fun _ => ⟨rfl, rfl⟩⟩
      · rw [g1] at t1; exact t1
      · simp only [List.map_cons, t2, recOf]
        simp [SV.labs, labsL, upto]
    · simp only at h4
      obtain ⟨e, c5, y5, c6, h5, h6, rfl⟩ := bind_ok h4
      obtain ⟨m, c7, y7, c8, h7, h8, rfl⟩ := bind_ok h6
      obtain ⟨rfl, rfl, rfl⟩ := nlOf_ok h7
      obtain ⟨_, c9, y9, c10, h9, h10, rfl⟩ := bind_ok h8
      obtain ⟨hb1, rfl, rfl⟩ := chk_ok h9
      obtain ⟨_, c9, y9, c11, h9, h11, rfl⟩ := bind_ok h10
      obtain ⟨hb2, rfl, rfl⟩ := chk_ok h9
      obtain ⟨_, c9, y9, c12, h9, h12, rfl⟩ := bind_ok h11
      obtain ⟨hb3, rfl, rfl⟩ := chk_ok h9
      obtain ⟨⟨env2, H2, rs2⟩, c13, y13, c14, h13, h14, rfl⟩ := bind_ok h12
      obtain ⟨h15, rfl, rfl⟩ := pure_ok h14
      simp only [Prod.mk.injEq] at h15
      obtain ⟨rfl, rfl, rfl⟩ := h15
      simp only [OkL_append] at hd
      have hb1 := below_ok hb1
      have hb2 := entsBelow_ok hb2
      have hb3 := nodupB_ok hb3
      obtain ⟨hle, hdoes⟩ := evOper_ok h5 hd.2.2.1 B.good B.go B.sums B.body (by rw [g1]; exact he1) (by rw [g1]; exact hh) (by rw [g1]; exact hg)
      rw [g1] at hle hdoes
      obtain ⟨tr, t1, t2, t3, t4, t5, t6⟩ := regionL_trace B ops r _ _ _ _ _ _ _ _ h13 hd.2.2.2.2.2.2.2.1 (he1.put hle _ _ hb1) (hh.apply hle hb3 hb2) (by omega)
      refine ⟨⟨o, true, env1, H, e, x.nl, y5.nl⟩ :: tr, ⟨rfl, rfl, rfl, g2, g3, ?_, t1⟩, ?_, t3, t4, by omega, by rw [t6, putS_length]; exact g2⟩
      · exact ⟨hle, hb3, hb1, hb2, hh, he1, g5, fun _ => hdoes, by intro h; simp at h⟩
      · simp only [List.map_cons, t2, recOf]

theorem SlotsOK.lits {ρ : Con} {env env1 : List SV} {tmps : Array Value} (h : SlotsOK ρ (nth env) tmps) (hl : ∀ E, LitOf E env → LitOf E env1) : SlotsOK ρ (nth env1) tmps :=
  (hl _ (LitOf.refl env)).slots h

theorem trace_text {P : Program} {ops : List Oper} : ∀ (rest : List Oper) (env : List SV) (H : List Ent) (n : Nat) (tr : List Ev) (env' : List SV) (H' : List Ent) (n' : Nat),
    TraceOK P ops rest env H n tr env' H' n' → ∀ (ρ : Con) (a : Act) (w : World) (Q : Exit → Act → World → Prop), a.tmps.size = env.length → SlotsOK ρ (nth env) a.tmps → HoldF ρ (look H) w → GlobOK P ρ → gtop P ≤ n →
    (∀ ρ' a' w', a'.tmps.size = a.tmps.size → SlotsOK ρ' (nth env') a'.tmps → a'.defers = a.defers → Res ρ ρ' n n' (look H) (look H') w w' → GlobOK P ρ' → n ≤ n' → Q .normal a' w') → wpList P ops.toArray Q rest a w
  | [], env, H, n, [], env', H', n', h, ρ, a, w, Q, hsz, hs, hh, hG, hg, k => by
    obtain ⟨rfl, rfl, rfl⟩ := h
    exact k ρ a w rfl hs rfl (Res.refl hh) hG (Nat.le_refl _)
  | o :: r, env, H, n, ev :: tr, env', H', n', h, ρ, a, w, Q, hsz, hs, hh, hG, hg, k => by
    obtain ⟨rfl, rfl, rfl, hlen, hlit, F, hrest⟩ := h
    have hs1 := hs.lits hlit
    have hwant := F.wanted ρ a.tmps (fun t s _ hts hj => hs1 t s hts hj)
    unfold wpList
    rw [hwant]
    cases hw : ev.want with
    | false =>
      simp only [Bool.false_eq_true, if_false]
      obtain ⟨he, hn⟩ := F.skip hw
      rw [he, hn] at hrest
      refine trace_text r _ _ _ tr env' H' n' hrest ρ _ w Q (by rw [put_size, putS_length, hsz, hlen]) ?_ hh hG hg ?_
      · have := hs1.put (a := a) (len := ev.env.length) (by rw [hsz, hlen]) ev.o.dst (.tup []) undef (fun _ => rfl)
        intro t s hts hj
        rw [nth_putS] at hts
        exact this t s hts hj
      · intro ρ' a' w' g1 g2 g3 g4 g5 g6
        exact k ρ' a' w' (by rw [g1, put_size]) g2 (by rw [g3, put_defers]) g4 g5 g6
    | true =>
      simp only [if_true]
      left
      have hd := F.does hw a.eval ρ w (fun z _ => hs1.opd hG z) hG (hh.hps (fun _ _ => rfl))
      refine hd.wp (fun ρ' w' v hv heff => ?_)
      obtain ⟨hh', htouch⟩ := eff_apply hh (fun _ _ => rfl) heff F.nd (fun l x hx _ _ => ⟨.inl (F.wfh l x hx).1, fun k hk => .inl ((F.wfh l x hx).2 k hk)⟩)
      have hres : Res ρ ρ' ev.n ev.n' (look ev.H) (look (applyE ev.H ev.e)) w w' := by
        have hfun : look (applyE ev.H ev.e) = applyF (look ev.H) ev.e := funext (look_applyE ev.H ev.e F.nd)
        refine ⟨heff.agree, by rw [hfun]; exact hh', heff.frame.mono (fun k hk => .inl (let ⟨l, x, h1, h2, h3⟩ := htouch k hk; ⟨l, x, h1, h2, h3⟩)), ?_⟩
        rintro k ⟨l, x, h1, h2, h3⟩
        rw [hfun] at h1
        unfold applyF at h1
        split at h1
        · rename_i y hy
          simp only [Option.some.injEq] at h1; subst h1
          rcases heff.fresh _ (look_mem hy) k h3 with h4 | h4
          · left; obtain ⟨l', x', g1, g2, g3⟩ := htouch k h4; exact ⟨l', x', g1, g2, g3⟩
          · exact .inr h4
        · split at h1
          · cases h1
          · left
            refine ⟨l, x, h1, h2, ?_⟩
            exact (Ent.occ_agree (by rw [look_lab h1]; exact heff.agree l (.inl (F.wfh l x h1).1))).1 h3
      have hG' : GlobOK P ρ' := hG.agree (fun l hl => heff.agree l (.inl (by omega)))
      refine trace_text r _ _ _ tr env' H' n' hrest ρ' _ w' Q (by rw [put_size, putS_length, hsz, hlen]) ?_ hres.hold hG' (Nat.le_trans hg F.le) ?_
      · have h1 : SlotsOK ρ' (nth ev.env) a.tmps := hs1.agree (fun t s hts l hl => heff.agree l (.inl (F.wfe t s hts l hl)))
        have := h1.put (a := a) (len := ev.env.length) (by rw [hsz, hlen]) ev.o.dst ev.e.v v hv
        intro t s hts hj
        rw [nth_putS] at hts
        exact this t s hts hj
      · intro ρ'' a' w'' g1 g2 g3 g4 g5 g6
        exact k ρ'' a' w'' (by rw [g1, put_size]) g2 (by rw [g3, put_defers]) (hres.trans g4 F.le g6) g5 (Nat.le_trans F.le g6)
  | [], _, _, _, _ :: _, _, _, _, h, _, _, _, _, _, _, _, _, _, _ => h.elim
  | _ :: _, _, _, _, [], _, _, _, h, _, _, _, _, _, _, _, _, _, _ => h.elim

end Go.Sx
