/- The engine, part 17: calls. -/
import Derived.Test.YtankmgnjkcgpaaaDoorSyGj
set_option linter.unusedSimpArgs false
set_option linter.unusedVariables false
namespace Go.Sx

def EnvOK (ρ : Con) (env : List SV) (tmps : Array Value) : Prop :=
  tmps.size = env.length ∧ ∀ t s, nth env t = some s → s.isJ = false → tmps[t]? = some (s.val ρ)

def WFe (env : List SV) (n : Nat) : Prop := ∀ t s, nth env t = some s → ∀ l ∈ s.labs, l < n
def WFh (L : HF) (n : Nat) : Prop := ∀ l x, L l = some x → l < n ∧ ∀ k ∈ x.t.labs, k < n

def OwnS (ρ : Con) (L : HF) (k : Nat) : Prop := ∃ l x, L l = some x ∧ x.own = true ∧ x.occ ρ k

structure Res (ρ ρ' : Con) (n n' : Nat) (L L' : HF) (w w' : World) : Prop where
  agree : ∀ l, (l < n ∨ n' ≤ l) → ρ' l = ρ l
  hold : HoldF ρ' L' w'
  frame : Fr (OwnS ρ L) w w'
  own : ∀ k, OwnS ρ' L' k → OwnS ρ L k ∨ w.heap.size ≤ k

theorem Res.refl {ρ : Con} {n : Nat} {L : HF} {w : World} (h : HoldF ρ L w) : Res ρ ρ n n L L w w := ⟨fun _ _ => rfl, h, Fr.refl _ _, fun _ hk => .inl hk⟩

theorem Res.trans {ρ1 ρ2 ρ3 : Con} {n1 n2 n3 : Nat} {L1 L2 L3 : HF} {w1 w2 w3 : World} (a : Res ρ1 ρ2 n1 n2 L1 L2 w1 w2) (b : Res ρ2 ρ3 n2 n3 L2 L3 w2 w3) (h12 : n1 ≤ n2) (h23 : n2 ≤ n3) : Res ρ1 ρ3 n1 n3 L1 L3 w1 w3 :=
  ⟨fun l hl => (b.agree l (by omega)).trans (a.agree l (by omega)), b.hold, a.frame.trans b.frame a.own, fun k hk => by
    rcases b.own k hk with h | h
    · exact a.own k h
    · right; have := a.frame.size; omega⟩

def RunsTo (P : Program) (f : FuncId) (todo : List Item) (env : List SV) (L : HF) (n : Nat) (v : SV) (L' : HF) (n' : Nat) : Prop :=
  n ≤ n' ∧ ∀ (ρ : Con) (w : World) (b : Frame) (a : Act) (cs : List Frame), b.fn = f → b.kind = .normal → a.defers = [] → EnvOK ρ env a.tmps → HoldF ρ L w → GlobOK P ρ →
    ∃ ρ' w' fr vv, Steps P (lone (b.at a todo) cs w) (lone fr cs w') ∧ fr.leaving P w' (.returned vv) ∧ fr.fn = f ∧ (v.isJ = false → vv = v.val ρ') ∧ Res ρ ρ' n n' L L' w w'

abbrev Go := FuncId → List Item → List SV → List Ent → M Out

def GoOK (P : Program) (go : Go) : Prop :=
  ∀ f todo env H x v H' m d y, go f todo env H x = .ok (.ret v H' m) d y → OkL d → WFe env x.nl → WFh (look H) x.nl → gtop P ≤ x.nl → RunsTo P f todo env (look H) x.nl v (look H') y.nl

def CallOK (P : Program) (f : FuncId) (args : List SV) (H : List Ent) (n : Nat) (e : Eff) (n' : Nat) : Prop :=
  n ≤ n' ∧ ∀ (ρ : Con) (w : World) (av : List Value), av.length = args.length → (∀ (i : Nat) (s : SV) (v : Value), args[i]? = some s → av[i]? = some v → s.isJ = false → v = s.val ρ) → GlobOK P ρ → HpS ρ H e.rd w →
    Calls P f av.toArray w fun en w' => ∃ ρ' v, en = .returned v ∧ (e.v.isJ = false → v = e.v.val ρ') ∧ EffOK ρ ρ' n n' H e w w'

def SumsOK (P : Program) (S : List (FuncId × Summ)) : Prop :=
  ∀ f s, sumOf S f = some s → ∀ args H x e d y, s args H x = .ok e d y → OkL d → (∀ a ∈ args, ∀ l ∈ a.labs, l < x.nl) → WFh (look H) x.nl → gtop P ≤ x.nl → CallOK P f args H x.nl e y.nl

def PGood (P : Program) : Prop := (∀ (f : Nat) (fn : Func), P.funcs[f]? = some fn → (fn.name == "runtime.NumGoroutine") = false) ∧ P.follows .mixedOrders = true

theorem nth_eq {α : Type} : ∀ (l : List α) (i : Nat), nth l i = l[i]?
  | [], i => by cases i <;> rfl
  | a :: r, 0 => rfl
  | a :: r, i + 1 => by simp [nth, nth_eq r i]

theorem look_partL (H : List Ent) (l : Nat) : ∀ ls : List Nat, look (partL H ls) l = if l ∈ ls then look H l else none
  | [] => by simp [partL, look]
  | a :: r => by
    simp only [partL]
    cases ha : look H a with
    | none =>
      simp only [look_partL H l r]
      by_cases h : l = a
      · subst h; simp [ha]
      · simp [h]
    | some e =>
      have hlab := look_lab ha
      simp only [look, look_partL H l r]
      by_cases h : l = a
      · subst h; rw [beqT hlab]; simp [ha]
      · rw [beqF (by rw [hlab]; exact fun e => h e.symm)]; simp [h]

theorem evCall_ok {P : Program} {S : List (FuncId × Summ)} {go : Go} {H : List Ent} {f : FuncId} {args : List SV} {x y : Aux} {e : Eff} {d : Conds} (h : evCall P S go H f args x = .ok e d y) (hd : OkL d)
    (hgo : GoOK P go) (hS : SumsOK P S) (hargs : ∀ a ∈ args, ∀ l ∈ a.labs, l < x.nl) (hH : WFh (look H) x.nl) (hg : gtop P ≤ x.nl) : CallOK P f args H x.nl e y.nl := by
  unfold evCall at h
  cases hs : sumOf S f with
  | some s => simp only [hs] at h; exact hS f s hs args H x e d y h hd hargs hH hg
  | none =>
    simp only [hs] at h
    obtain ⟨fn, c1, y1, c2, h1, h2, rfl⟩ := bind_ok h
    obtain ⟨hfn, rfl, rfl⟩ := opt_ok h1
    obtain ⟨body, c1, y1, c3, h1, h3, rfl⟩ := bind_ok h2
    obtain ⟨hbody, rfl, rfl⟩ := opt_ok h1
    (try simp only at h3)
    obtain ⟨o, c4, y4, c5, h4, h5, rfl⟩ := bind_ok h3
    cases o with
    | more _ _ _ _ => exact (fail_ok h5).elim
    | ret v H' m =>
      simp only at h5
      obtain ⟨_, c6, y6, c7, h6, h7, rfl⟩ := bind_ok h5
      obtain ⟨hnd, rfl, rfl⟩ := chk_ok h6
      obtain ⟨_, c6, y6, c8, h6, h8, rfl⟩ := bind_ok h7
      obtain ⟨hown, rfl, rfl⟩ := chk_ok h6
      obtain ⟨rfl, rfl, rfl⟩ := pure_ok h8
      have hnd := nodupB_ok hnd
      simp only [OkL_append] at hd
      generalize hls : dedup (withShared H (closure H 8 (labsSV args))) = ls at *
      have hl0 := look_partL H
      have hw0 : WFh (look (partL H ls)) x.nl := fun l z hz => by
        rw [hl0] at hz
        split at hz
        · exact hH l z hz
        · cases hz
      have hwe : WFe (envOf args fn.ntmps) x.nl := by
        intro t s hts l hl
        rw [nth_eq] at hts
        unfold envOf at hts
        rw [List.getElem?_append] at hts
        split at hts
        · exact hargs s (List.mem_of_getElem? hts) l hl
        · have := List.mem_of_getElem? hts
          rw [List.mem_replicate] at this
          rw [this.2] at hl
          simp [SV.labs, labsL] at hl
      obtain ⟨hnn, hrun⟩ := hgo f _ _ _ _ _ _ _ _ _ h4 hd.2.2.1 hwe hw0 hg
      refine ⟨hnn, fun ρ w av hlen hav hG hHp cs => ?_⟩
      let b : Frame := { (default : Frame) with fn := f, kind := .normal }
      have henter : Frame.enter P f av.toArray .normal = b.at { tmps := av.toArray ++ Array.replicate (fn.ntmps - av.toArray.size) undef, defers := [] } [.code body] := by
        simp [Frame.enter, Frame.at, hfn, hbody, b]
      have henv : EnvOK ρ (envOf args fn.ntmps) (av.toArray ++ Array.replicate (fn.ntmps - av.toArray.size) undef) := by
        refine ⟨by simp [envOf, hlen], fun t s hts hj => ?_⟩
        rw [nth_eq] at hts
        unfold envOf at hts
        rw [List.getElem?_append] at hts
        split at hts
        · rename_i hlt
          have hlt' : t < av.length := by omega
          rw [Array.getElem?_append_left (by simpa using hlt')]
          simp only [List.getElem?_toArray]
          rw [List.getElem?_eq_getElem hlt']
          exact congrArg some (hav t s _ hts (List.getElem?_eq_getElem hlt') hj)
        · rename_i hlt
          have hm := List.mem_of_getElem? hts
          rw [List.mem_replicate] at hm
          have hlt2 : t - args.length < (List.replicate (fn.ntmps - args.length) (SV.tup [])).length := by
            rcases Nat.lt_or_ge (t - args.length) (List.replicate (fn.ntmps - args.length) (SV.tup [])).length with h | h
            · exact h
            · rw [List.getElem?_eq_none h] at hts; cases hts
          simp only [List.length_replicate] at hlt2
          rw [Array.getElem?_append_right (by simp; omega)]
          simp only [List.size_toArray]
          rw [Array.getElem?_eq_getElem (by simp; omega)]
          simp [hm.2, SV.val, undef]
      have hhold : HoldF ρ (look (partL H ls)) w := by
        have hin : ∀ l z, look (partL H ls) l = some z → l ∈ (partL H ls).map (·.lab) ∧ look H l = some z := by
          intro l z hz
          refine ⟨?_, ?_⟩
          · have := look_mem hz
            exact List.mem_map.2 ⟨z, this, look_lab hz⟩
          · rw [hl0] at hz
            split at hz
            · exact hz
            · cases hz
        exact ⟨fun l z hz => look_lab hz, fun l z hz => hHp.hp l (hin l z hz).1 z (hin l z hz).2,
          fun l l' z z' hz hz' => hHp.sep l (hin l z hz).1 l' (hin l' z' hz').1 z z' (hin l z hz).2 (hin l' z' hz').2⟩
      obtain ⟨ρ', w', fr, vv, hst, hleave, hfr, hv, hres⟩ := hrun ρ w b { tmps := av.toArray ++ Array.replicate (fn.ntmps - av.toArray.size) undef, defers := [] } cs rfl rfl rfl henv hhold hG
      rw [← henter] at hst
      refine ⟨.returned vv, w', fr, ⟨ρ', vv, rfl, hv, ?_⟩, hst, hfr, hleave⟩
      -- the effect
      have hupdmem : ∀ z ∈ H'.filter (fun e => match look (partL H ls) e.lab with | some e0 => e0.own | none => true), look H' z.lab = some z ∧ z.own = true := by
        intro z hz
        refine ⟨look_of_mem hnd (List.mem_filter.1 hz).1, ?_⟩
        exact List.all_eq_true.1 hown z hz
      have htouch : ∀ k, OwnS ρ (look (partL H ls)) k → Touch ρ H ⟨v, H'.filter (fun e => match look (partL H ls) e.lab with | some e0 => e0.own | none => true), ((partL H ls).filter fun e => e.own && (look H' e.lab).isNone).map (·.lab), (partL H ls).map (·.lab)⟩ k := by
        rintro k ⟨l, z, hz, ho, hk⟩
        have hmem := look_mem hz
        have hlabz := look_lab hz
        refine ⟨l, z, ?_, ho, List.mem_map.2 ⟨z, hmem, hlabz⟩, ?_, hk⟩
        · rw [hl0] at hz
          split at hz
          · exact hz
          · cases hz
        · cases hq : look H' l with
          | none =>
            right
            exact List.mem_map.2 ⟨z, List.mem_filter.2 ⟨hmem, by simp [ho, hlabz, hq]⟩, hlabz⟩
          | some q =>
            left
            refine List.mem_map.2 ⟨q, List.mem_filter.2 ⟨look_mem hq, ?_⟩, look_lab hq⟩
            rw [look_lab hq, hz]; exact ho
      refine ⟨hres.agree, fun z hz => hres.hold.all z.lab z (hupdmem z hz).1, hres.frame.mono (fun k hk => .inl (htouch k hk)), ?_, ?_⟩
      · intro z hz k hk
        rcases hres.own k ⟨z.lab, z, (hupdmem z hz).1, (hupdmem z hz).2, hk⟩ with h | h
        · exact .inl (htouch k h)
        · exact .inr h
      · intro z hz z' hz' hne ho k hk
        exact hres.hold.sep z.lab z'.lab z z' (hupdmem z hz).1 (hupdmem z' hz').1 hne ho k hk

theorem calleeOf_ok {P : Program} {env : List SV} {c : Call} {f : FuncId} (h : calleeOf P env c = some f) : ∃ x, c.callee = .value x ∧ opd P env x = .v (.vr (.func (.func f) #[] #[])) := by
  unfold calleeOf at h
  cases hc : c.callee with
  | value x =>
    simp only [hc] at h
    refine ⟨x, rfl, ?_⟩
    cases ho : opd P env x with
    | v t =>
      simp only [ho] at h
      cases t with
      | vr v =>
        (try simp only at h)
        cases v with
        | func fn first captured =>
          cases fn with
          | func g =>
            simp only at h
            split at h
            · rename_i hb
              simp only [Bool.and_eq_true, Array.isEmpty_iff] at hb
              simp only [Option.some.injEq] at h
              rw [hb.1, hb.2, h]
            · cases h
          | _ => simp at h
        | _ => simp at h
      | _ => simp at h
    | _ => simp [ho] at h
  | _ => simp [hc] at h

theorem Does.of' {P : Program} {ρ : Con} {n n' : Nat} {H : List Ent} {e : Eff} {w : World} {r : Result Next} (hn : n' = n) (hu : e.upd = []) (hd : e.drop = []) (hr : r = .ok (.value (e.v.val ρ)) w) : Does P ρ n n' H e w r := by
  subst hn
  exact Does.comp hu hd hr

theorem closOf_ok {P : Program} {env : List SV} {c : Call} {f : FuncId} {u : Tr} (h : closOf P env c = some (f, u)) : ∃ x, c.callee = .value x ∧ opd P env x = .v (.vc f u) := by
  unfold closOf at h
  split at h
  · rename_i x hx
    split at h
    · rename_i g t ho
      simp only [Option.some.injEq, Prod.mk.injEq] at h
      obtain ⟨rfl, rfl⟩ := h
      exact ⟨x, hx, ho⟩
    · cases h
  · cases h

theorem evOper_ok {P : Program} {S : List (FuncId × Summ)} {go : Go} {env : List SV} {H : List Ent} {o : Oper} {x y : Aux} {e : Eff} {d : Conds} (h : evOper P S go env H o.op x = .ok e d y) (hd : OkL d)
    (hP : PGood P) (hgo : GoOK P go) (hS : SumsOK P S) (hbody : ∀ f, (sumOf S f).isSome → ∃ fn : Func, P.funcs[f]? = some fn ∧ fn.body.isSome = true) (henv : WFe env x.nl) (hH : WFh (look H) x.nl) (hg : gtop P ≤ x.nl) :
    x.nl ≤ y.nl ∧ ∀ (ev : Operand → Value) (ρ : Con) (w : World), (∀ z ∈ o.op.operands.toList, OpdOK P ρ env ev z) → GlobOK P ρ → HpS ρ H e.rd w →
      DoesW P ρ x.nl y.nl H e w ((execOp ev o).run P w) := by
  have plain : evOp P env H o.op x = .ok e d y → x.nl ≤ y.nl ∧ ∀ (ev : Operand → Value) (ρ : Con) (w : World), (∀ z ∈ o.op.operands.toList, OpdOK P ρ env ev z) → GlobOK P ρ → HpS ρ H e.rd w →
      DoesW P ρ x.nl y.nl H e w ((execOp ev o).run P w) := fun h => by
    obtain ⟨h1, h2⟩ := evOp_ok h hd
    exact ⟨h1, fun ev ρ w hz _ hp => .inl (h2 ev ρ w hz hp.hp)⟩
  unfold evOper at h
  cases hop : o.op with
  | call c =>
    rw [hop] at h
    simp only at h
    have hlabO : ∀ z : Operand, ∀ l ∈ (opd P env z).labs, l < x.nl := by
        intro z l hl
        cases z with
        | tmp t =>
          simp only [opd] at hl
          cases ht : nth env t with
          | none => simp [ht, SV.labs] at hl
          | some s => simp only [ht, Option.getD_some] at hl; exact henv t s ht l hl
        | const v =>
          have : (ofV v).labs = [] := by
            cases v with
            | pointer p => cases p <;> rfl
            | slice p n m => cases p <;> (try rfl); cases n <;> cases m <;> rfl
            | _ => rfl
          simp only [opd, this] at hl; cases hl
        | func f => simp [opd, SV.labs, Tr.labs] at hl
        | _ =>
          rename_i g
          simp only [opd] at hl
          split at hl
          · rename_i hlt
            simp [SV.labs, Tr.labs] at hl
            have : g < P.globals.size := by simpa [Nat.blt_eq] using hlt
            unfold gtop at hg
            omega
          · simp [SV.labs] at hl
    cases hc : calleeOf P env c with
    | none =>
      simp only [hc] at h
      cases hq : closOf P env c with
      | some p =>
        obtain ⟨f, u⟩ := p
        simp only [hq] at h
        obtain ⟨xo, hx1, hx2⟩ := closOf_ok hq
        have hlabs : ∀ a ∈ c.args.toList.map (opd P env) ++ [.v u], ∀ l ∈ a.labs, l < x.nl := by
          intro a ha l hl
          rcases List.mem_append.1 ha with ha | ha
          · obtain ⟨z, -, rfl⟩ := List.mem_map.1 ha
            exact hlabO z l hl
          · obtain rfl := List.mem_singleton.1 ha
            exact hlabO xo l (by rw [hx2]; exact hl)
        obtain ⟨hnn, hcall⟩ := evCall_ok h hd hgo hS hlabs hH hg
        have hfn : ∃ fn : Func, P.funcs[f]? = some fn ∧ fn.body.isSome = true := by
          cases hs : sumOf S f with
          | some s => exact hbody f (by rw [hs]; rfl)
          | none =>
            unfold evCall at h
            simp only [hs] at h
            obtain ⟨fn, c1, y1, c2, h1, h2, _⟩ := bind_ok h
            obtain ⟨body, c3, y3, c4, h3, _, _⟩ := bind_ok h2
            exact ⟨fn, (opt_ok h1).1, by rw [(opt_ok h3).1]; rfl⟩
        obtain ⟨fn, hfn1, hfn2⟩ := hfn
        refine ⟨hnn, fun ev ρ w hz hG hp => .inr ⟨f, (c.args.toList.map ev ++ [u.val ρ []]).toArray, ?_, ?_⟩⟩
        · have hev : ev xo = .func (.func f) #[] #[u.val ρ []] := (hz xo (by simp [Op.operands, Call.operands, hx1])).v hx2
          have hbn : fn.body.isNone = false := by cases hb : fn.body <;> simp_all
          have hargsA : Array.map ev c.args ++ #[u.val ρ []] = (c.args.toList.map ev ++ [u.val ρ []]).toArray := by apply Array.ext'; simp
          unfold execOp
          simp only [hop, resolve, hx1, hev, Deferred.ofValue, Sem.run_bind, Sem.run_pure, Result.andThen_ok, invoke, callFunc, run_program, hfn1, hP.1 f fn hfn1, Bool.false_eq_true, if_false, hbn, Array.append_empty, Array.empty_append, hargsA]
        · refine hcall ρ w (c.args.toList.map ev ++ [u.val ρ []]) (by simp) (fun i s v hs hv hj => ?_) hG hp
          by_cases hi : i < c.args.toList.length
          · rw [List.getElem?_append_left (by simpa using hi)] at hs hv
            simp only [List.getElem?_map] at hs hv
            cases hi : c.args.toList[i]? with
            | none => simp [hi] at hs
            | some z =>
              simp only [hi, Option.map_some, Option.some.injEq] at hs hv
              subst hs; subst hv
              exact hz z (by simp only [Op.operands, Call.operands, hx1, Array.toList_append]; exact List.mem_append_right _ (List.mem_of_getElem? hi)) hj
          · rw [List.getElem?_append_right (by simpa using hi)] at hs hv
            simp only [List.length_map] at hs hv
            cases hk : i - c.args.toList.length with
            | zero =>
              simp only [hk, List.getElem?_cons_zero, Option.some.injEq] at hs hv
              subst hs; subst hv; rfl
            | succ k => simp only [hk, List.getElem?_cons_succ, List.getElem?_nil] at hs; cases hs
      | none =>
        simp only [hq] at h
        rw [hop] at plain
        cases ha : appArgs c with
        | none => simp only [ha] at h; exact plain h
        | some p =>
          obtain ⟨sa, xa⟩ := p
          simp only [ha] at h
          have h' : evJoin P env (opd P env sa) (opd P env xa) o.op 3 H x = .ok e d y := by rw [hop]; exact h
          obtain ⟨h1, h2⟩ := evJoin_ok 3 h' hd (fun z _ => hlabO z) hH
          rw [hop] at h2
          exact ⟨h1, fun ev ρ w hz _ hp => .inl (h2 ev ρ w hz hp)⟩
    | some f =>
      simp only [hc] at h
      obtain ⟨xo, hx1, hx2⟩ := calleeOf_ok hc
      cases hq : extOf P f with
      | some k =>
        simp only [hq] at h
        obtain ⟨fn, hfn1, hbn, hnx, hfd⟩ := extOf_ok hq
        obtain ⟨g1, g2, g3, g4, g5⟩ := evExt_ok (P := P) h hd
        refine ⟨by omega, fun ev ρ w hz hG hp => .inl ?_⟩
        have hev : ev xo = .func (.func f) #[] #[] := (hz xo (by simp [Op.operands, Call.operands, hx1])).v hx2
        have hargsA : Array.map ev c.args = (c.args.toList.map ev).toArray := by apply Array.ext'; simp
        have hvals : c.args.toList.map ev = (c.args.toList.map (opd P env)).map fun a => a.un.val ρ := by
          rw [List.map_map]
          apply List.map_congr_left
          intro z hzm
          have hj := g4 (opd P env z) (List.mem_map.2 ⟨z, hzm, rfl⟩)
          rw [(SV.un_val ρ _).2] at hj
          have := hz z (by simp only [Op.operands, Call.operands, hx1, Array.toList_append]; exact List.mem_append_right _ hzm) hj
          simp only [Function.comp]
          exact this.trans (SV.un_val ρ (opd P env z)).1.symm
        refine Does.of' g1 g2 g3 ?_
        unfold execOp
        simp only [hop, resolve, hx1, hev, Deferred.ofValue, Sem.run_bind, Sem.run_pure, Result.andThen_ok, invoke, Array.append_empty, Array.empty_append, hargsA]
        rw [run_callFunc_extern hfn1 (hP.1 f fn hfn1) (by rw [hbn]; rfl) hnx hfd, hvals, g5 ρ w hp.hp]
        rfl
      | none =>
      simp only [hq] at h
      have hnj : ∀ (t : Tr), (opd P env xo) = .v t → (opd P env xo).isJ = false := fun t ht => by rw [ht]; rfl
      have hlabs : ∀ a ∈ c.args.toList.map (opd P env), ∀ l ∈ a.labs, l < x.nl := by
        intro a ha l hl
        obtain ⟨z, -, rfl⟩ := List.mem_map.1 ha
        exact hlabO z l hl
      obtain ⟨hnn, hcall⟩ := evCall_ok h hd hgo hS hlabs hH hg
      have hfn : ∃ fn : Func, P.funcs[f]? = some fn ∧ fn.body.isSome = true := by
        cases hs : sumOf S f with
        | some s => exact hbody f (by rw [hs]; rfl)
        | none =>
          unfold evCall at h
          simp only [hs] at h
          obtain ⟨fn, c1, y1, c2, h1, h2, _⟩ := bind_ok h
          obtain ⟨body, c3, y3, c4, h3, _, _⟩ := bind_ok h2
          exact ⟨fn, (opt_ok h1).1, by rw [(opt_ok h3).1]; rfl⟩
      obtain ⟨fn, hfn1, hfn2⟩ := hfn
      refine ⟨hnn, fun ev ρ w hz hG hp => .inr ⟨f, (c.args.toList.map ev).toArray, ?_, ?_⟩⟩
      · have hev : ev xo = .func (.func f) #[] #[] := (hz xo (by simp [Op.operands, Call.operands, hx1])).v hx2
        have hbn : fn.body.isNone = false := by cases hb : fn.body <;> simp_all
        have hargsA : Array.map ev c.args = (c.args.toList.map ev).toArray := by apply Array.ext'; simp
        unfold execOp
        simp only [hop, resolve, hx1, hev, Deferred.ofValue, Sem.run_bind, Sem.run_pure, Result.andThen_ok, invoke, callFunc, run_program, hfn1, hP.1 f fn hfn1, Bool.false_eq_true, if_false, hbn, Array.append_empty, Array.empty_append, hargsA]
      · refine hcall ρ w (c.args.toList.map ev) (by simp) (fun i s v hs hv hj => ?_) hG hp
        simp only [List.getElem?_map] at hs hv
        cases hi : c.args.toList[i]? with
        | none => simp [hi] at hs
        | some z =>
          simp only [hi, Option.map_some, Option.some.injEq] at hs hv
          subst hs; subst hv
          exact hz z (by simp only [Op.operands, Call.operands, hx1, Array.toList_append]; exact List.mem_append_right _ (List.mem_of_getElem? hi)) hj
  | _ =>
    rw [hop] at h plain
    exact plain h

end Go.Sx
