/- The engine, part 15: an operation that enters no function. -/
import Derived.Test.YtankmgnjkcgpaaaDoorSyE
set_option linter.unusedSimpArgs false
set_option linter.unusedVariables false
namespace Go.Sx

theorem opd_global {P : Program} {ρ : Con} {env : List SV} {a : Act} (hG : GlobOK P ρ) (g : Nat) : OpdOK P ρ env a.eval (.global g) := by
  intro hj
  simp only [opd] at hj ⊢
  split at hj
  · rename_i hlt
    have hlt : g < P.globals.size := by simpa [Nat.blt_eq] using hlt
    simp [Act.eval, SV.val, Tr.val, hG.at_ g hlt, offs]
  · simp [SV.isJ] at hj

theorem opd_const {P : Program} {ρ : Con} {env : List SV} {a : Act} (v : Value) : OpdOK P ρ env a.eval (.const v) := fun _ => (ofV_val ρ v).1.symm
theorem opd_func {P : Program} {ρ : Con} {env : List SV} {a : Act} (f : FuncId) : OpdOK P ρ env a.eval (.func f) := fun _ => rfl

theorem Does.of {P : Program} {ρ : Con} {n n' : Nat} {H : List Ent} {e : Eff} {w : World} {r : Result Next} {ρ' : Con} {w' : World} (hr : r = .ok (.value (e.v.val ρ')) w') (he : EffOK ρ ρ' n n' H e w w') : Does P ρ n n' H e w r :=
  ⟨ρ', w', _, .inl hr, fun _ => rfl, he⟩

theorem Does.comp {P : Program} {ρ : Con} {n : Nat} {H : List Ent} {e : Eff} {w : World} {r : Result Next} (hu : e.upd = []) (hd : e.drop = []) (hr : r = .ok (.value (e.v.val ρ)) w) : Does P ρ n n H e w r := by
  obtain ⟨v, u, dr, rd⟩ := e
  simp only at hu hd; subst hu; subst hd
  exact Does.pure hr (fun _ => rfl)

theorem opds {P : Program} {ρ : Con} {env : List SV} {ev : Operand → Value} {l : List Operand} (h : ∀ z ∈ l, OpdOK P ρ env ev z) (hj : ∀ z ∈ l, (opd P env z).isJ = false) :
    l.map ev = (l.map (opd P env)).map (SV.val ρ) := by
  induction l with
  | nil => rfl
  | cons a r ih =>
    simp only [List.map_cons]
    rw [h a (by simp) (hj a (by simp)), ih (fun z hz => h z (by simp [hz])) (fun z hz => hj z (by simp [hz]))]

theorem opLen_junk {P : Program} {t : TypeId} {ty : TypeId} {ts : Array TypeId} {z z' : Aux} {e : Eff} {d : Conds} (hts : ts[0]? = some t) (h : opLen P t .junk z = .ok e d z') :
    z = z' ∧ e.upd = [] ∧ e.drop = [] ∧ ∀ (x : Value) (ρ : Con) (w : World), (Builtin.len_ ts ty #[x]).run P w = .ok (e.v.val ρ) w := by
  unfold opLen at h
  obtain ⟨u, c1, y1, c2, h1, h2, rfl⟩ := bind_ok h
  obtain ⟨hu, rfl, rfl⟩ := und_ok h1
  cases u <;> simp only at h2 <;> first
    | exact (fail_ok h2).elim
    | (obtain ⟨rfl, rfl, rfl⟩ := pure_ok h2
       refine ⟨rfl, rfl, rfl, fun x ρ w => ?_⟩
       simp only [Builtin.len_, hts, Sem.run_bind, run_underlying hu, Result.andThen_ok, List.getElem?_toArray, List.getElem?_cons_zero]
       rfl)

theorem nilTest_ok {op : BinOp} {x y : SV} {neg : Bool} (h : nilTest op x y = some neg) : (∃ lab mem sz cuts len, x = .v (.vl lab mem sz cuts len)) ∧ y = .v .vl0 ∧ (op = .eql ∧ neg = false ∨ op = .neq ∧ neg = true) := by
  unfold nilTest at h
  split at h
  · simp only [Option.some.injEq] at h; subst h; exact ⟨⟨_, _, _, _, _, rfl⟩, rfl, .inl ⟨rfl, rfl⟩⟩
  · simp only [Option.some.injEq] at h; subst h; exact ⟨⟨_, _, _, _, _, rfl⟩, rfl, .inr ⟨rfl, rfl⟩⟩
  · cases h

theorem opNil_ok {P : Program} {H : List Ent} {op : BinOp} {neg : Bool} {t : TypeId} {X Y : Operand} {lab : Nat} {mem : Ix → Nat} {sz : Nat} {cuts : List Nat} {len : Ix → Nat} {z z' : Aux} {e : Eff} {d : Conds}
    (hop : op = .eql ∧ neg = false ∨ op = .neq ∧ neg = true) (h : opNil P H neg t (.v (.vl lab mem sz cuts len)) z = .ok e d z') (hd : OkL d) :
    z'.nl = z.nl ∧ e.upd = [] ∧ e.drop = [] ∧ ∀ (ρ : Con) (w : World), Hp ρ H e.rd w →
      (do eqGuard op t X Y (SV.val ρ (.v (.vl lab mem sz cuts len))) (SV.val ρ (.v .vl0)); binOp op t (SV.val ρ (.v (.vl lab mem sz cuts len))) (SV.val ρ (.v .vl0)) : Sem Value).run P w = .ok (e.v.val ρ) w := by
  unfold opNil at h
  obtain ⟨u, c1, y1, c2, h1, h2, rfl⟩ := bind_ok h
  obtain ⟨hu, rfl, rfl⟩ := und_ok h1
  obtain ⟨_, c3, y3, c4, h3, h4, rfl⟩ := bind_ok h2
  obtain ⟨hs, rfl, rfl⟩ := chk_ok h3
  obtain ⟨⟨m, t', is⟩, c5, y5, c6, h5, h6, rfl⟩ := bind_ok h4
  obtain ⟨hn0, en, hl, hw, ht, hts, hz, hlies, _⟩ := rowOf_ok h5
  simp only at h6
  obtain ⟨_, c7, y7, c8, h7, h8, rfl⟩ := bind_ok h6
  obtain ⟨hlen, hn1⟩ := need_ok h7
  obtain ⟨_, c9, y9, c10, h9, h10, rfl⟩ := bind_ok h8
  obtain ⟨hle, hn2⟩ := need_ok h9
  obtain ⟨rfl, rfl, rfl⟩ := pure_ok h10
  simp only [OkL_append] at hd
  have hlen : 0 < len [] := by simpa [Nat.blt_eq] using hlen hd.2.2.2.1
  have hle : sum cuts + len [] ≤ m := by simpa [Nat.ble_eq] using hle hd.2.2.2.2.1
  refine ⟨hn2.trans (hn1.trans hn0), rfl, rfl, fun ρ w hH => ?_⟩
  have hL := hlies hd.2.2.1 ρ w (hH lab (by simp) en hl)
  obtain ⟨hnil, _, _⟩ := hL.row hts hz (show 0 < m by omega)
  have hval : SV.val ρ (.v (.vl lab mem sz cuts len)) = SV.val (fun _ _ => ρ lab (mem [])) (.v (.va 0 [] sz (rsOf (ρ lab (mem [])).room cuts 0) (len []) ((ρ lab (mem [])).room - sum cuts))) := by
    simp [SV.val, Tr.val, hnil, offs]
  have hnv : SV.val ρ (.v .vl0) = SV.val (fun _ _ => ρ lab (mem [])) (.v .vl0) := rfl
  rw [hval, hnv]
  obtain ⟨el, rfl⟩ : ∃ el, u = .slice el := by cases u <;> simp_all [isSlice]
  have hb : opBin P op t (.v (.va 0 [] sz (rsOf (ρ lab (mem [])).room cuts 0) (len []) ((ρ lab (mem [])).room - sum cuts))) (.v .vl0) (isConst X || isConst Y) z = .ok (.val (.v (.vb fun _ => neg))) [] z := by
    rcases hop with ⟨rfl, rfl⟩ | ⟨rfl, rfl⟩
    · simp only [opBin, eqAny, und, hu]; rfl
    · simp only [opBin, eqAny, und, hu]; rfl
  have := (opBin_ok (X := X) (Y := Y) hb (by simp [OkL])).2.2.2.2.2.2 (fun _ _ => ρ lab (mem [])) w
  exact this

theorem evOp_ok {P : Program} {env : List SV} {H : List Ent} {o : Oper} {x y : Aux} {e : Eff} {d : Conds} (h : evOp P env H o.op x = .ok e d y) (hd : OkL d) :
    x.nl ≤ y.nl ∧ ∀ (ev : Operand → Value) (ρ : Con) (w : World), (∀ z ∈ o.op.operands.toList, OpdOK P ρ env ev z) → Hp ρ H e.rd w →
      Does P ρ x.nl y.nl H e w ((execOp ev o).run P w) := by
  obtain ⟨dst, op, type, pos, after, guard⟩ := o
  simp only at h ⊢
  have un : ∀ (ρ : Con) (ev : Operand → Value) (z : Operand), OpdOK P ρ env ev z → (opd P env z).un.isJ = false → ev z = (opd P env z).un.val ρ := by
    intro ρ ev z hz hj
    rw [(SV.un_val ρ _).1]
    exact hz (by rw [← (SV.un_val ρ _).2]; exact hj)
  unfold evOp at h
  cases op <;> (try simp only at h) <;> try (exact (fail_ok h).elim)
  case move z =>
    obtain ⟨rfl, rfl, rfl⟩ := pure_ok h
    exact ⟨Nat.le_refl _, fun ev ρ w hz _ => Does.pure rfl (hz z (by simp [Op.operands]))⟩
  case assign z =>
    obtain ⟨rfl, rfl, rfl⟩ := pure_ok h
    exact ⟨Nat.le_refl _, fun ev ρ w hz _ => Does.pure rfl (hz z (by simp [Op.operands]))⟩
  case pick c a b =>
    cases hc : opd P env c with
    | lb q =>
      simp only [hc] at h
      cases q
      · obtain ⟨rfl, rfl, rfl⟩ := pure_ok h
        refine ⟨Nat.le_refl _, fun ev ρ w hz _ => ?_⟩
        have h1 := hz c (by simp [Op.operands]) (by rw [hc]; rfl)
        rw [hc] at h1
        exact Does.pure (u := ev b) (by simp [execOp, h1, SV.val, asBool]) (hz b (by simp [Op.operands]))
      · obtain ⟨rfl, rfl, rfl⟩ := pure_ok h
        refine ⟨Nat.le_refl _, fun ev ρ w hz _ => ?_⟩
        have h1 := hz c (by simp [Op.operands]) (by rw [hc]; rfl)
        rw [hc] at h1
        exact Does.pure (u := ev a) (by simp [execOp, h1, SV.val, asBool]) (hz a (by simp [Op.operands]))
    | v tc =>
      simp only [hc] at h
      cases tc with
      | vb f =>
        simp only at h
        obtain ⟨q, c1, y1, c2, h1, h2, rfl⟩ := bind_ok h
        obtain ⟨h3, h4⟩ := ask_ok h1
        have h3 := h3 (OkL_append.1 hd).1
        cases q
        · simp only [Bool.false_eq_true, if_false] at h2
          obtain ⟨rfl, rfl, rfl⟩ := pure_ok h2
          refine ⟨by omega, fun ev ρ w hz _ => ?_⟩
          have g1 := (hz c (by simp [Op.operands])).v hc
          rw [h4]
          exact Does.pure (u := ev b) (by simp [execOp, g1, Tr.val, h3, asBool]) (hz b (by simp [Op.operands]))
        · simp only [if_true] at h2
          obtain ⟨rfl, rfl, rfl⟩ := pure_ok h2
          refine ⟨by omega, fun ev ρ w hz _ => ?_⟩
          have g1 := (hz c (by simp [Op.operands])).v hc
          rw [h4]
          exact Does.pure (u := ev a) (by simp [execOp, g1, Tr.val, h3, asBool]) (hz a (by simp [Op.operands]))
      | _ => exact (fail_ok h).elim
    | _ => simp only [hc] at h; exact (fail_ok h).elim
  case alloc t =>
    obtain ⟨h1, h2, h3⟩ := opAlloc_ok (P := P) (H := H) h
    refine ⟨by omega, fun ev ρ w _ _ => ?_⟩
    obtain ⟨ρ', w', h4, h5⟩ := h3 ρ w
    exact Does.of (by simp only [execOp, Sem.run_bind, h4, Result.andThen_ok, Sem.run_pure]) h5
  case box t z =>
    obtain ⟨tt, c1, y1, c2, h1, h2, rfl⟩ := bind_ok h
    obtain ⟨ht, rfl, rfl⟩ := opt_ok h1
    have hck : tt.cellOk = true := by
      unfold opBox at h2
      obtain ⟨_, c3, y3, c4, h3, _, _⟩ := bind_ok h2
      exact (chk_ok h3).1
    obtain ⟨h3, h4, h5⟩ := opBox_ok (P := P) (H := H) h2
    refine ⟨by omega, fun ev ρ w hz _ => ?_⟩
    obtain ⟨hcells, hj⟩ := tree_cells ht hck ρ
    obtain ⟨ρ', w', h6, h7⟩ := h5 ρ w (ev z) (by rw [hz z (by simp [Op.operands]) hj]; exact hcells)
    exact Does.of (by simp only [execOp, Sem.run_bind, h6, Result.andThen_ok, Sem.run_pure]) h7
  case build t parts =>
    obtain ⟨rfl, h1, h2, h3, h4, h5⟩ := opBuild_ok h
    refine ⟨Nat.le_refl _, fun ev ρ w hz _ => Does.comp h2 h3 ?_⟩
    have hparts : (parts.map fun p => (p.1, ev p.2)) = ((parts.toList.map fun p => (p.1, opd P env p.2)).map fun p => (p.1, p.2.val ρ)).toArray := by
      apply Array.ext'
      simp only [Array.toList_map, List.map_map]
      apply List.map_congr_left
      intro p hp
      simp only [Function.comp]
      rw [hz p.2 (by simp only [Op.operands, List.mem_map]; exact ⟨p, hp, rfl⟩) (h1 (p.1, opd P env p.2) (by simp only [List.mem_map]; exact ⟨p, hp, rfl⟩))]
    simp only [execOp, Sem.run_bind]
    rw [hparts, h5 ρ w]
    simp
  case buildSlice t len parts =>
    obtain ⟨h0, h1, h4, h5⟩ := opBuildSlice_ok (H := H) h
    refine ⟨by omega, fun ev ρ w hz _ => ?_⟩
    have hparts : (parts.map fun p => (p.1, ev p.2)) = ((parts.toList.map fun p => (p.1, opd P env p.2)).map fun p => (p.1, p.2.val ρ)).toArray := by
      apply Array.ext'
      simp only [Array.toList_map, List.map_map]
      apply List.map_congr_left
      intro p hp
      simp only [Function.comp]
      rw [hz p.2 (by simp only [Op.operands, List.mem_map]; exact ⟨p, hp, rfl⟩) (h1 (p.1, opd P env p.2) (by simp only [List.mem_map]; exact ⟨p, hp, rfl⟩))]
    obtain ⟨ρ', w', h6, h7⟩ := h5 ρ w
    exact Does.of (by simp only [execOp, Sem.run_bind]; rw [hparts, h6]; simp) h7
  case load t a =>
    obtain ⟨h1, h2, h3, h4, h5⟩ := opLoad_ok h hd
    refine ⟨by omega, fun ev ρ w hz hH => ?_⟩
    rw [h1]
    refine Does.comp h2 h3 ?_
    have hj : (opd P env a).isJ = false := by
      cases hq : opd P env a with
      | junk => rw [hq] at h; simp [opLoad, M.fail] at h
      | _ => rfl
    simp only [execOp, Sem.run_bind, hz a (by simp [Op.operands]) hj, h5 ρ w hH, Result.andThen_ok, Sem.run_pure]
  case store t a v =>
    obtain ⟨h1, h2, h3, h4, h5⟩ := opStore_ok h hd
    refine ⟨by omega, fun ev ρ w hz hH => ?_⟩
    obtain ⟨w', h6, h7⟩ := h5 ρ w hH
    rw [h1]
    refine ⟨ρ, w', undef, .inr ⟨?_, rfl⟩, fun _ => by rw [h4]; rfl, h7⟩
    simp only [execOp, Sem.run_bind, hz a (by simp [Op.operands]) h2, hz v (by simp [Op.operands]) h3, h6, Result.andThen_ok, Sem.run_pure]
  case nilCheck a =>
    unfold nilChk at h
    cases hq : opd P env a with
    | v tq =>
      simp only [hq] at h
      cases tq with
      | vp lab mem path =>
        obtain ⟨rfl, rfl, rfl⟩ := pure_ok h
        refine ⟨Nat.le_refl _, fun ev ρ w hz _ => Does.pure (u := ev a) ?_ (fun _ => ?_)⟩
        · rw [(hz a (by simp [Op.operands])).v hq]
          simp [execOp, (hz a (by simp [Op.operands])).v hq, Tr.val]
        · exact (hz a (by simp [Op.operands])).v hq
      | _ => exact (fail_ok h).elim
    | _ => simp only [hq] at h; exact (fail_ok h).elim
  case binOp op t a b t' =>
    cases hq : nilTest op (opd P env a) (opd P env b) with
    | some neg =>
      simp only [hq] at h
      obtain ⟨⟨lab, mem, sz, cuts, len, ha⟩, hb, hop⟩ := nilTest_ok hq
      rw [ha] at h
      obtain ⟨h1, h4, h5, h7⟩ := opNil_ok (X := a) (Y := b) hop h hd
      refine ⟨by omega, fun ev ρ w hz hH => ?_⟩
      rw [h1]
      refine Does.comp h4 h5 ?_
      have := h7 ρ w hH
      simp only [Sem.run_bind] at this
      have g1 := hz a (by simp [Op.operands]) (by rw [ha]; rfl)
      have g2 := hz b (by simp [Op.operands]) (by rw [hb]; rfl)
      rw [ha] at g1
      rw [hb] at g2
      simp only [execOp, Sem.run_bind, g1, g2]
      rw [this]; rfl
    | none =>
      simp only [hq] at h
      obtain ⟨h1, h2, h3, h4, h5, h6, h7⟩ := opBin_ok (X := a) (Y := b) h hd
      refine ⟨by omega, fun ev ρ w hz _ => ?_⟩
      rw [h1]
      refine Does.comp h4 h5 ?_
      have := h7 ρ w
      simp only [Sem.run_bind] at this
      simp only [execOp, Sem.run_bind, un ρ ev a (hz a (by simp [Op.operands])) h2, un ρ ev b (hz b (by simp [Op.operands])) h3]
      rw [this]; rfl
  case unOp op t a =>
    obtain ⟨rfl, h2, h3, h4, h5, h6⟩ := opUn_ok (P := P) h
    refine ⟨Nat.le_refl _, fun ev ρ w hz _ => Does.comp h3 h4 ?_⟩
    simp only [execOp, Sem.run_bind, hz a (by simp [Op.operands]) h2, h6 ρ w, Result.andThen_ok, Sem.run_pure]
  case convert s t a =>
    obtain ⟨h1, h2, h3, h4⟩ := opConv_ok h hd
    refine ⟨h1, fun ev ρ w hz hH => ?_⟩
    obtain ⟨ρ', w', hrun, heff⟩ := h4 ρ w hH
    exact Does.of (by simp only [execOp, Sem.run_bind, hz a (by simp [Op.operands]) h2, hrun, Result.andThen_ok, Sem.run_pure]) heff
  case makeFunc fn first captured =>
    obtain ⟨rfl, h3, h4, a, rfl, h2, h6⟩ := opMakeFunc_ok h
    refine ⟨Nat.le_refl _, fun ev ρ w hz _ => Does.comp h3 h4 ?_⟩
    simp only [execOp, Sem.run_bind, h6 ρ ev w (un ρ ev a (hz a (by simp [Op.operands])) h2), Result.andThen_ok, Sem.run_pure]
  case makeInterface t a =>
    obtain ⟨rfl, h2, h3, h4, h5, h6⟩ := opMakeInterface_ok h
    refine ⟨Nat.le_refl _, fun ev ρ w hz _ => Does.comp h3 h4 ?_⟩
    simp only [execOp, Sem.run_bind, un ρ ev a (hz a (by simp [Op.operands])) h2, h6 ρ w, Result.andThen_ok, Sem.run_pure]
  case slice t a lo hi mx =>
    obtain ⟨h1, h2, h3, h4, h5, h6, h7, h8, h9⟩ := opSlice_ok h hd
    have hmx : mx = none := by cases mx <;> simp_all
    subst hmx
    refine ⟨by omega, fun ev ρ w hz hH => ?_⟩
    rw [h1]
    refine Does.comp h6 h7 ?_
    have hlo : lo.map ev = (lo.map (opd P env)).map (SV.val ρ) := by
      cases lo with
      | none => rfl
      | some q => simp only [Option.map_some]; rw [hz q (by simp [Op.operands]) (h4 _ rfl)]
    have hhi : hi.map ev = (hi.map (opd P env)).map (SV.val ρ) := by
      cases hi with
      | none => rfl
      | some q => simp only [Option.map_some]; rw [hz q (by simp [Op.operands]) (h5 _ rfl)]
    simp only [execOp, Sem.run_bind, hz a (by simp [Op.operands]) h2, hlo, hhi, Option.map_none]
    rw [h9 ρ w hH]; rfl
  case fieldAddr s a f =>
    obtain ⟨rfl, h2, h3, h4, h5, h6⟩ := opFieldAddr_ok h
    refine ⟨Nat.le_refl _, fun ev ρ w hz _ => Does.comp h3 h4 ?_⟩
    simp only [execOp, Sem.run_bind, hz a (by simp [Op.operands]) h2, h6 ρ w, Result.andThen_ok, Sem.run_pure]
  case field s a f =>
    obtain ⟨rfl, h2, h3, h4, h5, h6⟩ := opField_ok h
    refine ⟨Nat.le_refl _, fun ev ρ w hz _ => Does.comp h3 h4 ?_⟩
    simp only [execOp, Sem.run_bind, hz a (by simp [Op.operands]) h2, h6 ρ w, Result.andThen_ok, Sem.run_pure]
  case indexAddr t a i =>
    obtain ⟨h1, h2, h3, h4, h5, h6, h7⟩ := opIndexAddr_ok h hd
    refine ⟨by omega, fun ev ρ w hz hH => ?_⟩
    rw [h1]
    refine Does.comp h4 h5 ?_
    simp only [execOp, Sem.run_bind, hz a (by simp [Op.operands]) h2, hz i (by simp [Op.operands]) h3, h7 ρ w hH, Result.andThen_ok, Sem.run_pure]
  case index t a i =>
    obtain ⟨h1, h2, h3, h4, h5, h6, h7⟩ := opIndex_ok h hd
    refine ⟨by omega, fun ev ρ w hz hH => ?_⟩
    rw [h1]
    refine Does.comp h4 h5 ?_
    simp only [execOp, Sem.run_bind, hz a (by simp [Op.operands]) h2, hz i (by simp [Op.operands]) h3, h7 ρ w, Result.andThen_ok, Sem.run_pure]
  case makeSlice t l c =>
    obtain ⟨h1, h2, h3, h4⟩ := opMakeSlice_ok (H := H) h hd
    refine ⟨h1, fun ev ρ w hz hH => ?_⟩
    obtain ⟨ρ', w', hrun, heff⟩ := h4 ρ w
    exact Does.of (by simp only [execOp, Sem.run_bind, hz l (by simp [Op.operands]) h2, hz c (by simp [Op.operands]) h3, hrun, Result.andThen_ok, Sem.run_pure]) heff
  case extract a i =>
    obtain ⟨rfl, h2, h3, h4, h5, h6⟩ := opExtract_ok (P := P) h
    refine ⟨Nat.le_refl _, fun ev ρ w hz _ => Does.comp h3 h4 ?_⟩
    simp only [execOp, Sem.run_bind, hz a (by simp [Op.operands]) h2, h6 ρ w, Result.andThen_ok, Sem.run_pure]
  case call c =>
    obtain ⟨callee, args, argTypes⟩ := c
    cases callee with
    | value f => exact (fail_ok h).elim
    | invoke r m => exact (fail_ok h).elim
    | builtin b =>
    simp only at h
    have exec : ∀ (ev : Operand → Value) (w : World), ∃ cs, (execOp ev ⟨dst, Op.call { callee := .builtin b, args := args, argTypes := argTypes }, type, pos, after, guard⟩).run P w =
        (builtin b argTypes type cs (args.map ev)).run P w := by
      intro ev w
      refine ⟨args.map fun | .const _ => true | _ => false, ?_⟩
      simp only [execOp, resolve, Sem.run_bind, Sem.run_pure, Result.andThen_ok, invoke]
      rfl
    have margs : ∀ (ev : Operand → Value) (ρ : Con), (∀ z ∈ (Op.call { callee := .builtin b, args := args, argTypes := argTypes }).operands.toList, OpdOK P ρ env ev z) →
        (∀ z ∈ args.toList, (opd P env z).isJ = false) → args.map ev = ((args.toList.map (opd P env)).map (SV.val ρ)).toArray := by
      intro ev ρ hz hj
      apply Array.ext'
      rw [Array.toList_map, List.toList_toArray]
      exact opds (fun z hz' => hz z (by simpa [Op.operands, Call.operands] using hz')) hj
    unfold evBuiltin at h
    cases b <;> (try simp only at h) <;> try (exact (fail_ok h).elim)
    case len =>
      cases hT : argTypes.toList with
      | nil => rw [hT] at h; exact (fail_ok h).elim
      | cons t1 r1 =>
        cases r1 with
        | cons t2 r2 => rw [hT] at h; exact (fail_ok h).elim
        | nil =>
          cases hA : args.toList with
          | nil => rw [hT, hA] at h; exact (fail_ok h).elim
          | cons a1 ra =>
            cases ra with
            | cons a2 ra2 => rw [hT, hA] at h; exact (fail_ok h).elim
            | nil =>
              rw [hT, hA] at h
              simp only [List.map_cons, List.map_nil] at h
              have hts : argTypes[0]? = some t1 := by rw [← Array.getElem?_toList, hT]; rfl
              cases hj : (opd P env a1).isJ with
              | true =>
                have : opd P env a1 = .junk := by cases hq : opd P env a1 <;> simp_all [SV.isJ]
                rw [this] at h
                obtain ⟨rfl, h1, h2, h3⟩ := opLen_junk (ty := type) (P := P) hts h
                refine ⟨Nat.le_refl _, fun ev ρ w hz _ => Does.comp h1 h2 ?_⟩
                obtain ⟨cs, hcs⟩ := exec ev w
                rw [hcs]
                have : args.map ev = #[ev a1] := by apply Array.ext'; rw [Array.toList_map, hA]; rfl
                rw [this]
                simp only [builtin, Sem.run_bind, h3 (ev a1) ρ w, Result.andThen_ok, Sem.run_pure]
              | false =>
                obtain ⟨rfl, h1, h2, h3, h4⟩ := opLen_ok (ty := type) hts h hj
                refine ⟨Nat.le_refl _, fun ev ρ w hz _ => Does.comp h1 h2 ?_⟩
                obtain ⟨cs, hcs⟩ := exec ev w
                rw [hcs, margs ev ρ hz (by rw [hA]; simpa using hj), hA]
                simp only [builtin, Sem.run_bind, List.map_cons, List.map_nil, h4 ρ w, Result.andThen_ok, Sem.run_pure]
    case cap =>
      rcases hT : argTypes.toList with _ | ⟨t1, _ | ⟨t2, r2⟩⟩ <;> rw [hT] at h <;> try (exact (fail_ok h).elim)
      rcases hA : args.toList with _ | ⟨a1, _ | ⟨a2, ra⟩⟩ <;> rw [hA] at h <;> try (exact (fail_ok h).elim)
      simp only [List.map_cons, List.map_nil] at h
      have hts : argTypes[0]? = some t1 := by rw [← Array.getElem?_toList, hT]; rfl
      obtain ⟨rfl, hj, h1, h2, h3, h4⟩ := opCap_ok (ty := type) hts h
      refine ⟨Nat.le_refl _, fun ev ρ w hz _ => Does.comp h1 h2 ?_⟩
      obtain ⟨cs, hcs⟩ := exec ev w
      rw [hcs, margs ev ρ hz (by rw [hA]; simpa using hj), hA]
      simp only [builtin, Sem.run_bind, List.map_cons, List.map_nil, h4 ρ w, Result.andThen_ok, Sem.run_pure]
    case append =>
      rcases hT : argTypes.toList with _ | ⟨t, _ | ⟨tx, _ | ⟨t3, r3⟩⟩⟩ <;> rw [hT] at h <;> try (exact (fail_ok h).elim)
      rcases hA : args.toList with _ | ⟨a1, _ | ⟨a2, _ | ⟨a3, ra⟩⟩⟩ <;> rw [hA] at h <;> try (exact (fail_ok h).elim)
      simp only [List.map_cons, List.map_nil] at h
      have happ : x.nl ≤ y.nl ∧ (opd P env a1).isJ = false ∧ (opd P env a2).isJ = false ∧ e.v.isJ = false ∧ ∀ (ρ : Con) (w : World) (ty : TypeId), Hp ρ H e.rd w →
          ∃ ρ' w', (Builtin.append_ #[t, tx] ty #[(opd P env a1).val ρ, (opd P env a2).val ρ]).run P w = .ok (e.v.val ρ') w' ∧ EffOK ρ ρ' x.nl y.nl H e w w' := by
        obtain ⟨u, c1, y1, c2, g1, g2, rfl⟩ := bind_ok h
        obtain ⟨hu, rfl, rfl⟩ := und_ok g1
        split at g2
        · exact opAppZ_ok hu g2 (OkL_append.1 hd).2
        · exact opAppS_ok g2 (OkL_append.1 hd).2
      obtain ⟨h1, h2, h3, h4, h5⟩ := happ
      refine ⟨h1, fun ev ρ w hz hH => ?_⟩
      obtain ⟨cs, hcs⟩ := exec ev w
      obtain ⟨ρ', w', hrun, heff⟩ := h5 ρ w type hH
      have hjs : ∀ z ∈ args.toList, (opd P env z).isJ = false := fun z hz' => by
        rw [hA] at hz'
        simp only [List.mem_cons, List.not_mem_nil, or_false] at hz'
        rcases hz' with rfl | rfl <;> assumption
      have hts : argTypes = #[t, tx] := by apply Array.ext'; rw [hT]
      refine ⟨ρ', w', _, .inl ?_, fun _ => rfl, heff⟩
      rw [hcs, margs ev ρ hz hjs, hA, hts]
      simp only [builtin, Sem.run_bind, List.map_cons, List.map_nil, hrun, Result.andThen_ok, Sem.run_pure]
    case copy =>
      rcases hT : argTypes.toList with _ | ⟨t, _ | ⟨tx, _ | ⟨t3, r3⟩⟩⟩ <;> rw [hT] at h <;> try (exact (fail_ok h).elim)
      rcases hA : args.toList with _ | ⟨a1, _ | ⟨a2, _ | ⟨a3, ra⟩⟩⟩ <;> rw [hA] at h <;> try (exact (fail_ok h).elim)
      simp only [List.map_cons, List.map_nil] at h
      obtain ⟨h1, h2, h3, h4, h5⟩ := opCpy_ok h hd
      refine ⟨by omega, fun ev ρ w hz hH => ?_⟩
      obtain ⟨cs, hcs⟩ := exec ev w
      obtain ⟨w', hrun, heff⟩ := h5 ρ w type hH
      rw [h1]
      have hjs : ∀ z ∈ args.toList, (opd P env z).isJ = false := fun z hz' => by
        rw [hA] at hz'
        simp only [List.mem_cons, List.not_mem_nil, or_false] at hz'
        rcases hz' with rfl | rfl <;> assumption
      have hts : argTypes = #[t, tx] := by apply Array.ext'; rw [hT]
      refine ⟨ρ, w', _, .inl ?_, fun _ => rfl, heff⟩
      rw [hcs, margs ev ρ hz hjs, hA, hts]
      simp only [builtin, Sem.run_bind, List.map_cons, List.map_nil, hrun, Result.andThen_ok, Sem.run_pure]
    case max =>
      obtain ⟨rfl, h1, h2, h3, h4, h5⟩ := opMinMax_ok (P := P) (ts := argTypes) (ty := type) h
      refine ⟨Nat.le_refl _, fun ev ρ w hz _ => Does.comp h2 h3 ?_⟩
      obtain ⟨cs, hcs⟩ := exec ev w
      rw [hcs, margs ev ρ hz (fun z hz' => h1 _ (List.mem_map.2 ⟨z, hz', rfl⟩))]
      have := h5 ρ w
      simp only [if_true] at this
      simp only [builtin, Sem.run_bind, this, Result.andThen_ok, Sem.run_pure]
    case min =>
      obtain ⟨rfl, h1, h2, h3, h4, h5⟩ := opMinMax_ok (P := P) (ts := argTypes) (ty := type) h
      refine ⟨Nat.le_refl _, fun ev ρ w hz _ => Does.comp h2 h3 ?_⟩
      obtain ⟨cs, hcs⟩ := exec ev w
      rw [hcs, margs ev ρ hz (fun z hz' => h1 _ (List.mem_map.2 ⟨z, hz', rfl⟩))]
      have := h5 ρ w
      simp only [Bool.false_eq_true, if_false] at this
      simp only [builtin, Sem.run_bind, this, Result.andThen_ok, Sem.run_pure]

end Go.Sx
