/- The engine, part 10: binary operations, conversions, lengths, reslicing. -/
import Derived.Test.YtankmgnjkcgpaaaDoorSy9
set_option linter.unusedSimpArgs false
set_option linter.unusedVariables false
namespace Go.Sx

theorem eqGuard_plain {P : Program} {op : BinOp} {t : TypeId} {x y : Operand} {a b : Value} (w : World) (h1 : a ≠ .nilIface) (h2 : ∀ c, a ≠ .agg c) : (eqGuard op t x y a b).run P w = .ok () w :=
  eqGuard_pure w ⟨.inl h1, .inl h2⟩

theorem opBin_ok {P : Program} {op : BinOp} {t : TypeId} {X Y : Operand} {x y : SV} {z z' : Aux} {e : Eff} {d : Conds} (h : opBin P op t x y (isConst X || isConst Y) z = .ok e d z') (hd : OkL d) :
    z'.nl = z.nl ∧ x.isJ = false ∧ y.isJ = false ∧ e.upd = [] ∧ e.drop = [] ∧ e.v.isJ = false ∧ ∀ (ρ : Con) (w : World),
      (do eqGuard op t X Y (x.val ρ) (y.val ρ); binOp op t (x.val ρ) (y.val ρ) : Sem Value).run P w = .ok (e.v.val ρ) w := by
  unfold opBin at h
  split at h
  · rename_i k f k' g
    obtain ⟨_, c1, y1, c2, h1, h2, rfl⟩ := bind_ok h
    obtain ⟨hb, hn⟩ := need_ok h1
    obtain ⟨rfl, rfl, rfl⟩ := pure_ok h2
    have hb := hb (OkL_append.1 hd).1
    have hb : ¬ g [] < 0 := by simpa using hb
    refine ⟨hn, rfl, rfl, rfl, rfl, rfl, fun ρ w => ?_⟩
    simp only [Sem.run_bind, eqGuard_plain w (a := SV.val ρ (.v (.vi k f))) (by simp [SV.val, Tr.val]) (by simp [SV.val, Tr.val]), Result.andThen_ok]
    simp [binOp, Op.shift, SV.val, Tr.val, hb, ishl, Eff.val]
  · rename_i k f k' g
    obtain ⟨_, c1, y1, c2, h1, h2, rfl⟩ := bind_ok h
    obtain ⟨hb, hn⟩ := need_ok h1
    obtain ⟨rfl, rfl, rfl⟩ := pure_ok h2
    have hb := hb (OkL_append.1 hd).1
    have hb : ¬ g [] < 0 := by simpa using hb
    refine ⟨hn, rfl, rfl, rfl, rfl, rfl, fun ρ w => ?_⟩
    simp only [Sem.run_bind, eqGuard_plain w (a := SV.val ρ (.v (.vi k f))) (by simp [SV.val, Tr.val]) (by simp [SV.val, Tr.val]), Result.andThen_ok]
    simp [binOp, Op.shift, SV.val, Tr.val, hb, ishr, Eff.val]
  · rename_i k f k' g hs1 hs2
    obtain ⟨_, c1, y1, c2, h1, h2, rfl⟩ := bind_ok h
    obtain ⟨hk, rfl, rfl⟩ := chk_ok h1
    have hk := sameK_eq hk
    subst hk
    obtain ⟨r, c1, y1, c3, h1, h3, rfl⟩ := bind_ok h2
    obtain ⟨rfl, rfl, rfl⟩ := pure_ok h3
    simp only [OkL_append] at hd
    obtain ⟨hn, hrun⟩ := binInt_ok h1 hd.2.1
    refine ⟨hn, rfl, rfl, rfl, rfl, rfl, fun ρ w => ?_⟩
    simp only [Sem.run_bind, eqGuard_plain w (a := SV.val ρ (.v (.vi k f))) (by simp [SV.val, Tr.val]) (by simp [SV.val, Tr.val]), Result.andThen_ok]
    exact hrun P ρ w t hs1 hs2
  · rename_i f g
    obtain ⟨r, c1, y1, c3, h1, h3, rfl⟩ := bind_ok h
    obtain ⟨rfl, rfl, rfl⟩ := pure_ok h3
    simp only [OkL_append] at hd
    obtain ⟨hn, hrun⟩ := binStr_ok h1 hd.1
    refine ⟨hn, rfl, rfl, rfl, rfl, rfl, fun ρ w => ?_⟩
    simp only [Sem.run_bind, eqGuard_plain w (a := SV.val ρ (.v (.vs f))) (by simp [SV.val, Tr.val]) (by simp [SV.val, Tr.val]), Result.andThen_ok]
    exact hrun P ρ w t
  · obtain ⟨r, c1, y1, c3, h1, h3, rfl⟩ := bind_ok h
    obtain ⟨rfl, rfl, rfl⟩ := pure_ok h3
    obtain ⟨rfl, hx, hy, hrun⟩ := eqAny_ok h1
    refine ⟨rfl, hx, hy, rfl, rfl, rfl, fun ρ w => ?_⟩
    obtain ⟨_, ⟨g1, g2⟩, g3⟩ := hrun ρ w
    simp only [Sem.run_bind, eqGuard_pure w (op := .eql) (x := X) (y := Y) ⟨g1, g2⟩, Result.andThen_ok]
    have := g3 .eql (.inl rfl)
    simpa [Eff.val, SV.val, Tr.val] using this
  · obtain ⟨r, c1, y1, c3, h1, h3, rfl⟩ := bind_ok h
    obtain ⟨rfl, rfl, rfl⟩ := pure_ok h3
    obtain ⟨rfl, hx, hy, hrun⟩ := eqAny_ok h1
    refine ⟨rfl, hx, hy, rfl, rfl, rfl, fun ρ w => ?_⟩
    obtain ⟨_, ⟨g1, g2⟩, g3⟩ := hrun ρ w
    simp only [Sem.run_bind, eqGuard_pure w (op := .neq) (x := X) (y := Y) ⟨g1, g2⟩, Result.andThen_ok]
    have := g3 .neq (.inr rfl)
    simpa [Eff.val, SV.val, Tr.val] using this
  · exact (fail_ok h).elim

theorem opUn_ok {P : Program} {op : UnOp} {x : SV} {z z' : Aux} {e : Eff} {d : Conds} (h : opUn op x z = .ok e d z') :
    z = z' ∧ x.isJ = false ∧ e.upd = [] ∧ e.drop = [] ∧ e.v.isJ = false ∧ ∀ (ρ : Con) (w : World), (Op.unary op (x.val ρ)).run P w = .ok (e.v.val ρ) w := by
  unfold opUn at h
  split at h <;> first
    | exact (fail_ok h).elim
    | (obtain ⟨rfl, rfl, rfl⟩ := pure_ok h
       refine ⟨rfl, rfl, rfl, rfl, rfl, fun ρ w => ?_⟩
       first
         | rfl
         | simp [Op.unary, SV.val, Tr.val, Eff.val, Op.intArith, Op.intBits, ixor])

theorem vl_val (ρ : Con) (lab : Nat) (mem : Ix → Nat) (sz : Nat) (cuts : List Nat) (len : Ix → Nat) : ∃ a c, SV.val ρ (.v (.vl lab mem sz cuts len)) = .slice a (len []) c := by
  simp only [SV.val, Tr.val]; split
  · exact ⟨_, _, rfl⟩
  · exact ⟨_, _, rfl⟩

theorem opLen_ok {P : Program} {t : TypeId} {ty : TypeId} {ts : Array TypeId} {x : SV} {z z' : Aux} {e : Eff} {d : Conds} (hts : ts[0]? = some t) (h : opLen P t x z = .ok e d z') (hx : x.isJ = false) :
    z = z' ∧ e.upd = [] ∧ e.drop = [] ∧ e.v.isJ = false ∧ ∀ (ρ : Con) (w : World), (Builtin.len_ ts ty #[x.val ρ]).run P w = .ok (e.v.val ρ) w := by
  unfold opLen at h
  obtain ⟨u, c1, y1, c2, h1, h2, rfl⟩ := bind_ok h
  obtain ⟨hu, rfl, rfl⟩ := und_ok h1
  split at h2 <;> first
    | exact (fail_ok h2).elim
    | (obtain ⟨rfl, rfl, rfl⟩ := pure_ok h2
       refine ⟨rfl, rfl, rfl, rfl, fun ρ w => ?_⟩
       simp only [Builtin.len_, hts, Sem.run_bind, run_underlying hu, Result.andThen_ok, List.getElem?_toArray, List.getElem?_cons_zero]
       first
         | (rename_i lab mem sz cuts len; obtain ⟨a, c, hv⟩ := vl_val ρ lab mem sz cuts len; rw [hv]; rfl)
         | (simp [SV.val, Tr.val, Eff.val, goInt, ba_size]; done)
         | rfl)

theorem opCap_ok {P : Program} {t : TypeId} {ty : TypeId} {ts : Array TypeId} {x : SV} {z z' : Aux} {e : Eff} {d : Conds} (hts : ts[0]? = some t) (h : opCap P t x z = .ok e d z') :
    z = z' ∧ x.isJ = false ∧ e.upd = [] ∧ e.drop = [] ∧ e.v.isJ = false ∧ ∀ (ρ : Con) (w : World), (Builtin.cap_ ts ty #[x.val ρ]).run P w = .ok (e.v.val ρ) w := by
  unfold opCap at h
  obtain ⟨u, c1, y1, c2, h1, h2, rfl⟩ := bind_ok h
  obtain ⟨hu, rfl, rfl⟩ := und_ok h1
  split at h2 <;> first
    | exact (fail_ok h2).elim
    | (obtain ⟨rfl, rfl, rfl⟩ := pure_ok h2
       refine ⟨rfl, rfl, rfl, rfl, rfl, fun ρ w => ?_⟩
       simp only [Builtin.cap_, hts, Sem.run_bind, run_underlying hu, Result.andThen_ok, List.getElem?_toArray, List.getElem?_cons_zero]
       first
         | (simp [SV.val, Tr.val, Eff.val, goInt]; done)
         | rfl)

theorem opMinMax_ok {P : Program} {mx : Bool} {args : List SV} {ts : Array TypeId} {ty : TypeId} {z z' : Aux} {e : Eff} {d : Conds} (h : opMinMax mx args z = .ok e d z') :
    z = z' ∧ (∀ a ∈ args, a.isJ = false) ∧ e.upd = [] ∧ e.drop = [] ∧ e.v.isJ = false ∧ ∀ (ρ : Con) (w : World),
      (if mx then Builtin.max_ ts ty (args.map (SV.val ρ)).toArray else Builtin.min_ ts ty (args.map (SV.val ρ)).toArray).run P w = .ok (e.v.val ρ) w := by
  unfold opMinMax at h
  split at h
  · rename_i k f k' g
    obtain ⟨_, c1, y1, c2, h1, h2, rfl⟩ := bind_ok h
    obtain ⟨hk, rfl, rfl⟩ := chk_ok h1
    have hk := sameK_eq hk
    subst hk
    cases mx
    · obtain ⟨rfl, rfl, rfl⟩ := pure_ok h2
      refine ⟨rfl, by simp [SV.isJ], rfl, rfl, rfl, fun ρ w => ?_⟩
      simp [Builtin.min_, Builtin.min2, SV.val, Tr.val, Eff.val]
    · obtain ⟨rfl, rfl, rfl⟩ := pure_ok h2
      refine ⟨rfl, by simp [SV.isJ], rfl, rfl, rfl, fun ρ w => ?_⟩
      simp [Builtin.max_, Builtin.max2, SV.val, Tr.val, Eff.val]
  · exact (fail_ok h).elim

theorem opMakeFunc_ok {P : Program} {fn : Fn} {first captured : Array Operand} {env : List SV} {z z' : Aux} {e : Eff} {d : Conds} (h : opMakeFunc fn first.toList (captured.toList.map (opd P env)) z = .ok e d z') :
    z = z' ∧ e.upd = [] ∧ e.drop = [] ∧ ∃ a : Operand, captured = #[a] ∧ (opd P env a).un.isJ = false ∧ ∀ (ρ : Con) (ev : Operand → Value) (w : World), ev a = (opd P env a).un.val ρ → (Instr.makeFunc fn (first.map ev) (captured.map ev)).run P w = .ok (e.v.val ρ) w := by
  obtain ⟨first⟩ := first
  obtain ⟨captured⟩ := captured
  simp only at h
  generalize hc : captured.map (opd P env) = L at h
  unfold opMakeFunc at h
  split at h
  · rename_i f x
    match captured, hc with
    | [a], hc =>
      simp only [List.map_cons, List.map_nil, List.cons.injEq, and_true] at hc
      subst hc
      cases hu : (opd P env a).un with
      | v u =>
        rw [hu] at h
        obtain ⟨_, c1, y1, c3, h1, h3, rfl⟩ := bind_ok h
        obtain ⟨hl, rfl, rfl⟩ := chk_ok h1
        obtain ⟨rfl, rfl, rfl⟩ := pure_ok h3
        refine ⟨rfl, rfl, rfl, a, rfl, by rw [hu]; rfl, fun ρ ev w he => ?_⟩
        rw [hu] at he
        simp [Instr.makeFunc, Eff.val, SV.val, Tr.val, he]
      | _ => rw [hu] at h; exact (fail_ok h).elim
  · exact (fail_ok h).elim

theorem opMakeInterface_ok {P : Program} {t : TypeId} {x : SV} {z z' : Aux} {e : Eff} {d : Conds} (h : opMakeInterface P t x z = .ok e d z') :
    z = z' ∧ x.isJ = false ∧ e.upd = [] ∧ e.drop = [] ∧ e.v.isJ = false ∧ ∀ (ρ : Con) (w : World), (Instr.makeInterface t (x.val ρ)).run P w = .ok (e.v.val ρ) w := by
  unfold opMakeInterface at h
  obtain ⟨u, c1, y1, c2, h1, h2, rfl⟩ := bind_ok h
  obtain ⟨hu, rfl, rfl⟩ := und_ok h1
  split at h2
  · exact (fail_ok h2).elim
  · rename_i u' tr hne
    obtain ⟨_, c1, y1, c3, h1, h3, rfl⟩ := bind_ok h2
    obtain ⟨hl, rfl, rfl⟩ := chk_ok h1
    obtain ⟨rfl, rfl, rfl⟩ := pure_ok h3
    refine ⟨rfl, rfl, rfl, rfl, rfl, fun ρ w => ?_⟩
    simp only [Instr.makeInterface, Sem.run_bind, run_underlying hu, Result.andThen_ok]
    cases u <;> first
      | (exact absurd rfl (hne _ _))
      | rfl
  · exact (fail_ok h2).elim

end Go.Sx
