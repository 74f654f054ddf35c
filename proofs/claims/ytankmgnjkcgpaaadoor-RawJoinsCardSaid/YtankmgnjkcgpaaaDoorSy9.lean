/- The engine, part 9: equality, conversions, and the other operations that only compute. -/
import Derived.Test.YtankmgnjkcgpaaaDoorSy8
import Derived.ChangeKeysEq
set_option linter.unusedSimpArgs false
set_option linter.unusedVariables false
namespace Go.Sx

def vv (ρ : Con) (u : TypeDesc) (a : Tr) : Value := if aggD u then .agg (a.cells ρ []).toArray else a.val ρ []

theorem szEq_ok {P : Program} {t : TypeId} {n : Nat} (h : szEq P t n = true) : ∃ i, P.info? t = some i ∧ i.size = n := by
  unfold szEq at h
  cases hi : P.info? t with
  | none => simp [hi] at h
  | some i => simp only [hi] at h; exact ⟨i, rfl, Nat.eq_of_beq_eq_true h⟩

theorem eqFields_ok {P : Program} {g : TypeId → Tr → Tr → Option Bool} {d : Nat} {ρ : Con}
    (hg : ∀ t a b r, g t a b = some r → ∃ ud, P.underlying t = some ud ∧ (aggD ud = false → a.leaf = true ∧ b.leaf = true) ∧ ∀ w, (Op.equalIn d t (vv ρ ud a) (vv ρ ud b)).run P w = .ok r w) :
    ∀ (fs : List Field) (o : Nat) (x y : Tr) (r : Bool) (px py : List Value), eqFields P g o fs x y = some r → px.length = o → py.length = o →
      ∀ w, (Op.eqFields d (px ++ x.cells ρ []).toArray (py ++ y.cells ρ []).toArray fs).run P w = .ok r w
  | [], o, x, y, r, px, py, h, _, _, w => by
    cases x <;> cases y <;> simp [eqFields] at h
    subst h; rfl
  | f :: fs, o, x, y, r, px, py, h, hx, hy, w => by
    cases x <;> cases y <;> simp only [eqFields] at h <;> try (simp at h)
    rename_i a xr b yr
    obtain ⟨⟨⟨⟨h1, h2⟩, h3⟩, h4⟩, h⟩ := h
    split at h
    · rename_i p q hp hq
      simp only [Option.some.injEq] at h
      obtain ⟨i, hi, hsz⟩ := szEq_ok h2
      obtain ⟨ud, hu, hleaf, hrun⟩ := hg _ _ _ _ hp
      have ex : px ++ (Tr.tc a xr).cells ρ [] = px ++ a.cells ρ [] ++ xr.cells ρ [] := by simp [Tr.cells]
      have ey : py ++ (Tr.tc b yr).cells ρ [] = py ++ b.cells ρ [] ++ yr.cells ρ [] := by simp [Tr.cells]
      rw [ex, ey]
      have hd : f.offset = o := h1
      have hab : a.size = b.size := h3
      simp only [Op.eqFields, ne_eq, h4, not_false_eq_true, if_true, Sem.run_bind]
      rw [run_part hu hi (by rw [Tr.cells_length]; omega) (by omega) (fun ha => ⟨_, Tr.cells_leaf ρ (hleaf ha).1 []⟩)]
      simp only [Result.andThen_ok]
      rw [run_part hu hi (by rw [Tr.cells_length]; omega) (by omega) (fun ha => ⟨_, Tr.cells_leaf ρ (hleaf ha).2 []⟩)]
      simp only [Result.andThen_ok]
      have va : (if aggD ud then Value.agg (a.cells ρ []).toArray else (a.cells ρ []).headD undef) = vv ρ ud a := by
        unfold vv; cases hag : aggD ud
        · simp [Tr.cells_leaf ρ (hleaf hag).1]
        · simp
      have vb : (if aggD ud then Value.agg (b.cells ρ []).toArray else (b.cells ρ []).headD undef) = vv ρ ud b := by
        unfold vv; cases hag : aggD ud
        · simp [Tr.cells_leaf ρ (hleaf hag).2]
        · simp
      rw [va, vb, hrun w]
      simp only [Result.andThen_ok]
      have ih := eqFields_ok hg fs (o + a.size) xr yr q (px ++ a.cells ρ []) (py ++ b.cells ρ []) hq (by simp [Tr.cells_length, hx]) (by simp [Tr.cells_length, hy]; omega) w
      cases p
      · simp [← h]
      · simp only [Bool.not_true, Bool.false_eq_true, if_false]
        rw [← h]; simpa using ih
    · simp at h

theorem eqRow_ok {P : Program} {g : Tr → Tr → Option Bool} {d : Nat} {ρ : Con} {e : TypeId} {i : TypeInfo} {n : Nat} (hi : P.info? e = some i)
    (hg : ∀ a b r, g a b = some r → ∃ ud, P.underlying e = some ud ∧ (aggD ud = false → a.leaf = true ∧ b.leaf = true) ∧ ∀ w, (Op.equalIn d e (vv ρ ud a) (vv ρ ud b)).run P w = .ok r w)
    (a b : Tr) (ha : a.size = i.size) (hb : b.size = i.size) :
    ∀ (is : List Nat) (r : Bool), (∀ k ∈ is, k < n) → eqRow g a b is = some r → ∀ w, (Op.eqItems d e (P.cellsOf e) ((Tr.ta n a).cells ρ []).toArray ((Tr.ta n b).cells ρ []).toArray is).run P w = .ok r w
  | [], r, _, h, w => by
    simp only [eqRow, Option.some.injEq] at h
    subst h
    simp [Op.eqItems]
  | k :: is, r, hk, h, w => by
    simp only [eqRow] at h
    split at h
    · rename_i p q hp hq
      simp only [Option.some.injEq] at h
      obtain ⟨ud, hu, hleaf, hrun⟩ := hg _ _ _ hp
      have hlt : k < n := hk k (by simp)
      obtain ⟨pre, post, hc, hpl, _⟩ := flatMap_range_split n k hlt (fun i => a.cells ρ ([] ++ [i])) a.size (fun x => Tr.cells_length ρ a _)
      obtain ⟨pre', post', hc', hpl', _⟩ := flatMap_range_split n k hlt (fun i => b.cells ρ ([] ++ [i])) b.size (fun x => Tr.cells_length ρ b _)
      have hco : P.cellsOf e = i.size := by simp [Program.cellsOf, hi]
      have ex : (Tr.ta n a).cells ρ [] = pre ++ a.cells ρ [k] ++ post := hc
      have ey : (Tr.ta n b).cells ρ [] = pre' ++ b.cells ρ [k] ++ post' := hc'
      have p1 : (Go.part e ((Tr.ta n a).cells ρ []).toArray (k * P.cellsOf e)).run P w = .ok (vv ρ ud (a.inst [k])) w := by
        rw [ex, run_part hu hi (by rw [Tr.cells_length]; omega) (by rw [hpl, ha, hco]) (fun hag => ⟨a.val ρ [k], Tr.cells_leaf ρ (by rw [← Tr.inst_leaf [k]]; exact (hleaf hag).1) _⟩)]
        unfold vv
        cases hag : aggD ud
        · have := (hleaf hag).1
          rw [Tr.inst_leaf] at this
          simp [Tr.cells_leaf ρ this, Tr.inst_val]
        · simp [Tr.inst_cells]
      have p2 : (Go.part e ((Tr.ta n b).cells ρ []).toArray (k * P.cellsOf e)).run P w = .ok (vv ρ ud (b.inst [k])) w := by
        rw [ey, run_part hu hi (by rw [Tr.cells_length]; omega) (by rw [hpl', hb, hco]) (fun hag => ⟨b.val ρ [k], Tr.cells_leaf ρ (by rw [← Tr.inst_leaf [k]]; exact (hleaf hag).2) _⟩)]
        unfold vv
        cases hag : aggD ud
        · have := (hleaf hag).2
          rw [Tr.inst_leaf] at this
          simp [Tr.cells_leaf ρ this, Tr.inst_val]
        · simp [Tr.inst_cells]
      have ih := eqRow_ok hi hg a b ha hb is q (fun j hj => hk j (by simp [hj])) hq w
      simp only [Op.eqItems, Sem.run_bind, p1, p2, hrun w, Result.andThen_ok]
      cases p
      · simp [← h]
      · simp only [Bool.not_true, Bool.false_eq_true, if_false]
        rw [ih, ← h]; rfl
    · simp at h

theorem eqTy_ok {P : Program} {ρ : Con} : ∀ (n : Nat) (t : TypeId) (a b : Tr) (r : Bool), eqTy P n t a b = some r →
    ∀ d, n ≤ d → ∃ ud, P.underlying t = some ud ∧ (aggD ud = false → a.leaf = true ∧ b.leaf = true) ∧ ∀ w, (Op.equalIn d t (vv ρ ud a) (vv ρ ud b)).run P w = .ok r w
  | 0, t, a, b, r, h, _, _ => by simp [eqTy] at h
  | n + 1, t, a, b, r, h, d, hd => by
    obtain ⟨d, rfl⟩ : ∃ d', d = d' + 1 := ⟨d - 1, by omega⟩
    simp only [eqTy] at h
    cases hu : P.underlying t with
    | none => simp [hu] at h
    | some ud =>
      refine ⟨ud, rfl, ?_⟩
      cases ud <;> simp only [hu] at h <;> try (simp at h)
      case int k0 =>
        cases a <;> cases b <;> simp at h
        obtain ⟨hk, h⟩ := h
        have hk := sameK_eq hk
        subst hk; subst h
        exact ⟨fun _ => ⟨rfl, rfl⟩, fun w => by simp [vv, aggD, Tr.val, run_equalIn_int w d t _ k0 _ _ hu]⟩
      case bool =>
        cases a <;> cases b <;> simp at h
        subst h
        exact ⟨fun _ => ⟨rfl, rfl⟩, fun w => by simp [vv, aggD, Tr.val, run_equalIn_bool' w d t _ _ hu]⟩
      case string =>
        cases a <;> cases b <;> simp at h
        subst h
        exact ⟨fun _ => ⟨rfl, rfl⟩, fun w => by simp [vv, aggD, Tr.val, run_equalIn_string w d t _ _ hu, ba_toList]⟩
      case struct fs =>
        obtain ⟨hst, h⟩ := h
        refine ⟨fun h => by simp [aggD] at h, fun w => ?_⟩
        have hfs : P.fieldsOf t = fs := by simp [Program.fieldsOf, hu]
        simp only [vv, aggD, if_true]
        rw [run_equalIn_struct w d t _ _ (by rw [hfs]; exact hu) hst, hfs]
        have := eqFields_ok (P := P) (g := eqTy P n) (d := d) (ρ := ρ) (fun t a b r h => eqTy_ok n t a b r h d (by omega)) fs.toList 0 a b r [] [] h rfl rfl w
        simpa using this
      case array k e =>
        cases a <;> cases b <;> simp only at h <;> try (cases h)
        rename_i m a m' b
        split at h
        · rename_i hc
          obtain ⟨⟨⟨c1, c2⟩, c3⟩, c4⟩ := hc
          have c1 : m = k := c1
          have c2 : m' = k := c2
          have c4 : a.size = b.size := c4
          subst c1; subst c2
          obtain ⟨i, hi, hsz⟩ := szEq_ok c3
          refine ⟨fun h => by simp [aggD] at h, fun w => ?_⟩
          simp only [vv, aggD, if_true]
          rw [run_equalIn_array w d _ _ hu hi]
          have h : eqRow (eqTy P n e) a b (List.range m') = some r := by
            unfold eqArr at h
            split at h
            · rename_i ka f kb hh xx
              cases n with
              | zero => simp [eqTy] at h
              | succ n =>
                simp only [eqTy] at h ⊢
                cases hue : P.underlying e with
                | none => simp [hue] at h
                | some ue =>
                  have hst : ∀ fs : Array Field, (if P.stoodInHeld e = true then none else eqFields P (eqTy P n) 0 fs.toList (.vi ka f) (.vi kb hh)) = none := by
                    intro fs
                    split
                    · rfl
                    · cases fs.toList <;> rfl
                  cases ue <;> simp only [hue, hst] at h <;> try (simp at h; done)
                  by_cases hk : sameK ka kb = true
                  · simp only [hk, if_true, Option.some.injEq] at h
                    subst h
                    unfold allEq
                    generalize List.range m' = l
                    induction l with
                    | nil => rfl
                    | cons i l ih =>
                      simp only [eqRow, Tr.inst, eqTy, hue, hk, if_true, ih, List.append_nil, List.all_cons]
                  · simp only [hk, if_false] at h
                    cases h
            · exact h
          exact eqRow_ok hi (fun a b r h => eqTy_ok n e a b r h d (by omega)) a b hsz.symm (by omega) (List.range m') r (fun k hk => by simpa using hk) h w
        · cases h

theorem eqGuard_pure {P : Program} {op : BinOp} {t : TypeId} {x y : Operand} {a b : Value} (w : World)
    (h : (a ≠ .nilIface ∨ b ≠ .nilIface ∨ isConst x || isConst y) ∧ ((∀ c, a ≠ .agg c) ∨ (∀ c, b ≠ .agg c) ∨ P.eqGuardType P.depth t = false)) : (eqGuard op t x y a b).run P w = .ok () w := by
  obtain ⟨h1, h2⟩ := h
  cases op <;> first
    | (simp [eqGuard]; done)
    | (cases a <;> cases b <;> first
        | (simp [eqGuard]; done)
        | (simp only [ne_eq, not_true_eq_false, false_or] at h1
           cases x <;> cases y <;> first
             | (simp [isConst] at h1; done)
             | (simp [eqGuard]; done))
        | (have h3 : P.eqGuardType P.depth t = false := by
             rcases h2 with h2 | h2 | h2
             · exact absurd rfl (h2 _)
             · exact absurd rfl (h2 _)
             · exact h2
           simp [eqGuard, run_program, h3]; done))

section
variable {P : Program} {t : TypeId} (w : World) (d : Nat)
theorem eqi_00 {ms : Array (String × TypeId)} (h : P.underlying t = some (.interface ms)) : (Op.equalIn (d + 1) t .nilIface .nilIface).run P w = .ok true w := by simp [Op.equalIn, run_underlying h]
theorem eqi_10 {ms : Array (String × TypeId)} (h : P.underlying t = some (.interface ms)) (u : TypeId) (v : Value) : (Op.equalIn (d + 1) t (.iface u v) .nilIface).run P w = .ok false w := by simp [Op.equalIn, run_underlying h]
theorem eqi_01 {ms : Array (String × TypeId)} (h : P.underlying t = some (.interface ms)) (u : TypeId) (v : Value) : (Op.equalIn (d + 1) t .nilIface (.iface u v)).run P w = .ok false w := by simp [Op.equalIn, run_underlying h]
theorem eqp_00 {e : TypeId} (h : P.underlying t = some (.pointer e)) : (Op.equalIn (d + 1) t (.pointer none) (.pointer none)).run P w = .ok true w := by simp [Op.equalIn, run_underlying h]
theorem eqp_10 {e : TypeId} (h : P.underlying t = some (.pointer e)) (a : Addr) : (Op.equalIn (d + 1) t (.pointer (some a)) (.pointer none)).run P w = .ok false w := by simp [Op.equalIn, run_underlying h]
theorem eqp_01 {e : TypeId} (h : P.underlying t = some (.pointer e)) (a : Addr) : (Op.equalIn (d + 1) t (.pointer none) (.pointer (some a))).run P w = .ok false w := by simp [Op.equalIn, run_underlying h]
theorem eqs_00 {e : TypeId} (h : P.underlying t = some (.slice e)) : (Op.equalIn (d + 1) t (.slice none 0 0) (.slice none 0 0)).run P w = .ok true w := by simp [Op.equalIn, run_underlying h]
theorem eqs_10 {e : TypeId} (h : P.underlying t = some (.slice e)) (a : Addr) (n m : Nat) : (Op.equalIn (d + 1) t (.slice (some a) n m) (.slice none 0 0)).run P w = .ok false w := by simp [Op.equalIn, run_underlying h]
end

theorem run_equal_plain {P : Program} {t : TypeId} {a b : Value} {r : Bool} {w : World} (h : (Op.equalIn 10000 t a b).run P w = .ok r w) : (Op.equal t a b).run P w = .ok r w := h

theorem vx_val (ρ : Con) (tx : Nat) (ls : List Nat) (f : Ix → Nat) : (Nat.ble ls.length (f []) = true ∧ SV.val ρ (.v (.vx tx ls f)) = .nilIface) ∨ (Nat.ble ls.length (f []) = false ∧ ∃ v, SV.val ρ (.v (.vx tx ls f)) = .iface tx v) := by
  simp only [SV.val, Tr.val]
  cases hk : nthL ls (f []) with
  | none => exact .inl ⟨by rw [Nat.ble_eq]; exact nthL_none.1 hk, rfl⟩
  | some l =>
    refine .inr ⟨?_, _, rfl⟩
    rw [Bool.eq_false_iff, ne_eq, Nat.ble_eq]
    intro q
    rw [nthL_none.2 q] at hk
    cases hk

theorem eqAny_ok {P : Program} {t : TypeId} {x y : SV} {c r : Bool} {z z' : Aux} {d : Conds} (h : eqAny P t x y c z = .ok r d z') :
    z = z' ∧ x.isJ = false ∧ y.isJ = false ∧ ∀ (ρ : Con) (w : World), (Op.equal t (x.val ρ) (y.val ρ)).run P w = .ok r w ∧
      ((x.val ρ ≠ .nilIface ∨ y.val ρ ≠ .nilIface ∨ c = true) ∧ ((∀ c, x.val ρ ≠ .agg c) ∨ (∀ c, y.val ρ ≠ .agg c) ∨ P.eqGuardType P.depth t = false)) ∧
      (∀ (op : BinOp), op = .eql ∨ op = .neq → (binOp op t (x.val ρ) (y.val ρ)).run P w = .ok (.bool (if op = .eql then r else !r)) w) := by
  have fin : ∀ (ρ : Con) (w : World), (∀ k a, x.val ρ ≠ .int k a) → (∀ a, x.val ρ ≠ .string a) → (∀ k a, x.val ρ ≠ .float k a) → (∀ k a b, x.val ρ ≠ .complex k a b) → (Op.equal t (x.val ρ) (y.val ρ)).run P w = .ok r w →
      ∀ (op : BinOp), op = .eql ∨ op = .neq → (binOp op t (x.val ρ) (y.val ρ)).run P w = .ok (.bool (if op = .eql then r else !r)) w := by
    intro ρ w h1 h2 h3 h4 h5 op hop
    generalize x.val ρ = a at *
    generalize y.val ρ = b at *
    rcases hop with rfl | rfl
    · cases a <;> first
        | exact absurd rfl (h1 _ _)
        | exact absurd rfl (h2 _)
        | exact absurd rfl (h3 _ _)
        | exact absurd rfl (h4 _ _ _)
        | (simp only [binOp, Sem.run_bind, h5, Result.andThen_ok, Sem.run_pure, if_true]; done)
    · cases a <;> first
        | exact absurd rfl (h1 _ _)
        | exact absurd rfl (h2 _)
        | exact absurd rfl (h3 _ _)
        | exact absurd rfl (h4 _ _ _)
        | (simp only [binOp, Sem.run_bind, h5, Result.andThen_ok, Sem.run_pure]; rfl)
  unfold eqAny at h
  obtain ⟨u, c1, y1, c2, h1, h2, rfl⟩ := bind_ok h
  obtain ⟨hu, rfl, rfl⟩ := und_ok h1
  split at h2
  · rename_i a b
    obtain ⟨_, c1, y1, c3, h1, h3, rfl⟩ := bind_ok h2
    obtain ⟨hg, rfl, rfl⟩ := chk_ok h1
    obtain ⟨_, c1, y1, c4, h1, h4, rfl⟩ := bind_ok h3
    obtain ⟨ha, rfl, rfl⟩ := chk_ok h1
    obtain ⟨he, rfl, rfl⟩ := opt_ok h4
    refine ⟨rfl, rfl, rfl, fun ρ w => ?_⟩
    obtain ⟨ud, hu', _, hrun⟩ := eqTy_ok (ρ := ρ) 10 t a b r he 10000 (by omega)
    obtain rfl := Option.some.inj (hu.symm.trans hu')
    have hE : (Op.equal t (SV.val ρ (.agg a)) (SV.val ρ (.agg b))).run P w = .ok r w := by
      have := hrun w
      simp only [vv, ha, if_true] at this
      exact this
    exact ⟨hE, ⟨.inl (by simp [SV.val]), .inr (.inr (by simpa using hg))⟩, fin ρ w (by simp [SV.val]) (by simp [SV.val]) (by simp [SV.val]) (by simp [SV.val]) hE⟩
  · rename_i f g
    obtain ⟨_, c1, y1, c3, h1, h3, rfl⟩ := bind_ok h2
    obtain ⟨hb, rfl, rfl⟩ := chk_ok h1
    obtain ⟨rfl, rfl, rfl⟩ := pure_ok h3
    have hb : u = .bool := by cases u <;> simp_all [isBool]
    subst hb
    refine ⟨rfl, rfl, rfl, fun ρ w => ?_⟩
    have hE : (Op.equal t (SV.val ρ (.v (.vb f))) (SV.val ρ (.v (.vb g)))).run P w = .ok (f [] == g []) w := run_equal_plain (run_equalIn_bool' w 9999 t _ _ hu)
    exact ⟨hE, ⟨.inl (by simp [SV.val, Tr.val]), .inl (by simp [SV.val, Tr.val])⟩, fin ρ w (by simp [SV.val, Tr.val]) (by simp [SV.val, Tr.val]) (by simp [SV.val, Tr.val]) (by simp [SV.val, Tr.val]) hE⟩
  · obtain ⟨_, c1, y1, c3, h1, h3, rfl⟩ := bind_ok h2
    obtain ⟨hc, rfl, rfl⟩ := chk_ok h1
    obtain ⟨_, c1, y1, c4, h1, h4, rfl⟩ := bind_ok h3
    obtain ⟨hb, rfl, rfl⟩ := chk_ok h1
    obtain ⟨rfl, rfl, rfl⟩ := pure_ok h4
    obtain ⟨ms, rfl⟩ : ∃ ms, u = .interface ms := by cases u <;> simp_all [isIface]
    refine ⟨rfl, rfl, rfl, fun ρ w => ?_⟩
    have hE : (Op.equal t (SV.val ρ (.v .ve0)) (SV.val ρ (.v .ve0))).run P w = .ok true w := run_equal_plain (eqi_00 w 9999 hu)
    exact ⟨hE, ⟨.inr (.inr hc), .inl (by simp [SV.val, Tr.val])⟩, fin ρ w (by simp [SV.val, Tr.val]) (by simp [SV.val, Tr.val]) (by simp [SV.val, Tr.val]) (by simp [SV.val, Tr.val]) hE⟩
  · rename_i tx ls f
    obtain ⟨_, c1, y1, c3, h1, h3, rfl⟩ := bind_ok h2
    obtain ⟨hc, rfl, rfl⟩ := chk_ok h1
    obtain ⟨_, c1, y1, c4, h1, h4, rfl⟩ := bind_ok h3
    obtain ⟨hb, rfl, rfl⟩ := chk_ok h1
    obtain ⟨rfl, rfl, rfl⟩ := pure_ok h4
    obtain ⟨ms, rfl⟩ : ∃ ms, u = .interface ms := by cases u <;> simp_all [isIface]
    refine ⟨rfl, rfl, rfl, fun ρ w => ?_⟩
    have fin' := fin ρ w
    have h0 : SV.val ρ (.v .ve0) = .nilIface := rfl
    rw [h0] at fin' ⊢
    rcases vx_val ρ tx ls f with ⟨e1, e2⟩ | ⟨e1, v, e2⟩
    · rw [e1, e2] at fin'
      rw [e1, e2]
      exact ⟨run_equal_plain (eqi_00 w 9999 hu), ⟨.inr (.inr hc), .inl (by simp)⟩, fin' (by simp) (by simp) (by simp) (by simp) (run_equal_plain (eqi_00 w 9999 hu))⟩
    · rw [e1, e2] at fin'
      rw [e1, e2]
      exact ⟨run_equal_plain (eqi_10 w 9999 hu _ _), ⟨.inr (.inr hc), .inl (by simp)⟩, fin' (by simp) (by simp) (by simp) (by simp) (run_equal_plain (eqi_10 w 9999 hu _ _))⟩
  · rename_i tx ls f
    obtain ⟨_, c1, y1, c3, h1, h3, rfl⟩ := bind_ok h2
    obtain ⟨hc, rfl, rfl⟩ := chk_ok h1
    obtain ⟨_, c1, y1, c4, h1, h4, rfl⟩ := bind_ok h3
    obtain ⟨hb, rfl, rfl⟩ := chk_ok h1
    obtain ⟨rfl, rfl, rfl⟩ := pure_ok h4
    obtain ⟨ms, rfl⟩ : ∃ ms, u = .interface ms := by cases u <;> simp_all [isIface]
    refine ⟨rfl, rfl, rfl, fun ρ w => ?_⟩
    have fin' := fin ρ w
    have h0 : SV.val ρ (.v .ve0) = .nilIface := rfl
    rw [h0] at fin' ⊢
    rcases vx_val ρ tx ls f with ⟨e1, e2⟩ | ⟨e1, v, e2⟩
    · rw [e1, e2] at fin'
      rw [e1, e2]
      exact ⟨run_equal_plain (eqi_00 w 9999 hu), ⟨.inr (.inr hc), .inl (by simp)⟩, fin' (by simp) (by simp) (by simp) (by simp) (run_equal_plain (eqi_00 w 9999 hu))⟩
    · rw [e1, e2] at fin'
      rw [e1, e2]
      exact ⟨run_equal_plain (eqi_01 w 9999 hu _ _), ⟨.inr (.inr hc), .inl (by simp)⟩, fin' (by simp) (by simp) (by simp) (by simp) (run_equal_plain (eqi_01 w 9999 hu _ _))⟩
  all_goals first
    | exact (fail_ok h2).elim
    | (obtain ⟨_, c1, y1, c3, h1, h3, rfl⟩ := bind_ok h2
       obtain ⟨hb, rfl, rfl⟩ := chk_ok h1
       obtain ⟨rfl, rfl, rfl⟩ := pure_ok h3
       refine ⟨rfl, rfl, rfl, fun ρ w => ?_⟩
       refine (fun hE => ⟨hE, ⟨by simp [SV.val, Tr.val], .inl (by simp [SV.val, Tr.val])⟩, fin ρ w (by simp [SV.val, Tr.val]) (by simp [SV.val, Tr.val]) (by simp [SV.val, Tr.val]) (by simp [SV.val, Tr.val]) hE⟩) ?_
       cases u <;> simp only [isIface, isPtr, isSlice] at hb <;> first
         | (exact absurd hb (by decide))
         | exact run_equal_plain (eqi_10 w 9999 hu _ _)
         | exact run_equal_plain (eqi_01 w 9999 hu _ _)
         | exact run_equal_plain (eqp_00 w 9999 hu)
         | exact run_equal_plain (eqp_10 w 9999 hu _)
         | exact run_equal_plain (eqp_01 w 9999 hu _)
         | exact run_equal_plain (eqs_00 w 9999 hu)
         | exact run_equal_plain (eqs_10 w 9999 hu _ _ _))

end Go.Sx
