/- The engine, part 5: what the evaluator says of an operation is so. -/
import Derived.Test.YtankmgnjkcgpaaaDoorSy4
set_option linter.unusedSimpArgs false
set_option linter.unusedVariables false
namespace Go.Sx

def OkL (c : Conds) : Prop := ∀ p ∈ c, p.1 = p.2

theorem OkL_append {c d : Conds} : OkL (c ++ d) ↔ OkL c ∧ OkL d := by
  unfold OkL; constructor
  · exact fun h => ⟨fun p hp => h p (by simp [hp]), fun p hp => h p (by simp [hp])⟩
  · rintro ⟨h1, h2⟩ p hp
    rcases List.mem_append.1 hp with h | h
    · exact h1 p h
    · exact h2 p h

theorem bind_ok {α β : Type} {m : M α} {f : α → M β} {x z : Aux} {b : β} {cd : Conds} (h : (m >>= f) x = .ok b cd z) :
    ∃ a c y d, m x = .ok a c y ∧ f a y = .ok b d z ∧ cd = c ++ d := by
  change M.bind m f x = _ at h
  unfold M.bind at h
  cases hm : m x with
  | bad n => simp [hm] at h
  | todo c => simp [hm] at h
  | ok a c y =>
    simp only [hm] at h
    cases hf : f a y with
    | bad n => simp [hf] at h
    | todo c => simp [hf] at h
    | ok b' d z' =>
      simp only [hf, R.ok.injEq] at h
      obtain ⟨rfl, rfl, rfl⟩ := h
      exact ⟨a, c, y, d, rfl, hf, rfl⟩

theorem pure_ok {α : Type} {a b : α} {x y : Aux} {c : Conds} (h : (pure a : M α) x = .ok b c y) : b = a ∧ c = [] ∧ x = y := by
  change M.pure a x = _ at h
  simp only [M.pure, R.ok.injEq] at h
  exact ⟨h.1.symm, h.2.1.symm, h.2.2⟩

theorem fail_ok {α : Type} {n : Nat} {b : α} {x y : Aux} {c : Conds} (h : (M.fail n : M α) x = .ok b c y) : False := by simp [M.fail] at h

theorem chk_ok {c : Bool} {n : Nat} {x y : Aux} {u : Unit} {d : Conds} (h : chk c n x = .ok u d y) : c = true ∧ d = [] ∧ x = y := by
  unfold chk at h
  cases c
  · simp at h
  · simp only [R.ok.injEq] at h; exact ⟨rfl, h.2.1.symm, h.2.2⟩

theorem opt_ok {α : Type} {o : Option α} {n : Nat} {x y : Aux} {a : α} {d : Conds} (h : opt o n x = .ok a d y) : o = some a ∧ d = [] ∧ x = y := by
  unfold opt at h
  cases o
  · simp at h
  · simp only [R.ok.injEq] at h; exact ⟨by rw [h.1], h.2.1.symm, h.2.2⟩

theorem newLab_ok {x y : Aux} {a : Nat} {d : Conds} (h : newLab x = .ok a d y) : a = x.nl ∧ d = [] ∧ y = { x with nl := x.nl + 1 } := by
  simp only [newLab, R.ok.injEq] at h; exact ⟨h.1.symm, h.2.1.symm, h.2.2.symm⟩

theorem ask_ok {c b : Bool} {x y : Aux} {d : Conds} (h : ask c x = .ok b d y) : (OkL d → c = b) ∧ y.nl = x.nl := by
  unfold ask at h
  split at h
  · cases c
    · simp at h
    · simp only [R.ok.injEq] at h; obtain ⟨rfl, rfl, rfl⟩ := h; exact ⟨fun _ => rfl, rfl⟩
  · cases c
    · simp only [R.ok.injEq] at h; obtain ⟨rfl, rfl, rfl⟩ := h; exact ⟨fun _ => rfl, rfl⟩
    · simp at h
  · simp only [R.ok.injEq] at h; obtain ⟨rfl, rfl, rfl⟩ := h; exact ⟨fun hd => hd (c, _) (by simp), rfl⟩
  · simp only [R.ok.injEq] at h; obtain ⟨rfl, rfl, rfl⟩ := h; exact ⟨fun _ => rfl, rfl⟩
  · simp at h

theorem need_ok {c : Bool} {x y : Aux} {u : Unit} {d : Conds} (h : need c x = .ok u d y) : (OkL d → c = true) ∧ y.nl = x.nl := by
  unfold need at h
  obtain ⟨a, c1, y1, c2, h1, h2, rfl⟩ := bind_ok h
  obtain ⟨h3, h4⟩ := ask_ok h1
  cases a
  · simp only [Bool.false_eq_true, if_false] at h2; exact (fail_ok h2).elim
  · simp only [if_true] at h2
    obtain ⟨_, rfl, rfl⟩ := pure_ok h2
    exact ⟨fun hd => h3 (OkL_append.1 hd).1, h4⟩

theorem askAll_ok : ∀ {l : List (Nat × Nat)} {x y : Aux} {u : Unit} {d : Conds}, askAll l x = .ok u d y → (OkL d → ∀ c ∈ l, c.1 < c.2) ∧ y.nl = x.nl
  | [], x, y, u, d, h => by
    obtain ⟨_, _, rfl⟩ := pure_ok h
    exact ⟨fun _ c hc => by simp at hc, rfl⟩
  | (i, n) :: r, x, y, u, d, h => by
    simp only [askAll] at h
    obtain ⟨_, c1, y1, c2, h1, h2, rfl⟩ := bind_ok h
    obtain ⟨h3, h4⟩ := need_ok h1
    obtain ⟨h5, h6⟩ := askAll_ok h2
    refine ⟨fun hd c hc => ?_, h6.trans h4⟩
    obtain ⟨hd1, hd2⟩ := OkL_append.1 hd
    rcases List.mem_cons.1 hc with rfl | hc
    · simpa [Nat.blt_eq] using h3 hd1
    · exact h5 hd2 c hc

/-! ### What is known of operands and of the heap -/

def SV.isJ : SV → Bool
  | .junk => true
  | _ => false

def gtop (P : Program) : Nat := P.globals.size + P.globals.size

structure GlobOK (P : Program) (ρ : Con) : Prop where
  at_ : ∀ g, g < P.globals.size → (ρ g 0).blk = g ∧ (ρ g 0).base = 0
  apart : ∀ g g', g < P.globals.size → g' < P.globals.size → g ≠ g' → ¬ ((ρ (P.globals.size + g) 0).blk = (ρ (P.globals.size + g') 0).blk ∧ (ρ (P.globals.size + g) 0).base = (ρ (P.globals.size + g') 0).base)
  thaw : ∀ g, g < P.globals.size → (ρ (P.globals.size + g) 0).thw = true ∧ (ρ (P.globals.size + g) 0).isNil = false

theorem GlobOK.agree {P : Program} {ρ ρ' : Con} (h : ∀ l, l < gtop P → ρ' l = ρ l) (hG : GlobOK P ρ) : GlobOK P ρ' := by
  unfold gtop at h
  refine ⟨fun g hg => ?_, fun g g' hg hg' hne => ?_, fun g hg => ?_⟩
  · rw [h g (by omega)]; exact hG.at_ g hg
  · rw [h _ (by omega), h _ (by omega)]; exact hG.apart g g' hg hg' hne
  · rw [h _ (by omega)]; exact hG.thaw g hg

def OpdOK (P : Program) (ρ : Con) (env : List SV) (e : Operand → Value) (x : Operand) : Prop := (opd P env x).isJ = false → e x = (opd P env x).val ρ

def Hp (ρ : Con) (H : List Ent) (rd : List Nat) (w : World) : Prop := ∀ l ∈ rd, ∀ e, look H l = some e → e.holds ρ w

def Touch (ρ : Con) (H : List Ent) (e : Eff) (k : Nat) : Prop :=
  ∃ l x, look H l = some x ∧ x.own = true ∧ l ∈ e.rd ∧ (l ∈ e.upd.map (·.lab) ∨ l ∈ e.drop) ∧ x.occ ρ k

def SepL (ρ : Con) (l : List Ent) : Prop := ∀ x ∈ l, ∀ y ∈ l, x.lab ≠ y.lab → x.own = true → ∀ k, x.occ ρ k → ¬ y.occ ρ k

structure EffOK (ρ ρ' : Con) (n n' : Nat) (H : List Ent) (e : Eff) (w w' : World) : Prop where
  agree : ∀ l, (l < n ∨ n' ≤ l) → ρ' l = ρ l
  upd : ∀ x ∈ e.upd, x.holds ρ' w'
  frame : Fr (Touch ρ H e) w w'
  fresh : ∀ x ∈ e.upd, ∀ k, x.occ ρ' k → Touch ρ H e k ∨ w.heap.size ≤ k
  sep : SepL ρ' e.upd

def Yields (r : Result Next) (v : Value) (w' : World) : Prop := r = .ok (.value v) w' ∨ (r = .ok .skip w' ∧ v = undef)

def Does (P : Program) (ρ : Con) (n n' : Nat) (H : List Ent) (e : Eff) (w : World) (r : Result Next) : Prop :=
  ∃ ρ' w' v, Yields r v w' ∧ (e.v.isJ = false → v = e.v.val ρ') ∧ EffOK ρ ρ' n n' H e w w'

theorem EffOK.pure {ρ : Con} {n : Nat} {H : List Ent} {v : SV} {rd : List Nat} {w : World} : EffOK ρ ρ n n H ⟨v, [], [], rd⟩ w w :=
  ⟨fun _ _ => rfl, fun x hx => (by simp at hx), Fr.refl _ _, fun x hx => (by simp at hx), fun x hx => (by simp at hx)⟩

theorem EffOK.drew {ρ : Con} {n : Nat} {H : List Ent} {v : SV} {rd : List Nat} {w : World} {k : Nat} : EffOK ρ ρ n n H ⟨v, [], [], rd⟩ w { w with drawn := k } :=
  ⟨fun _ _ => rfl, fun x hx => (by simp at hx), Fr.drew _ _ _, fun x hx => (by simp at hx), fun x hx => (by simp at hx)⟩

theorem Does.pure {P : Program} {ρ : Con} {n : Nat} {H : List Ent} {v : SV} {rd : List Nat} {w : World} {r : Result Next} {u : Value}
    (hr : r = .ok (.value u) w) (hv : v.isJ = false → u = v.val ρ) : Does P ρ n n H ⟨v, [], [], rd⟩ w r :=
  ⟨ρ, w, u, .inl hr, hv, EffOK.pure⟩

theorem ofV_val (ρ : Con) (v : Value) : (ofV v).val ρ = v ∧ (ofV v).isJ = false := by
  cases v with
  | pointer a => cases a <;> simp [ofV, SV.val, Tr.val, SV.isJ]
  | slice a n m =>
    cases a with
    | none =>
      cases n <;> cases m <;> simp [ofV, SV.val, Tr.val, SV.isJ]
    | some a => simp [ofV, SV.val, Tr.val, SV.isJ]
  | string s => cases s; simp [ofV, SV.val, Tr.val, SV.isJ]
  | _ => simp [ofV, SV.val, Tr.val, SV.isJ]

theorem SV.un_val (ρ : Con) (s : SV) : s.un.val ρ = s.val ρ ∧ s.un.isJ = s.isJ := by
  cases s <;> simp [SV.un, SV.val, Tr.val, SV.isJ]

theorem OpdOK.v {P : Program} {ρ : Con} {env : List SV} {e : Operand → Value} {x : Operand} {t : Tr} (h : OpdOK P ρ env e x) (ho : opd P env x = .v t) : e x = t.val ρ [] := by
  have := h (by rw [ho]; rfl); rw [ho] at this; exact this
theorem OpdOK.agg {P : Program} {ρ : Con} {env : List SV} {e : Operand → Value} {x : Operand} {t : Tr} (h : OpdOK P ρ env e x) (ho : opd P env x = .agg t) : e x = .agg (t.cells ρ []).toArray := by
  have := h (by rw [ho]; rfl); rw [ho] at this; exact this

/-! ### Types -/

theorem szOf_ok {P : Program} {t : TypeId} {x y : Aux} {a : Nat} {d : Conds} (h : szOf P t x = .ok a d y) : (∃ i, P.info? t = some i ∧ i.size = a) ∧ d = [] ∧ x = y := by
  obtain ⟨h1, h2, h3⟩ := opt_ok h
  cases hi : P.info? t with
  | none => simp [hi] at h1
  | some i => simp [hi] at h1; exact ⟨⟨i, rfl, h1⟩, h2, h3⟩

theorem und_ok {P : Program} {t : TypeId} {x y : Aux} {a : TypeDesc} {d : Conds} (h : und P t x = .ok a d y) : P.underlying t = some a ∧ d = [] ∧ x = y := opt_ok h

theorem isAggB_ok {P : Program} {t : TypeId} {x y : Aux} {a : Bool} {d : Conds} (h : isAggB P t x = .ok a d y) : (∃ u, P.underlying t = some u ∧ aggD u = a) ∧ d = [] ∧ x = y := by
  unfold isAggB at h
  obtain ⟨u, c1, y1, c2, h1, h2, rfl⟩ := bind_ok h
  obtain ⟨hu, rfl, rfl⟩ := und_ok h1
  obtain ⟨rfl, rfl, rfl⟩ := pure_ok h2
  exact ⟨⟨u, hu, rfl⟩, rfl, rfl⟩

theorem run_isAgg {P : Program} {t : TypeId} {u : TypeDesc} (h : P.underlying t = some u) (w : World) : (isAgg t).run P w = .ok (aggD u) w := by
  unfold isAgg
  simp only [Sem.run_bind, run_underlying h, Result.andThen_ok]
  cases u <;> rfl

theorem run_sz {P : Program} {t : TypeId} {i : TypeInfo} (h : P.info? t = some i) (w : World) : (sizeOf t).run P w = .ok i.size w := by
  unfold sizeOf typeInfo
  simp [h]

theorem below_ok {n : Nat} : ∀ {l : List Nat}, below n l = true → ∀ k ∈ l, k < n
  | [], _, k, hk => by simp at hk
  | a :: r, h, k, hk => by
    simp only [below] at h
    split at h
    · rename_i hlt
      rcases List.mem_cons.1 hk with rfl | hk
      · simpa [Nat.blt_eq] using hlt
      · exact below_ok h k hk
    · simp at h

theorem root_ok {e : Ent} {mem : Nat} {x y : Aux} {tt : Tr} {is : Ix} {d : Conds} (h : root e mem x = .ok (tt, is) d y) : y.nl = x.nl ∧ (OkL d → ∀ (ρ : Con) (w : World), e.holds ρ w → Lies (ρ e.lab mem) e.own e.wid (tt.cells ρ is) w) ∧
    (OkL d → ∀ (ρ : Con) k, (ρ e.lab mem).isNil = false → (e.own = true ∨ tt.size ≠ 0) → (ρ e.lab mem).blk = k → e.occ ρ k) ∧ (e.fam = none → tt = e.t) := by
  unfold root at h
  cases hf : e.fam with
  | none =>
    simp only [hf] at h
    obtain ⟨_, c1, y1, c2, h1, h2, rfl⟩ := bind_ok h
    obtain ⟨h3, rfl, rfl⟩ := chk_ok h1
    obtain ⟨h5, rfl, rfl⟩ := pure_ok h2
    simp only [Prod.mk.injEq] at h5
    obtain ⟨rfl, rfl⟩ := h5
    have h3 := Nat.eq_of_beq_eq_true h3
    subst h3
    exact ⟨rfl, fun _ ρ w hh => by unfold Ent.holds at hh; simpa [hf] using hh, fun _ ρ k h1 h2 h3 => ⟨0, by simp [hf], h1, by simpa only [Ent.tr, hf] using h2, h3⟩, fun _ => rfl⟩
  | some lc =>
    simp only [hf] at h
    obtain ⟨_, c1, y1, c2, h1, h2, rfl⟩ := bind_ok h
    obtain ⟨h3, h4⟩ := need_ok h1
    obtain ⟨h5, rfl, rfl⟩ := pure_ok h2
    simp only [Prod.mk.injEq] at h5
    obtain ⟨rfl, rfl⟩ := h5
    refine ⟨h4, fun hd ρ w hh => ?_, fun hd ρ k g1 g2 g3 => ⟨mem, ?_, g1, by simpa only [Ent.tr, hf] using g2, g3⟩, fun h => by cases h⟩
    · have hlt : mem < lc.1 := by simpa [Nat.blt_eq] using h3 (OkL_append.1 hd).1
      unfold Ent.holds at hh; simp only [hf] at hh; exact hh mem hlt
    · have hlt : mem < lc.1 := by simpa [Nat.blt_eq] using h3 (OkL_append.1 hd).1
      simp [hf, hlt]

theorem mkV_ok {g : Bool} {t : Tr} {x y : Aux} {v : SV} {d : Conds} (h : mkV g t x = .ok v d y) : d = [] ∧ x = y ∧ v.isJ = false ∧
    (∀ ρ, v.val ρ = if g then .agg (t.cells ρ []).toArray else t.val ρ []) ∧ (g = false → t.leaf = true) := by
  unfold mkV at h
  cases g
  · obtain ⟨_, c1, y1, c2, h1, h2, rfl⟩ := bind_ok h
    obtain ⟨h3, rfl, rfl⟩ := chk_ok h1
    obtain ⟨rfl, rfl, rfl⟩ := pure_ok h2
    exact ⟨rfl, rfl, rfl, fun ρ => by simp [SV.val], fun _ => h3⟩
  · obtain ⟨rfl, rfl, rfl⟩ := pure_ok h
    exact ⟨rfl, rfl, rfl, fun ρ => by simp [SV.val], fun h => by simp at h⟩

/-! ### Load -/

theorem opLoad_ok {P : Program} {H : List Ent} {t : TypeId} {a : SV} {x y : Aux} {e : Eff} {d : Conds} (h : opLoad P H t a x = .ok e d y) (hd : OkL d) :
    y.nl = x.nl ∧ e.upd = [] ∧ e.drop = [] ∧ e.v.isJ = false ∧ ∀ (ρ : Con) (w : World), Hp ρ H e.rd w → (Instr.loadAt t (a.val ρ)).run P w = .ok (e.v.val ρ) w := by
  unfold opLoad at h
  split at h
  · rename_i lab mem path
    obtain ⟨en, c1, y1, c2, h1, h2, rfl⟩ := bind_ok h
    obtain ⟨hl, rfl, rfl⟩ := opt_ok h1
    obtain ⟨⟨tt, is⟩, c1, y2, c3, h1, h3, rfl⟩ := bind_ok h2
    obtain ⟨hn1, hroot, _, _⟩ := root_ok h1
    simp only at h3
    obtain ⟨⟨u, js, cs⟩, c4, y3, c5, h4, h5, rfl⟩ := bind_ok h3
    obtain ⟨hg, rfl, rfl⟩ := opt_ok h4
    obtain ⟨_, c6, y4, c7, h6, h7, rfl⟩ := bind_ok h5
    obtain ⟨hcs, hn2⟩ := askAll_ok h6
    obtain ⟨g, c8, y5, c9, h8, h9, rfl⟩ := bind_ok h7
    obtain ⟨⟨ud, hu, hud⟩, rfl, rfl⟩ := isAggB_ok h8
    obtain ⟨n, c10, y6, c11, h10, h11, rfl⟩ := bind_ok h9
    obtain ⟨⟨inf, hi, hsz⟩, rfl, rfl⟩ := szOf_ok h10
    obtain ⟨_, c12, y7, c13, h12, h13, rfl⟩ := bind_ok h11
    obtain ⟨hsize, rfl, rfl⟩ := chk_ok h12
    have hsize := Nat.eq_of_beq_eq_true hsize
    obtain ⟨v, c14, y8, c15, h14, h15, rfl⟩ := bind_ok h13
    obtain ⟨rfl, rfl, hj, hv, hleaf⟩ := mkV_ok h14
    obtain ⟨rfl, rfl, rfl⟩ := pure_ok h15
    simp only [OkL_append] at hd
    refine ⟨hn2.trans hn1, rfl, rfl, hj, fun ρ w hH => ?_⟩
    have hlies := hroot hd.2.1 ρ w (hH lab (by simp) en hl)
    have hlab := look_lab hl
    rw [hlab] at hlies
    obtain ⟨pre, post, hc, hp⟩ := Tr.get_cells ρ path tt is u js cs hg (hcs hd.2.2.2.1)
    rw [hc] at hlies
    have hnil : (ρ lab (mem [])).isNil = false ∨ (ρ lab (mem [])).isNil = true := by cases (ρ lab (mem [])).isNil <;> simp
    have hlen : (u.cells ρ js).length = n := by rw [Tr.cells_length]; exact hsize
    -- the cells of the part as a list
    rcases hnil with hnil | hnil
    · have hload := run_loadCells_mid P hlies hnil hp
      simp only [Instr.loadAt, show SV.val ρ (.v (.vp lab mem path)) = .pointer (some ⟨(ρ lab (mem [])).blk, (ρ lab (mem [])).base + offs path, none⟩) from rfl, Instr.sureAddr, Sem.run_bind, Sem.run_pure, Result.andThen_ok, loadVar]
      rw [run_isAgg hu, hud]
      simp only [Result.andThen_ok]
      cases g
      · simp only [Bool.false_eq_true, if_false, run_load]
        have hlf := hleaf rfl
        rw [Tr.inst_leaf] at hlf
        have hcell := (hlies.2.2 hnil).1 (offs path) (u.val ρ js) (by
          rw [Tr.cells_leaf ρ hlf, List.append_assoc, List.getElem?_append_right (by omega)]
          simp [hp])
        rw [hcell, hv ρ]
        simp [Tr.inst_val]
      · simp only [if_true, Sem.run_bind, run_sz hi, Result.andThen_ok]
        rw [hsz, ← hlen, hload]
        simp only [Result.andThen_ok, Sem.run_pure, hv ρ, if_true, Tr.inst_cells, List.append_nil]
    · -- nothing lies there: then the part is empty, and no load of cells takes place
      have hemp := hlies.2.1 hnil
      simp only [List.append_eq_nil_iff] at hemp
      have hu0 : u.cells ρ js = [] := hemp.1.2
      simp only [Instr.loadAt, show SV.val ρ (.v (.vp lab mem path)) = .pointer (some ⟨(ρ lab (mem [])).blk, (ρ lab (mem [])).base + offs path, none⟩) from rfl, Instr.sureAddr, Sem.run_bind, Sem.run_pure, Result.andThen_ok, loadVar]
      rw [run_isAgg hu, hud]
      simp only [Result.andThen_ok]
      cases g
      · have hlf := hleaf rfl
        rw [Tr.inst_leaf] at hlf
        rw [Tr.cells_leaf ρ hlf] at hu0
        simp at hu0
      · have h0 : n = 0 := by rw [← hlen, hu0]; rfl
        simp only [if_true, Sem.run_bind, run_sz hi, Result.andThen_ok]
        rw [hsz, h0]
        simp [loadCells, loadCellsFrom, hv ρ, Tr.inst_cells, hu0]
  · exact (fail_ok h).elim

end Go.Sx
