/- The engine, part 6: stores, new objects, addresses. -/
import Derived.Test.YtankmgnjkcgpaaaDoorSy5
set_option linter.unusedSimpArgs false
set_option linter.unusedVariables false
namespace Go.Sx

theorem SepL.single (ρ : Con) (x : Ent) : SepL ρ [x] := by
  intro a ha b hb hne
  simp at ha hb; subst ha; subst hb; exact absurd rfl hne

theorem Tr.cellOk_cells (ρ : Con) : ∀ (t : Tr) (is : Ix), t.cellOk = true → ∀ v ∈ t.cells ρ is, v.oneCell' = true := by
  intro t
  induction t with
  | t0 => intro is _ v hv; simp [Tr.cells] at hv
  | tc a b ih1 ih2 =>
    intro is h v hv
    simp only [Tr.cellOk] at h
    split at h
    · rename_i ha
      simp only [Tr.cells, List.mem_append] at hv
      rcases hv with hv | hv
      · exact ih1 is ha v hv
      · exact ih2 is h v hv
    · simp at h
  | ta n t ih =>
    intro is h v hv
    simp only [Tr.cells, List.mem_flatMap] at hv
    obtain ⟨i, _, hv⟩ := hv
    exact ih _ h v hv
  | vr v => intro is h u hu; simp [Tr.cells, Tr.val] at hu; subst hu; exact h
  | vl lab mem sz cuts len => intro is h u hu; simp only [Tr.cells, List.mem_singleton] at hu; subst hu; simp only [Tr.val]; split <;> rfl
  | vx t ls f => intro is h u hu; simp only [Tr.cells, List.mem_singleton] at hu; subst hu; simp only [Tr.val]; cases nthL ls (f is) <;> rfl
  | _ => intro is h u hu; simp only [Tr.cells, List.mem_singleton] at hu; subst hu; simp [Tr.val, Value.oneCell']

theorem tree_cells {x : SV} {u : Tr} (h : x.tree = some u) (hc : u.cellOk = true) (ρ : Con) : (x.val ρ).cells.toList = u.cells ρ [] ∧ x.isJ = false := by
  cases x with
  | lb b => simp only [SV.tree, Option.some.injEq] at h; subst h; exact ⟨rfl, rfl⟩
  | v t =>
    simp only [SV.tree] at h
    split at h
    · rename_i hl
      simp only [Option.some.injEq] at h; subst h
      refine ⟨?_, rfl⟩
      rw [Tr.cells_leaf ρ hl]
      have := Tr.cellOk_cells ρ t [] hc (t.val ρ []) (by rw [Tr.cells_leaf ρ hl]; simp)
      simp only [SV.val]
      cases hv : t.val ρ [] <;> simp_all [Value.cells, Value.oneCell']
    · simp at h
  | agg t => simp only [SV.tree, Option.some.injEq] at h; subst h; exact ⟨by simp [SV.val, Value.cells], rfl⟩
  | tup l => simp [SV.tree] at h
  | junk => simp [SV.tree] at h

theorem opStore_ok {P : Program} {H : List Ent} {t : TypeId} {a v : SV} {x y : Aux} {e : Eff} {d : Conds} (h : opStore P H t a v x = .ok e d y) (hd : OkL d) :
    y.nl = x.nl ∧ a.isJ = false ∧ v.isJ = false ∧ e.v = .tup [] ∧ ∀ (ρ : Con) (w : World), Hp ρ H e.rd w →
      ∃ w', (Instr.storeAt t (a.val ρ) (v.val ρ)).run P w = .ok () w' ∧ EffOK ρ ρ x.nl x.nl H e w w' := by
  unfold opStore at h
  split at h
  · rename_i lab mem path
    obtain ⟨en, c1, y1, c2, h1, h2, rfl⟩ := bind_ok h
    obtain ⟨hl, rfl, rfl⟩ := opt_ok h1
    obtain ⟨_, c1, y1, c3, h1, h3, rfl⟩ := bind_ok h2
    obtain ⟨hown, rfl, rfl⟩ := chk_ok h1
    obtain ⟨_, c1, y1, c4, h1, h4, rfl⟩ := bind_ok h3
    obtain ⟨hfam, rfl, rfl⟩ := chk_ok h1
    obtain ⟨_, c1, y1, c5, h1, h5, rfl⟩ := bind_ok h4
    obtain ⟨hmem, rfl, rfl⟩ := chk_ok h1
    have hmem := Nat.eq_of_beq_eq_true hmem
    obtain ⟨u, c1, y1, c6, h1, h6, rfl⟩ := bind_ok h5
    obtain ⟨hu, rfl, rfl⟩ := opt_ok h1
    obtain ⟨n, c1, y1, c7, h1, h7, rfl⟩ := bind_ok h6
    obtain ⟨⟨inf, hi, hsz⟩, rfl, rfl⟩ := szOf_ok h1
    obtain ⟨_, c1, y1, c8, h1, h8, rfl⟩ := bind_ok h7
    obtain ⟨hpos, rfl, rfl⟩ := chk_ok h1
    have hpos : 0 < n := by simpa [Nat.blt_eq] using hpos
    obtain ⟨_, c1, y1, c9, h1, h9, rfl⟩ := bind_ok h8
    obtain ⟨hus, rfl, rfl⟩ := chk_ok h1
    have hus := Nat.eq_of_beq_eq_true hus
    obtain ⟨_, c1, y1, c10, h1, h10, rfl⟩ := bind_ok h9
    obtain ⟨hcok, rfl, rfl⟩ := chk_ok h1
    obtain ⟨⟨u0, js, cs⟩, c1, y1, c11, h1, h11, rfl⟩ := bind_ok h10
    obtain ⟨hg, rfl, rfl⟩ := opt_ok h1
    simp only at h11
    obtain ⟨_, c1, y1, c12, h1, h12, rfl⟩ := bind_ok h11
    obtain ⟨hu0, rfl, rfl⟩ := chk_ok h1
    have hu0 := Nat.eq_of_beq_eq_true hu0
    obtain ⟨_, c13, y2, c14, h13, h14, rfl⟩ := bind_ok h12
    obtain ⟨hcs, hn⟩ := askAll_ok h13
    obtain ⟨t', c1, y1, c15, h1, h15, rfl⟩ := bind_ok h14
    obtain ⟨hset, rfl, rfl⟩ := opt_ok h1
    obtain ⟨rfl, rfl, rfl⟩ := pure_ok h15
    simp only [OkL_append] at hd
    have hcs := hcs (by simp only [hd])
    have hfam : en.fam = none := by simpa using hfam
    refine ⟨hn, rfl, (tree_cells hu hcok (fun _ _ => ⟨0, 0, 0, 0, false, none, false⟩)).2, rfl, fun ρ w hH => ?_⟩
    have hholds := hH lab (by simp) en hl
    have hlab := look_lab hl
    unfold Ent.holds at hholds
    simp only [hfam, hlab, hown] at hholds
    obtain ⟨hz, ⟨pre, post, hc1, hc2, hc3⟩, _⟩ := Tr.set_cells ρ path en.t [] u0 js cs u t' hg hset hcs
    rw [hc1] at hholds
    have hl0 : (u0.cells ρ js).length = n := by rw [Tr.cells_length]; exact hu0
    have hl1 : (u.cells ρ []).length = n := by rw [Tr.cells_length]; exact hus
    have hnil : (ρ lab 0).isNil = false := by
      cases hq : (ρ lab 0).isNil with
      | false => rfl
      | true =>
        have := hholds.2.1 hq
        simp only [List.append_eq_nil_iff] at this
        rw [this.1.2] at hl0; simp at hl0; omega
    obtain ⟨g2, g3, _⟩ := (hholds.2.2 hnil).2.2.1 rfl
    have hroom := (hholds.2.2 hnil).2.1
    simp only [List.length_append, hl0, hc2] at hroom
    refine ⟨w.setCells (ρ lab 0).blk ((ρ lab 0).base + offs path) (u.cells ρ []), ?_, ?_⟩
    · have hst := run_storeCells_cells (P := P) (ρ lab 0).blk ((ρ lab 0).base + offs path) (u.cells ρ []) 0 w
        (fun j hj => by have := (g3 (offs path + j) (by omega)).1; simpa [Nat.add_assoc] using this)
        (fun j hj => by have := (g3 (offs path + j) (by omega)).2; simpa [Nat.add_assoc] using this)
        (Tr.cellOk_cells ρ u [] hcok)
      have hcells := (tree_cells hu hcok ρ).1
      have hcs2 : (v.val ρ).cells.size = inf.size := by rw [← Array.length_toList, hcells, hl1, hsz]
      simp only [Instr.storeAt, show SV.val ρ (.v (.vp lab mem path)) = .pointer (some ⟨(ρ lab (mem [])).blk, (ρ lab (mem [])).base + offs path, none⟩) from rfl, hmem, Instr.sureAddr, Sem.run_bind, Sem.run_pure, Result.andThen_ok, storeVar, run_sz hi, hcs2, ne_eq, not_true_eq_false, if_false, hcells]
      simpa using hst
    · have hocc : en.occ ρ (ρ lab 0).blk := ⟨0, by simp [hfam], by rw [hlab]; exact hnil, .inl hown, by rw [hlab]⟩
      have htouch : Touch ρ H ⟨.tup [], [{ en with t := t' }], [], [lab]⟩ (ρ lab 0).blk := ⟨lab, en, hl, hown, by simp, .inl (by simp [hlab]), hocc⟩
      refine ⟨fun _ _ => rfl, ?_, Fr.setCells w _ _ _ htouch, ?_, SepL.single _ _⟩
      · intro z hz'
        simp only [List.mem_singleton] at hz'
        subst hz'
        unfold Ent.holds
        simp only [hfam, hlab, hown]
        rw [hc3]
        exact hholds.store hnil hc2 (by rw [hl0, hl1])
      · intro z hz' k hk
        simp only [List.mem_singleton] at hz'
        subst hz'
        left
        obtain ⟨m, hm, h1, h2, h3⟩ := hk
        simp only [hfam] at hm
        subst hm
        simp only [hlab] at h3
        rw [← h3]; exact htouch
  · exact (fail_ok h).elim

theorem new_ok {P : Program} {H : List Ent} {t : Tr} {n room wid : Nat} {v : SV} {rd : List Nat} {drop : List Nat} (ρ : Con) (w : World) (elem : TypeId) (cells : Array Value) (l : Nat) (hl : l = n)
    (hcells : ∀ ρ' : Con, (∀ k, k ≠ l → ρ' k = ρ k) → ∀ (j : Nat) (v : Value), (t.cells ρ' [])[j]? = some v → cells[j]? = some v) (hroom : t.size ≤ room * wd wid) (hsz : room * wd wid ≤ cells.size) (hty : ∀ q, wid / 1000000 = q + 1 → q / 2 = elem ∧ cells.size = (if q % 2 = 0 then 1 else room) * wd wid) :
    let L : Loc := ⟨w.heap.size, 0, room, wid, false, none, false⟩
    let ρ' : Con := fun k => if k = l then fun _ => L else ρ k
    EffOK ρ ρ' n (n + 1) H ⟨v, [⟨l, true, none, wid, t⟩], drop, rd⟩ w { w with heap := w.heap.push (.cells cells elem) } := by
  intro L ρ'
  subst hl
  have hne : ∀ k, k ≠ l → ρ' k = ρ k := fun k hk => by simp [ρ', hk]
  have hcell : ∀ j, ({ w with heap := w.heap.push (.cells cells elem) } : World).cell? ⟨w.heap.size, j, none⟩ = cells[j]? := fun j => by
    simp [World.cell?, Array.getElem?_push]
  refine ⟨fun k hk => hne k (by omega), ?_, Fr.alloc _ _ _, ?_, SepL.single _ _⟩
  · intro z hz
    simp only [List.mem_singleton] at hz
    subst hz
    unfold Ent.holds
    simp only [ρ', if_true]
    refine ⟨WidOK.refl _, fun h => (by simp [L] at h), fun _ => ⟨fun j v hj => ?_, by simp only [Tr.cells_length, L]; exact hroom, fun _ => ⟨by simp [L], fun j hj => ?_, fun q hq => ⟨rfl, cells, by rw [(hty q hq).1]; simp [L], (hty q hq).2⟩⟩, fun h => by simp [L] at h⟩⟩
    · show ({ w with heap := w.heap.push (.cells cells elem) } : World).cell? ⟨w.heap.size, 0 + j, none⟩ = some v
      rw [Nat.zero_add, hcell]
      exact hcells ρ' hne j v hj
    · simp only [L] at hj
      constructor
      · show (({ w with heap := w.heap.push (.cells cells elem) } : World).cell? ⟨w.heap.size, 0 + j, none⟩).isSome = true
        rw [Nat.zero_add, hcell, Array.getElem?_eq_getElem (by omega)]; rfl
      · simp [World.frozen?, Array.getElem?_push, L]
  · intro z hz k hk
    simp only [List.mem_singleton] at hz
    subst hz
    right
    obtain ⟨m, hm, h1, h2, h3⟩ := hk
    simp only [ρ', if_true, L] at h3
    omega

theorem opBox_ok {P : Program} {H : List Ent} {t : Tr} {x y : Aux} {e : Eff} {d : Conds} {ty : TypeId} (h : opBox ty t x = .ok e d y) :
    y.nl = x.nl + 1 ∧ e.v.isJ = false ∧ ∀ (ρ : Con) (w : World) (v : Value), v.cells.toList = t.cells ρ [] →
      ∃ ρ' w', (Instr.box ty v).run P w = .ok (e.v.val ρ') w' ∧ EffOK ρ ρ' x.nl y.nl H e w w' := by
  unfold opBox at h
  obtain ⟨_, c1, y1, c2, h1, h2, rfl⟩ := bind_ok h
  obtain ⟨hc, rfl, rfl⟩ := chk_ok h1
  obtain ⟨_, c1, y1, c5, h1, h2, rfl⟩ := bind_ok h2
  obtain ⟨hsm, rfl, rfl⟩ := chk_ok h1
  rw [Nat.blt_eq] at hsm
  obtain ⟨l, c1, y1, c3, h1, h3, rfl⟩ := bind_ok h2
  obtain ⟨rfl, rfl, rfl⟩ := newLab_ok h1
  obtain ⟨_, c1, y1, c4, h1, h4, rfl⟩ := bind_ok h3
  obtain ⟨hb, rfl, rfl⟩ := chk_ok h1
  obtain ⟨rfl, rfl, rfl⟩ := pure_ok h4
  refine ⟨rfl, rfl, fun ρ w v hv => ?_⟩
  have hb := below_ok hb
  refine ⟨_, _, ?_, new_ok (P := P) ρ w ty v.cells x.nl rfl (fun ρ' hρ j u hj => ?_) (room := 1) (wid := boxed t.size ty) (by rw [wd_boxed hsm]; omega) (by rw [wd_boxed hsm, ← Array.length_toList, hv, Tr.cells_length]; omega) (fun q hq => ⟨(boxed_ty hsm hq).1, by rw [wd_boxed hsm, ← Array.length_toList, hv, Tr.cells_length, if_pos (boxed_ty hsm hq).2]; omega⟩)⟩
  · simp [Instr.box, newVar, newRow, SV.val, Tr.val, offs]
  · rw [Tr.cells_agree t [] (fun k hk => hρ k (by have := hb k hk; omega)), ← hv] at hj
    simpa using hj

end Go.Sx
