/- The engine, part 13: literals of structs, arrays and slices. -/
import Derived.Test.YtankmgnjkcgpaaaDoorSyC
import Derived.Laws.MakeOwn
set_option linter.unusedSimpArgs false
set_option linter.unusedVariables false
namespace Go.Sx

theorem set_mid {α : Type} (pre : List α) (o : α) (old post : List α) (v : α) : (pre ++ (o :: old) ++ post).set pre.length v = (pre ++ [v]) ++ old ++ post := by
  simp [List.set_append]

theorem fold_set (off : Nat) : ∀ (vs : List Value) (k : Nat) (cells : Array Value) (pre old post : List Value), cells.toList = pre ++ old ++ post → pre.length = off + k → old.length = vs.length →
    ((vs.zipIdx k).foldl (fun cs (x : Value × Nat) => cs.setIfInBounds (off + x.2) x.1) cells).toList = pre ++ vs ++ post
  | [], k, cells, pre, old, post, h, _, hl => by
    have : old = [] := List.length_eq_zero_iff.1 hl
    subst this; simpa using h
  | v :: r, k, cells, pre, old, post, h, hp, hl => by
    match old, hl with
    | o :: old', hl =>
      have hl' : old'.length = r.length := by simpa using hl
      rw [List.zipIdx_cons, List.foldl_cons]
      have := fold_set off r (k + 1) (cells.setIfInBounds (off + k) v) (pre ++ [v]) old' post (by rw [Array.toList_setIfInBounds, h, ← hp, set_mid]) (by simp; omega) hl'
      rw [this]; simp

theorem fill_step {place : Nat → Option (Nat × Nat)} {cells : Array Value} {i : Nat} {v : Value} {rest : List (Nat × Value)} {off size : Nat} {pre old post : List Value}
    (hp : place i = some (off, size)) (hv : v.cells.size = size) (hc : cells.toList = pre ++ old ++ post) (ho : pre.length = off) (hl : old.length = size) :
    Instr.fill place cells ((i, v) :: rest) = Instr.fill place (pre ++ v.cells.toList ++ post).toArray rest := by
  have hsz : ¬ (v.cells.size ≠ size ∨ off + v.cells.size > cells.size) := by
    have : cells.size = (pre ++ old ++ post).length := by rw [← Array.length_toList, hc]
    simp at this
    omega
  have hsz' : (decide (v.cells.size ≠ size) || decide (off + v.cells.size > cells.size)) = false := by simpa using hsz
  simp only [Instr.fill, hp, hsz', Bool.false_eq_true, if_false]
  congr 1
  apply Array.ext'
  rw [← Array.foldl_toList, Array.toList_zipIdx]
  exact fold_set off v.cells.toList 0 cells pre old post hc (by omega) (by rw [hl, ← hv]; simp)

theorem setParts_ok {arr : Bool} {place : Nat → Option (Nat × Nat)} (ρ : Con) : ∀ (parts : List (Nat × SV)) (t r : Tr), setParts arr place t parts = some r →
    r.size = t.size ∧ (∀ p ∈ parts, p.2.isJ = false) ∧ Instr.fill place (t.cells ρ []).toArray (parts.map fun p => (p.1, p.2.val ρ)) = some (r.cells ρ []).toArray
  | [], t, r, h => by simp only [setParts, Option.some.injEq] at h; subst h; exact ⟨rfl, by simp, rfl⟩
  | (i, x) :: rest, t, r, h => by
    simp only [setParts] at h
    cases hx : x.tree with
    | none => simp [hx] at h
    | some u =>
      cases hp : place i with
      | none => simp [hx, hp] at h
      | some os =>
        obtain ⟨o, s⟩ := os
        simp only [hx, hp] at h
        split at h
        · rename_i hcond
          simp only [Bool.and_eq_true] at hcond
          obtain ⟨hus, hck⟩ := hcond
          have hus := Nat.eq_of_beq_eq_true hus
          obtain ⟨hcells, hj⟩ := tree_cells hx hck ρ
          have hvs : (x.val ρ).cells.size = s := by rw [← Array.length_toList, hcells, Tr.cells_length]; exact hus
          have key : ∀ (t' : Tr) (pre old post : List Value), t.cells ρ [] = pre ++ old ++ post → pre.length = o → old.length = s → t'.cells ρ [] = pre ++ u.cells ρ [] ++ post → t'.size = t.size →
              setParts arr place t' rest = some r → r.size = t.size ∧ (∀ p ∈ (i, x) :: rest, p.2.isJ = false) ∧
                Instr.fill place (t.cells ρ []).toArray (((i, x) :: rest).map fun p => (p.1, p.2.val ρ)) = some (r.cells ρ []).toArray := by
            intro t' pre old post h1 h2 h3 h4 h5 h6
            obtain ⟨g1, g2, g3⟩ := setParts_ok ρ rest t' r h6
            refine ⟨g1.trans h5, fun p hp' => ?_, ?_⟩
            · rcases List.mem_cons.1 hp' with rfl | hp'
              · exact hj
              · exact g2 p hp'
            · rw [List.map_cons, fill_step hp hvs (pre := pre) (old := old) (post := post) (by simpa using h1) h2 h3, hcells, ← h4]
              exact g3
          cases arr
          · simp only at h
            cases hf : t.fld i with
            | none => simp [hf] at h
            | some ow =>
              obtain ⟨o', w⟩ := ow
              simp only [hf] at h
              split at h
              · rename_i hc2
                simp only [Bool.and_eq_true] at hc2
                have ho := Nat.eq_of_beq_eq_true hc2.1
                have hw := Nat.eq_of_beq_eq_true hc2.2
                cases hs : t.setFld i u with
                | none => simp [hs] at h
                | some t' =>
                  simp only [hs] at h
                  obtain ⟨hz, hcc⟩ := Tr.setFld_cells ρ t i o' w u t' hf hs (by omega)
                  obtain ⟨pre, post, h1, h2, h3⟩ := hcc []
                  exact key t' pre _ post h1 (by omega) (by rw [Tr.cells_length]; omega) h3 hz h
              · simp at h
          · simp only at h
            cases t with
            | ta n e =>
              simp only at h
              split at h
              · rename_i hc2
                simp only [Bool.and_eq_true] at hc2
                have hin : i < n := by simpa [Nat.blt_eq] using hc2.1.1
                have he := Nat.eq_of_beq_eq_true hc2.1.2
                have ho := Nat.eq_of_beq_eq_true hc2.2
                cases hs : Tr.set [.x s i] (.ta n e) [] u with
                | none => simp [hs] at h
                | some t' =>
                  simp only [hs] at h
                  have hg : Tr.get [.x s i] (.ta n e) [] = some (e, [i], [(i, n)]) := by
                    simp [Tr.get, he]
                  obtain ⟨hz, ⟨pre, post, h1, h2, h3⟩, _⟩ := Tr.set_cells ρ _ _ _ _ _ _ u t' hg hs (by simpa using hin)
                  exact key t' pre _ post h1 (by rw [h2, ho]; simp [offs, Stp.off]) (by rw [Tr.cells_length]; omega) h3 hz h
              · simp at h
            | _ => simp at h
        · simp at h

theorem run_mapM_list {P : Program} {α β : Type} (f : α → Sem β) (g : α → β) (w : World) : ∀ (l : List α), (∀ a ∈ l, (f a).run P w = .ok (g a) w) → (l.mapM f).run P w = .ok (l.map g) w
  | [], _ => by simp
  | a :: r, h => by
    rw [List.mapM_cons]
    simp only [Sem.run_bind, h a (by simp), Result.andThen_ok, run_mapM_list f g w r (fun b hb => h b (by simp [hb])), Sem.run_pure, List.map_cons]

theorem run_mapM_array {P : Program} {α β : Type} (f : α → Sem β) (g : α → β) (w : World) (l : Array α) (h : ∀ a ∈ l.toList, (f a).run P w = .ok (g a) w) : (l.mapM f).run P w = .ok (l.map g) w := by
  rw [Array.mapM_eq_mapM_toList]
  simp only [Sem.run_map, run_mapM_list f g w l.toList h, Result.andThen_ok]
  congr 1
  apply Array.ext'; simp

theorem opBuild_ok {P : Program} {t : TypeId} {parts : List (Nat × SV)} {z z' : Aux} {e : Eff} {d : Conds} (h : opBuild P t parts z = .ok e d z') :
    z = z' ∧ (∀ p ∈ parts, p.2.isJ = false) ∧ e.upd = [] ∧ e.drop = [] ∧ e.v.isJ = false ∧
      ∀ (ρ : Con) (w : World), (Instr.build t (parts.map fun p => (p.1, p.2.val ρ)).toArray).run P w = .ok (e.v.val ρ) w := by
  unfold opBuild at h
  obtain ⟨zt, c1, y1, c2, h1, h2, rfl⟩ := bind_ok h
  obtain ⟨rfl, rfl, hl, i, v, hi, hz, hv⟩ := zeroM_ok h1
  obtain ⟨u, c1, y1, c3, h1, h3, rfl⟩ := bind_ok h2
  obtain ⟨hu, rfl, rfl⟩ := und_ok h1
  split at h3
  · rename_i fs
    obtain ⟨_, c1, y1, c4, h1, h4, rfl⟩ := bind_ok h3
    obtain ⟨hall, rfl, rfl⟩ := chk_ok h1
    obtain ⟨r, c1, y1, c5, h1, h5, rfl⟩ := bind_ok h4
    obtain ⟨hr, rfl, rfl⟩ := opt_ok h1
    obtain ⟨rfl, rfl, rfl⟩ := pure_ok h5
    refine ⟨rfl, (setParts_ok con0 parts zt r hr).2.1, rfl, rfl, rfl, fun ρ w => ?_⟩
    have hmap : (fs.mapM fun f => do pure (f.offset, ← sizeOf f.type) : Sem (Array (Nat × Nat))).run P w = .ok (fs.map fun f => (f.offset, P.cellsOf f.type)) w := by
      refine run_mapM_array _ _ w fs (fun f hf => ?_)
      have := List.all_eq_true.1 hall f hf
      obtain ⟨j, hj⟩ := Option.isSome_iff_exists.1 this
      simp only [Sem.run_bind, run_sz hj, Result.andThen_ok, Sem.run_pure, Program.cellsOf, hj, Option.map_some, Option.getD_some]
    have hfill := (setParts_ok ρ parts zt r hr).2.2
    have hplace : (fun i : Nat => (fs.map fun f : Field => (f.offset, P.cellsOf f.type))[i]?) = fun i => (fs[i]?).map fun f : Field => (f.offset, P.cellsOf f.type) := by
      funext i; simp
    simp only [Instr.build, Sem.run_bind, run_zero hi hz, Result.andThen_ok, run_underlying hu, hmap]
    rw [hplace]
    have hz' : v.cells = (zt.cells ρ []).toArray := by apply Array.ext'; simpa using hv ρ
    rw [hz', hfill]
    rfl
  · rename_i n el
    obtain ⟨sz, c1, y1, c4, h1, h4, rfl⟩ := bind_ok h3
    obtain ⟨⟨j, hj, hsz⟩, rfl, rfl⟩ := szOf_ok h1
    cases hq : setParts true (fun i => some (i * sz, sz)) zt parts with
    | some r =>
      rw [hq] at h4
      have hr := hq
      obtain ⟨rfl, rfl, rfl⟩ := pure_ok h4
      refine ⟨rfl, (setParts_ok con0 parts zt r hr).2.1, rfl, rfl, rfl, fun ρ w => ?_⟩
      have hfill := (setParts_ok ρ parts zt r hr).2.2
      simp only [Instr.build, Sem.run_bind, run_zero hi hz, Result.andThen_ok, run_underlying hu, run_sz hj, hsz]
      have hz' : v.cells = (zt.cells ρ []).toArray := by apply Array.ext'; simpa using hv ρ
      rw [hz', hfill]
      rfl
    | none =>
      rw [hq] at h4
      obtain ⟨z2, c1, y1, c5, h1, h5, rfl⟩ := bind_ok h4
      obtain ⟨rfl, rfl, hl2, i2, v2, hi2, hz2, hv2⟩ := zeroRow_ok h1
      obtain rfl := Option.some.inj (hi.symm.trans hi2)
      obtain rfl := Option.some.inj (hz.symm.trans hz2)
      obtain ⟨r, c1, y1, c5, h1, h5, rfl⟩ := bind_ok h5
      obtain ⟨hr, rfl, rfl⟩ := opt_ok h1
      obtain ⟨rfl, rfl, rfl⟩ := pure_ok h5
      refine ⟨rfl, (setParts_ok con0 parts z2 r hr).2.1, rfl, rfl, rfl, fun ρ w => ?_⟩
      have hfill := (setParts_ok ρ parts z2 r hr).2.2
      simp only [Instr.build, Sem.run_bind, run_zero hi hz, Result.andThen_ok, run_underlying hu, run_sz hj, hsz]
      have hz' : v.cells = (z2.cells ρ []).toArray := by apply Array.ext'; simpa using hv2 ρ
      rw [hz', hfill]
      rfl
  · exact (fail_ok h3).elim

theorem Tr.lift_val (ρ : Con) : ∀ (t : Tr) (i : Nat) (js : Ix), t.lift.val ρ (i :: js) = t.val ρ js := by
  intro t
  induction t with
  | ve t v ih => intro i js; simp [Tr.lift, Tr.val, ih]
  | vc t v ih => intro i js; simp [Tr.lift, Tr.val, ih]
  | _ => intro i js; rfl

theorem Tr.lift_cells (ρ : Con) : ∀ (t : Tr) (i : Nat) (js : Ix), t.lift.cells ρ (i :: js) = t.cells ρ js := by
  intro t
  induction t with
  | tc a b ih1 ih2 => intro i js; simp [Tr.lift, Tr.cells, ih1, ih2]
  | ta n t ih => intro i js; simp only [Tr.lift, Tr.cells, List.cons_append, ih]
  | ve t v ih => intro i js; simp [Tr.lift, Tr.cells, Tr.val, Tr.lift_val]
  | vc t v ih => intro i js; simp [Tr.lift, Tr.cells, Tr.val, Tr.lift_val]
  | _ => intro i js; rfl

theorem Tr.lift_size : ∀ (t : Tr), t.lift.size = t.size := by
  intro t
  induction t with
  | tc a b ih1 ih2 => simp [Tr.lift, Tr.size, ih1, ih2]
  | ta n t ih => simp [Tr.lift, Tr.size, ih]
  | _ => simp [Tr.lift, Tr.size]

theorem Tr.lift_labs : ∀ (t : Tr), t.lift.labs = t.labs := by
  intro t
  induction t with
  | tc a b ih1 ih2 => simp [Tr.lift, Tr.labs, ih1, ih2]
  | ta n t ih => simp [Tr.lift, Tr.labs, ih]
  | ve t v ih => simp [Tr.lift, Tr.labs, ih]
  | vc t v ih => simp [Tr.lift, Tr.labs, ih]
  | _ => simp [Tr.lift, Tr.labs]


theorem zeros_row (ρ : Con) (n : Nat) (t : Tr) (zc : Array Value) (hz : zc.toList = t.cells ρ []) (hpos : 0 < t.size) :
    ((Array.range (n * zc.size)).map (zc[· % zc.size]!)).toList = (Tr.ta n t.lift).cells ρ [] := by
  have hs : zc.size = t.size := by rw [← Array.length_toList, hz, Tr.cells_length]
  simp only [Array.toList_map, Array.toList_range, Tr.cells, List.nil_append]
  have hl : ∀ i, t.lift.cells ρ [i] = t.cells ρ [] := fun i => Tr.lift_cells ρ t i []
  induction n with
  | zero => simp
  | succ n ih =>
    rw [List.range_succ, List.flatMap_append, ← ih]
    simp only [List.flatMap_cons, List.flatMap_nil, List.append_nil, hl]
    rw [Nat.succ_mul, List.range_add, List.map_append]
    congr 1
    rw [List.map_map]
    apply List.ext_getElem?
    intro j
    rw [← hz]
    by_cases hj : j < zc.size
    · simp only [List.getElem?_map, List.getElem?_range hj, Option.map_some, Function.comp]
      have : (n * zc.size + j) % zc.size = j := by rw [Nat.mul_add_mod', Nat.mod_eq_of_lt hj]
      rw [this, Array.getElem?_toList, Array.getElem?_eq_getElem hj, getElem!_pos zc j hj]
    · simp [List.getElem?_eq_none (show (List.range zc.size).length ≤ j by simp; omega), hj]

theorem repC_cells (ρ : Con) (z : Tr) : ∀ n, (repC z n).cells ρ [] = (Tr.ta n z.lift).cells ρ []
  | 0 => by simp [repC, Tr.cells]
  | n + 1 => by
    have ih := repC_cells ρ z n
    simp only [Tr.cells, List.nil_append, Tr.lift_cells] at ih ⊢
    simp only [repC, Tr.cells, ih, List.range_succ_eq_map, List.flatMap_cons, List.flatMap_map]

theorem partsOf_ok {sz len : Nat} {z r : Tr} {parts : List (Nat × SV)} (h : partsOf sz len z parts = some r) :
    ∃ _ : Bool, r.size = len * z.size ∧ (∀ p ∈ parts, p.2.isJ = false) ∧
      ∀ ρ : Con, Instr.fill (fun i => some (i * sz, sz)) ((Tr.ta len z.lift).cells ρ []).toArray (parts.map fun p => (p.1, p.2.val ρ)) = some (r.cells ρ []).toArray := by
  unfold partsOf at h
  split at h
  · rename_i r' hr
    simp only [Option.some.injEq] at h
    subst h
    obtain ⟨g1, g2, _⟩ := setParts_ok con0 parts _ _ hr
    exact ⟨true, by rw [g1]; simp [Tr.size, Tr.lift_size], g2, fun ρ => (setParts_ok ρ parts _ _ hr).2.2⟩
  · obtain ⟨g1, g2, _⟩ := setParts_ok con0 parts _ _ h
    refine ⟨false, by rw [g1, repC_size], g2, fun ρ => ?_⟩
    rw [← repC_cells]
    exact (setParts_ok ρ parts _ _ h).2.2

theorem opBuildSlice_ok {P : Program} {H : List Ent} {t : TypeId} {len : Nat} {parts : List (Nat × SV)} {z z' : Aux} {e : Eff} {d : Conds} (h : opBuildSlice P t len parts z = .ok e d z') :
    z'.nl = z.nl + 1 ∧ (∀ p ∈ parts, p.2.isJ = false) ∧ e.v.isJ = false ∧
      ∀ (ρ : Con) (w : World), ∃ ρ' w', (Instr.buildSlice t len (parts.map fun p => (p.1, p.2.val ρ)).toArray).run P w = .ok (e.v.val ρ') w' ∧ EffOK ρ ρ' z.nl z'.nl H e w w' := by
  unfold opBuildSlice at h
  obtain ⟨u, c1, y1, c2, h1, h2, rfl⟩ := bind_ok h
  obtain ⟨hu, rfl, rfl⟩ := und_ok h1
  split at h2
  · rename_i el
    obtain ⟨sz, c1, y1, c3, h1, h3, rfl⟩ := bind_ok h2
    obtain ⟨⟨inf, hi, hsz⟩, rfl, rfl⟩ := szOf_ok h1
    obtain ⟨_, c1, y1, c4, h1, h4, rfl⟩ := bind_ok h3
    obtain ⟨hbig, rfl, rfl⟩ := chk_ok h1
    have hbig : len * sz ≤ 16777216 := by simpa [Nat.ble_eq] using hbig
    obtain ⟨_, c1, y1, c5, h1, h5', rfl⟩ := bind_ok h4
    obtain ⟨hpos, rfl, rfl⟩ := chk_ok h1
    have hpos : 0 < sz := by simpa [Nat.blt_eq] using hpos
    obtain ⟨_, c1, y1, c5, h1, h5, rfl⟩ := bind_ok h5'
    obtain ⟨hsm, rfl, rfl⟩ := chk_ok h1
    rw [Nat.blt_eq] at hsm
    have fin : ∀ (r : Tr) (v : SV), v = .v (.vl z.nl (fun _ => 0) sz [] (fun _ => len)) → r.size = len * sz → below z.nl r.labs = true →
        (∀ ρ w, (Instr.buildSlice t len (parts.map fun p => (p.1, p.2.val ρ)).toArray).run P w = .ok (.slice (some ⟨w.heap.size, 0, none⟩) len len) { w with heap := w.heap.push (.cells (r.cells ρ []).toArray el) }) →
        ∀ (ρ : Con) (w : World), ∃ ρ' w', (Instr.buildSlice t len (parts.map fun p => (p.1, p.2.val ρ)).toArray).run P w = .ok (v.val ρ') w' ∧
          EffOK ρ ρ' z.nl (z.nl + 1) H ⟨v, [⟨z.nl, true, none, sz, r⟩], [], []⟩ w w' := by
      intro r v hv hr hb hrun ρ w
      have hb := below_ok hb
      refine ⟨_, _, ?_, new_ok (P := P) ρ w el (r.cells ρ []).toArray z.nl rfl (fun ρ' hρ j q hj => ?_) (room := len) (wid := sz) (by rw [wd_small hsm]; omega) (by rw [wd_small hsm]; simp [Tr.cells_length, hr]) (fun q hq => by omega)⟩
      · rw [hrun ρ w, hv]
        simp [SV.val, Tr.val, rsOf, sum]
      · rw [Tr.cells_agree r [] (fun k hk => hρ k (by have := hb k hk; omega))] at hj
        simpa using hj
    cases hone : oneOf len parts with
    | some x =>
      simp only [hone] at h5
      obtain ⟨rfl, rfl⟩ : len = 1 ∧ parts = [(0, x)] := by
        unfold oneOf at hone
        split at hone
        · split at hone
          · rename_i hb
            simp only [Option.some.injEq] at hone
            subst hone
            exact ⟨Nat.eq_of_beq_eq_true hb, rfl⟩
          · simp at hone
        · simp at hone
      obtain ⟨tu, c1, y1, c6, h1, h6, rfl⟩ := bind_ok h5
      obtain ⟨hx, rfl, rfl⟩ := opt_ok h1
      obtain ⟨zv, c1, y1, c7, h1, h7, rfl⟩ := bind_ok h6
      obtain ⟨hzv, rfl, rfl⟩ := opt_ok h1
      obtain ⟨_, c1, y1, c8, h1, h8, rfl⟩ := bind_ok h7
      obtain ⟨hus, rfl, rfl⟩ := chk_ok h1
      have hus := Nat.eq_of_beq_eq_true hus
      obtain ⟨_, c1, y1, c9, h1, h9, rfl⟩ := bind_ok h8
      obtain ⟨hck, rfl, rfl⟩ := chk_ok h1
      obtain ⟨l, c1, y1, c10, h1, h10, rfl⟩ := bind_ok h9
      obtain ⟨rfl, rfl, rfl⟩ := newLab_ok h1
      obtain ⟨_, c1, y1, c11, h1, h11, rfl⟩ := bind_ok h10
      obtain ⟨hb, rfl, rfl⟩ := chk_ok h1
      obtain ⟨rfl, rfl, rfl⟩ := pure_ok h11
      simp only [hi, Option.bind_some] at hzv
      refine ⟨rfl, ?_, rfl, fin _ _ rfl (by simp [Tr.size, Tr.lift_size, hus]) (by simpa [Tr.labs, Tr.lift_labs] using hb) (fun ρ w => ?_)⟩
      · intro p hp; simp at hp; subst hp; exact (tree_cells hx hck con0).2
      · obtain ⟨hcells, hj⟩ := tree_cells hx hck ρ
        have hvs : (x.val ρ).cells.size = sz := by rw [← Array.length_toList, hcells, Tr.cells_length]; exact hus
        have hn0 : ¬ (1 * sz > 2 ^ 24) := by omega
        have hn1 : ¬ (1 * sz = 0) := by omega
        simp only [Instr.buildSlice, Sem.run_bind, run_underlying hu, Result.andThen_ok, run_sz hi, hsz, Sem.run_ite, hn0, if_false, hn1, run_zero hi hzv, Sem.run_pure, List.map_cons, List.map_nil]
        have hlen : ((Array.range (1 * sz)).map (zv.cells[· % zv.cells.size]!)).toList.length = sz := by simp
        have hfs := fill_step (place := fun i => some (i * sz, sz)) (cells := (Array.range (1 * sz)).map (zv.cells[· % zv.cells.size]!)) (i := 0) (v := x.val ρ) (rest := []) (off := 0) (size := sz) (pre := []) (old := ((Array.range (1 * sz)).map (zv.cells[· % zv.cells.size]!)).toList) (post := [])
          (by simp) hvs (by simp) rfl hlen
        rw [hfs]
        simp only [Instr.fill, newRow, Sem.run_bind, run_newObj, Result.andThen_ok, Sem.run_pure, List.nil_append, List.append_nil, hcells]
        have : (Tr.ta 1 tu.lift).cells ρ [] = tu.cells ρ [] := by simp [Tr.cells, Tr.lift_cells, List.range_succ]
        rw [this]
    | none =>
      simp only [hone] at h5
      obtain ⟨zt, c1, y1, c6, h1, h6, rfl⟩ := bind_ok h5
      obtain ⟨rfl, rfl, hl, i, v, hi', hz, hv⟩ := zeroM_ok h1
      obtain rfl := Option.some.inj (hi.symm.trans hi')
      obtain ⟨_, c1, y1, c7, h1, h7, rfl⟩ := bind_ok h6
      obtain ⟨hzs, rfl, rfl⟩ := chk_ok h1
      have hzs := Nat.eq_of_beq_eq_true hzs
      obtain ⟨r, c1, y1, c8, h1, h8, rfl⟩ := bind_ok h7
      obtain ⟨hr, rfl, rfl⟩ := opt_ok h1
      obtain ⟨l, c1, y1, c9, h1, h9, rfl⟩ := bind_ok h8
      obtain ⟨rfl, rfl, rfl⟩ := newLab_ok h1
      obtain ⟨_, c1, y1, c10, h1, h10, rfl⟩ := bind_ok h9
      obtain ⟨hb, rfl, rfl⟩ := chk_ok h1
      obtain ⟨rfl, rfl, rfl⟩ := pure_ok h10
      obtain ⟨arr, g1, g2, g3⟩ := partsOf_ok hr
      refine ⟨rfl, g2, rfl, fin _ _ rfl (by rw [g1, hzs]) hb (fun ρ w => ?_)⟩
      have hfill := g3 ρ
      have hzc : v.cells.size = sz := by rw [← Array.length_toList, hv ρ, Tr.cells_length]; exact hzs
      have hn0 : ¬ (len * sz > 2 ^ 24) := by omega
      simp only [Instr.buildSlice, Sem.run_bind, run_underlying hu, Result.andThen_ok, run_sz hi, hsz, Sem.run_ite, hn0, if_false]
      by_cases hlen : len * sz = 0
      · have hl0 : len = 0 := by
          rcases Nat.eq_zero_or_pos len with h | h
          · exact h
          · have := Nat.mul_pos h hpos; omega
        subst hl0
        have e1 : (Tr.ta 0 zt.lift).cells ρ [] = [] := by simp [Tr.cells]
        rw [e1] at hfill
        simp only [Nat.zero_mul, if_true, Sem.run_pure, Result.andThen_ok]
        have e2 : (Array.range 0).map (fun x => (#[] : Array Value)[x % (#[] : Array Value).size]!) = ([] : List Value).toArray := by simp
        rw [e2, hfill]
        simp only [newRow, Sem.run_bind, run_newObj, Result.andThen_ok, Sem.run_pure]
      · simp only [hlen, if_false, Sem.run_bind, run_zero hi hz, Result.andThen_ok, Sem.run_pure]
        have hzr := zeros_row ρ len zt v.cells (hv ρ) (by omega)
        rw [hzc] at hzr
        have e2 : (Array.range (len * sz)).map (v.cells[· % v.cells.size]!) = ((Tr.ta len zt.lift).cells ρ []).toArray := by
          apply Array.ext'; rw [hzc, hzr]
        rw [e2, hfill]
        simp only [newRow, Sem.run_bind, run_newObj, Result.andThen_ok, Sem.run_pure]
  · exact (fail_ok h2).elim

theorem opMakeSlice_ok {P : Program} {H : List Ent} {t : TypeId} {l c : SV} {z z' : Aux} {e : Eff} {d : Conds} (h : opMakeSlice P t l c z = .ok e d z') (hd : OkL d) :
    z.nl ≤ z'.nl ∧ l.isJ = false ∧ c.isJ = false ∧ ∀ (ρ : Con) (w : World), ∃ ρ' w', (Instr.makeSlice t (l.val ρ) (c.val ρ)).run P w = .ok (e.v.val ρ') w' ∧ EffOK ρ ρ' z.nl z'.nl H e w w' := by
  unfold opMakeSlice at h
  obtain ⟨u, c1, y1, c2, h1, h2, rfl⟩ := bind_ok h
  obtain ⟨hu, rfl, rfl⟩ := und_ok h1
  split at h2
  · rename_i el f g
    obtain ⟨inf, c1, y1, c3, h1, h3, rfl⟩ := bind_ok h2
    obtain ⟨hi, rfl, rfl⟩ := opt_ok h1
    simp only at h3
    obtain ⟨_, c1, y1, c4, h1, h4, rfl⟩ := bind_ok h3
    obtain ⟨hpos, rfl, rfl⟩ := chk_ok h1
    have hpos : 0 < inf.size := by simpa [Nat.blt_eq] using hpos
    obtain ⟨_, c1, y1, c5, h1, h5, rfl⟩ := bind_ok h4
    obtain ⟨hbytes, rfl, rfl⟩ := chk_ok h1
    have hbytes : 0 < inf.bytes := by simpa [Nat.blt_eq] using hbytes
    obtain ⟨zt, c1, y1, c6, h1, h6, rfl⟩ := bind_ok h5
    obtain ⟨rfl, rfl, hl, i, v, hi', hz, hv⟩ := zeroM_ok h1
    obtain rfl := Option.some.inj (hi.symm.trans hi')
    obtain ⟨_, c1, y1, c7, h1, h7, rfl⟩ := bind_ok h6
    obtain ⟨hzs, rfl, rfl⟩ := chk_ok h1
    have hzs := Nat.eq_of_beq_eq_true hzs
    obtain ⟨_, c1, y1, c8, h1, h7', rfl⟩ := bind_ok h7
    obtain ⟨hsm, rfl, rfl⟩ := chk_ok h1
    rw [Nat.blt_eq] at hsm
    obtain ⟨_, c1, y1, c8, h1, h8, rfl⟩ := bind_ok h7'
    obtain ⟨hb1, hn1⟩ := need_ok h1
    obtain ⟨_, c9, y9, c10, h9, h10, rfl⟩ := bind_ok h8
    obtain ⟨hb2, hn2⟩ := need_ok h9
    obtain ⟨ll, c11, y11, c12, h11, h12, rfl⟩ := bind_ok h10
    obtain ⟨rfl, rfl, rfl⟩ := newLab_ok h11
    obtain ⟨rfl, rfl, rfl⟩ := pure_ok h12
    simp only [OkL_append] at hd
    have hb1 : 0 ≤ f [] ∧ f [] ≤ g [] := by simpa using hb1 (by simp_all)
    have hb2 : (inf.bytes : Int) * g [] ≤ 281474976710656 := by simpa using hb2 (by simp_all)
    have hnl : y9.nl = z.nl := hn2.trans hn1
    refine ⟨by simp only; omega, rfl, rfl, fun ρ w => ?_⟩
    have hg63 : g [] ≤ 9223372036854775807 := by
      have : (1 : Int) * g [] ≤ (inf.bytes : Int) * g [] := Int.mul_le_mul_of_nonneg_right (by omega) (by omega)
      omega
    have hrun := run_make (P := P) w t el inf v hu hi hz .i64 .i64 (f []) (g []) hb1.1 hb1.2 hb2 hg63
    have hzr := zeros_row ρ (g []).toNat zt v.cells (hv ρ) (by omega)
    have hvs : v.cells.size = inf.size := by rw [← Array.length_toList, hv ρ, Tr.cells_length]; exact hzs
    rw [hvs] at hzr
    have hcells : (madeCells v.cells ((g []).toNat * inf.size)).toList = (Tr.ta (g []).toNat zt.lift).cells ρ [] := by
      rw [← hzr]
      unfold madeCells
      by_cases hm : (g []).toNat * inf.size = 0
      · simp [hm]
      · simp only [hm, if_false, hvs]
    have key := new_ok (P := P) (H := H) (v := .v (.vl y9.nl (fun _ => 0) inf.size [] (fun _ => (f []).toNat))) (rd := []) (drop := []) ρ w el (madeCells v.cells ((g []).toNat * inf.size)) y9.nl (n := z.nl) hnl (t := .ta (g []).toNat zt.lift) (room := (g []).toNat) (wid := inf.size)
      (fun ρ' hρ j q hj => by
        rw [Tr.cells_agree (.ta (g []).toNat zt.lift) [] (fun k hk => by simp only [Tr.labs, Tr.lift_labs, hl] at hk; cases hk), ← hcells] at hj
        simpa using hj)
      (by rw [wd_small hsm]; simp [Tr.size, Tr.lift_size, hzs])
      (by rw [wd_small hsm, ← Array.length_toList, hcells, Tr.cells_length]; simp [Tr.size, Tr.lift_size, hzs]) (fun q hq => by omega)
    have key : EffOK ρ _ z.nl (z.nl + 1) H _ w _ := key
    refine ⟨_, _, ?_, by simpa only [hnl] using key⟩
    have e1 : SV.val ρ (SV.v (Tr.vi IntKind.i64 f)) = .int .i64 (f []) := rfl
    have e2 : SV.val ρ (SV.v (Tr.vi IntKind.i64 g)) = .int .i64 (g []) := rfl
    rw [e1, e2, hrun]
    simp [SV.val, Tr.val, rsOf, sum, hnl]
  · exact (fail_ok h2).elim

end Go.Sx
