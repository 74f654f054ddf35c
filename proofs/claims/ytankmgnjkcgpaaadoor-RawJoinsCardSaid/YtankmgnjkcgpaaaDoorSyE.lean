/- The engine, part 14: append. -/
import Derived.Test.YtankmgnjkcgpaaaDoorSyD
import Derived.Deep.AppendSrc
import Derived.Deep.DeepAppendWide
import Derived.Lib.ConvBytes
import Derived.Lib.AppendZeros
set_option linter.unusedSimpArgs false
set_option linter.unusedVariables false
namespace Go.Sx

theorem Tr.sub_val (ρ : Con) (is : Ix) (st : Nat) : ∀ (t : Tr) (j : Nat) (js : Ix), (t.sub is st).val ρ (j :: js) = t.val ρ (is ++ (st + j) :: js) := by
  intro t
  induction t with
  | ve t v ih => intro j js; simp only [Tr.sub, Tr.val, ih]
  | vc t v ih => intro j js; simp only [Tr.sub, Tr.val, ih]
  | _ => intro j js; rfl

theorem Tr.sub_cells (ρ : Con) (is : Ix) (st : Nat) : ∀ (t : Tr) (j : Nat) (js : Ix), (t.sub is st).cells ρ (j :: js) = t.cells ρ (is ++ (st + j) :: js) := by
  intro t
  induction t with
  | tc a b ih1 ih2 => intro j js; simp only [Tr.sub, Tr.cells, ih1, ih2]
  | ta n t ih =>
    intro j js
    simp only [Tr.sub, Tr.cells]
    apply flatMap_congr
    intro x _
    have := ih j (js ++ [x])
    simpa using this
  | t0 => intro j js; rfl
  | ve t v ih => intro j js; simp only [Tr.sub, Tr.cells]; rw [show Tr.ve t (v.sub is st) = (Tr.ve t v).sub is st from rfl, Tr.sub_val]
  | vc t v ih => intro j js; simp only [Tr.sub, Tr.cells]; rw [show Tr.vc t (v.sub is st) = (Tr.vc t v).sub is st from rfl, Tr.sub_val]
  | _ => intro j js; rfl

theorem Tr.sub_size (is : Ix) (st : Nat) : ∀ (t : Tr), (t.sub is st).size = t.size := by
  intro t
  induction t with
  | tc a b ih1 ih2 => simp [Tr.sub, Tr.size, ih1, ih2]
  | ta n t ih => simp [Tr.sub, Tr.size, ih]
  | _ => simp [Tr.sub, Tr.size]

theorem appT_ok (ρ : Con) (N st : Nat) : ∀ (u g r : Tr), appT N st u g = some r → r.size = u.size ∧ g.size = u.size ∧
    ∀ (i : Nat) (js : Ix), r.cells ρ (i :: js) = if i < N then u.cells ρ ((st + i) :: js) else g.cells ρ ((i - N) :: js) := by
  intro u
  induction u with
  | vb f => intro g r h; cases g <;> simp [appT] at h; subst h; exact ⟨rfl, rfl, fun i js => by simp only [Tr.cells, Tr.val, appF]; split <;> rfl⟩
  | vi k f =>
    intro g r h; cases g <;> simp [appT] at h
    obtain ⟨hk, h⟩ := h
    have hk := sameK_eq hk
    subst hk; subst h
    exact ⟨rfl, rfl, fun i js => by simp only [Tr.cells, Tr.val, appF]; split <;> rfl⟩
  | vs f => intro g r h; cases g <;> simp [appT] at h; subst h; exact ⟨rfl, rfl, fun i js => by simp only [Tr.cells, Tr.val, appF]; split <;> rfl⟩
  | vl lab mem sz cuts len =>
    intro g r h; cases g <;> simp [appT] at h
    obtain ⟨⟨⟨⟨h1, h2⟩, h3⟩, h4⟩, h⟩ := h
    subst h1; subst h2; subst h3; subst h4; subst h
    exact ⟨rfl, rfl, fun i js => by simp only [Tr.cells, Tr.val, appF]; by_cases hi : i < N <;> simp [hi]⟩
  | vx t ls f =>
    intro g r h; cases g <;> simp [appT] at h
    obtain ⟨⟨h1, h2⟩, h⟩ := h
    have h2 := sameL_ok h2
    subst h1; subst h2; subst h
    exact ⟨rfl, rfl, fun i js => by simp only [Tr.cells, Tr.val, appF]; by_cases hi : i < N <;> simp [hi]⟩
  | vl0 => intro g r h; cases g <;> simp [appT] at h; subst h; exact ⟨rfl, rfl, fun i js => by simp [Tr.cells, Tr.val]⟩
  | ve0 => intro g r h; cases g <;> simp [appT] at h; subst h; exact ⟨rfl, rfl, fun i js => by simp [Tr.cells, Tr.val]⟩
  | vp0 => intro g r h; cases g <;> simp [appT] at h; subst h; exact ⟨rfl, rfl, fun i js => by simp [Tr.cells, Tr.val]⟩
  | t0 => intro g r h; cases g <;> simp [appT] at h; subst h; exact ⟨rfl, rfl, fun i js => by simp [Tr.cells]⟩
  | tc a b iha ihb =>
    intro g r h; cases g <;> simp only [appT] at h <;> try (simp at h)
    rename_i c d
    split at h
    · rename_i x y hx hy
      obtain ⟨a1, a2, a3⟩ := iha _ _ hx
      obtain ⟨b1, b2, b3⟩ := ihb _ _ hy
      simp at h; subst h
      exact ⟨by simp [Tr.size, a1, b1], by simp [Tr.size, a2, b2], fun i js => by simp only [Tr.cells, a3, b3]; split <;> rfl⟩
    · simp at h
  | ta n a iha =>
    intro g r h; cases g <;> simp only [appT] at h <;> try (simp at h)
    rename_i m b
    split at h
    · rename_i hb
      have hb := Nat.eq_of_beq_eq_true hb
      subst hb
      split at h
      · rename_i x hx
        obtain ⟨a1, a2, a3⟩ := iha _ _ hx
        simp at h; subst h
        exact ⟨by simp [Tr.size, a1], by simp [Tr.size, a2], fun i js => by
          simp only [Tr.cells, List.cons_append, a3]
          split <;> rfl⟩
      · simp at h
    · simp at h
  | _ => intro g r h; cases g <;> simp [appT] at h

theorem appT_row (ρ : Con) {N st : Nat} {u g r : Tr} (h : appT N st u g = some r) (m : Nat) (is : Ix) (his : is = []) :
    (Tr.ta (N + m) r).cells ρ is = ((List.range N).flatMap fun i => u.cells ρ [st + i]) ++ (Tr.ta m g).cells ρ is := by
  subst his
  obtain ⟨_, _, hr⟩ := appT_ok ρ N st u g r h
  simp only [Tr.cells, List.nil_append]
  rw [List.range_add, List.flatMap_append]
  congr 1
  · apply flatMap_congr
    intro i hi
    rw [hr i []]
    rw [if_pos (by simpa using hi)]
  · rw [List.flatMap_map]
    apply flatMap_congr
    intro i hi
    rw [hr (N + i) [], if_neg (by omega), Nat.add_sub_cancel_left]

theorem appM_ok {k st : Nat} {u g r : Tr} {x y : Aux} {d : Conds} (h : appM k st u g x = .ok r d y) : y.nl = x.nl ∧
    (OkL d → ∀ (ρ : Con) (m : Nat), (Tr.ta (k + m) r).cells ρ [] = ((List.range k).flatMap fun i => u.cells ρ [st + i]) ++ (Tr.ta m g).cells ρ []) := by
  unfold appM at h
  cases hc : appT k st u g with
  | some r' =>
    simp only [hc] at h
    obtain ⟨rfl, rfl, rfl⟩ := pure_ok h
    exact ⟨rfl, fun _ ρ m => appT_row ρ hc m [] rfl⟩
  | none =>
    simp only [hc] at h
    obtain ⟨_, c1, y1, c2, h1, h2, rfl⟩ := bind_ok h
    obtain ⟨_, rfl, rfl⟩ := chk_ok h1
    obtain ⟨_, c3, y3, c4, h3, h4, rfl⟩ := bind_ok h2
    obtain ⟨hk, hn⟩ := need_ok h3
    obtain ⟨rfl, rfl, rfl⟩ := pure_ok h4
    refine ⟨hn, fun hd ρ m => ?_⟩
    simp only [OkL_append] at hd
    have hk := Nat.eq_of_beq_eq_true (hk hd.2.1)
    subst hk
    simp

theorem row_part {n sz st k : Nat} {t : Tr} (ρ : Con) (is : Ix) (ht : t.size = sz) (h : st + k ≤ n) :
    ∃ pre post, (Tr.ta n t).cells ρ is = pre ++ ((List.range k).flatMap fun i => t.cells ρ (is ++ [st + i])) ++ post ∧ pre.length = st * sz := by
  obtain ⟨q, rfl⟩ : ∃ q, n = st + (k + q) := ⟨n - st - k, by omega⟩
  refine ⟨(List.range st).flatMap fun i => t.cells ρ (is ++ [i]), (List.range q).flatMap fun i => t.cells ρ (is ++ [st + (k + i)]), ?_, ?_⟩
  · simp only [Tr.cells]
    rw [List.range_add, List.flatMap_append, List.flatMap_map, List.range_add, List.flatMap_append, List.flatMap_map, List.append_assoc]
  · rw [flatMap_length _ _ sz (fun i _ => by rw [Tr.cells_length, ht])]; simp

theorem strEl_cells (ρ : Con) (s : List UInt8) : (Tr.ta s.length (strEl s)).cells ρ [] = byteCells ⟨s.toArray⟩ := by
  simp only [Tr.cells, strEl, byteCells, List.nil_append, Tr.val]
  apply List.ext_getElem?
  intro i
  rw [← List.map_eq_flatMap, List.getElem?_map, List.getElem?_map]
  by_cases hi : i < s.length
  · rw [List.getElem?_range hi, List.getElem?_eq_getElem hi]
    simp [List.getD, List.getElem?_eq_getElem hi]
  · rw [List.getElem?_eq_none (by simp; omega), List.getElem?_eq_none (by omega)]
    rfl

theorem Lies.mid {L : Loc} {own : Bool} {wid : Nat} {pre mid post : List Value} {w : World} (h : Lies L own wid (pre ++ mid ++ post) w) (hn : L.isNil = false) {o : Nat} (ho : pre.length = o) {j : Nat} {v : Value} (hj : mid[j]? = some v) :
    w.cell? ⟨L.blk, L.base + o + j, none⟩ = some v := by
  have hl : j < mid.length := by
    rcases Nat.lt_or_ge j mid.length with h | h
    · exact h
    · rw [List.getElem?_eq_none h] at hj; cases hj
  have := (h.2.2 hn).1 (o + j) v (by
    rw [List.append_assoc, List.getElem?_append_right (by omega), List.getElem?_append_left (by omega), ← hj]; congr 1; omega)
  rw [Nat.add_assoc]; exact this

theorem row_nil {n sz : Nat} {t : Tr} {ρ : Con} {is : Ix} (ht : t.size = sz) (hz : 0 < sz) (h : (Tr.ta n t).cells ρ is = []) : n = 0 := by
  have hl : ((Tr.ta n t).cells ρ is).length = n * sz := by rw [Tr.cells_length]; simp [Tr.size, ht]
  rw [h] at hl
  rcases Nat.eq_zero_or_pos n with h0 | h0
  · exact h0
  · have := Nat.mul_pos h0 hz; simp at hl; omega

theorem sub_row (ρ : Con) (is : Ix) (st m : Nat) (t : Tr) : (Tr.ta m (t.sub is st)).cells ρ [] = (List.range m).flatMap fun i => t.cells ρ (is ++ [st + i]) := by
  simp only [Tr.cells, List.nil_append]
  apply flatMap_congr
  intro i _
  exact Tr.sub_cells ρ is st t i []

theorem srcOf_ok {P : Program} {H : List Ent} {tx : TypeId} {sz : Nat} {x : SV} {z z' : Aux} {m : Nat} {g : Tr} {rd : List Nat} {d : Conds} (h : srcOf P H tx sz x z = .ok (m, g, rd) d z') :
    z'.nl = z.nl ∧ x.isJ = false ∧ (OkL d → g.size = sz → 0 < sz → g.cellOk = true → ∀ (ρ : Con) (w : World), Hp ρ H rd w → Src P sz tx (x.val ρ) m ((Tr.ta m g).cells ρ []) w) := by
  unfold srcOf at h
  obtain ⟨u, c1, y1, c2, h1, h2, rfl⟩ := bind_ok h
  obtain ⟨hu, rfl, rfl⟩ := und_ok h1
  split at h2
  · rename_i s
    obtain ⟨_, c1, y1, c3, h1, h3, rfl⟩ := bind_ok h2
    obtain ⟨hsz, rfl, rfl⟩ := chk_ok h1
    obtain ⟨he, rfl, rfl⟩ := pure_ok h3
    simp only [Prod.mk.injEq] at he
    obtain ⟨rfl, rfl, rfl⟩ := he
    have hsz := Nat.eq_of_beq_eq_true hsz
    subst hsz
    refine ⟨rfl, rfl, fun _ _ _ _ ρ w _ => ?_⟩
    rw [strEl_cells]
    have := Src.ofString (P := P) w hu ⟨(s []).toArray⟩
    rw [ba_size] at this
    exact this
  · rename_i el lab mem sz' cuts len
    obtain ⟨_, c1, y1, c3, h1, h3, rfl⟩ := bind_ok h2
    obtain ⟨hsz, rfl, rfl⟩ := chk_ok h1
    have hsz := Nat.eq_of_beq_eq_true hsz
    subst hsz
    obtain ⟨⟨n, t, is⟩, c4, y4, c5, h4, h5, rfl⟩ := bind_ok h3
    obtain ⟨hn1, en, hl, hw, ht, hts, hz, hlies, _⟩ := rowOf_ok h4
    simp only at h5
    obtain ⟨_, c6, y6, c7, h6, h7, rfl⟩ := bind_ok h5
    obtain ⟨hle, hn2⟩ := need_ok h6
    obtain ⟨he, rfl, rfl⟩ := pure_ok h7
    simp only [Prod.mk.injEq] at he
    obtain ⟨rfl, rfl, rfl⟩ := he
    refine ⟨hn2.trans hn1, rfl, fun hd hgs hpos hck ρ w hH => ?_⟩
    simp only [OkL_append] at hd
    have hle := hle hd.2.2.2.1
    rw [Nat.ble_eq] at hle
    have hL := hlies hd.2.2.1 ρ w (hH lab (by simp) en hl)
    have hone := Tr.cellOk_cells ρ (Tr.ta (len []) (t.sub is (sum cuts))) [] hck
    have hlen : ((Tr.ta (len []) (t.sub is (sum cuts))).cells ρ []).length = len [] * sz := by rw [Tr.cells_length]; simp [Tr.size, Tr.sub_size, hts]
    cases hnil : (ρ lab (mem [])).isNil with
    | true =>
      have h0 := row_nil hts hz (hL.2.1 hnil)
      have hl0 : len [] = 0 := by omega
      rw [hl0] at hone hlen ⊢
      have e1 : (Tr.ta 0 (t.sub is (sum cuts))).cells ρ [] = [] := by simpa using hlen
      rw [e1]
      simp only [SV.val, Tr.val, hnil, if_true, hl0]
      cases (ρ lab (mem [])).adr with
      | none => exact Src.ofNil w hu 0
      | some a => exact Src.ofSlice w hu a 0 0 [] (by simp) (fun j u hj => by simp at hj) (fun u hu' => by cases hu')
    | false =>
      simp only [SV.val, Tr.val, hnil, Bool.false_eq_true, if_false]
      refine Src.ofSlice w hu _ _ _ _ hlen (fun j u hj => ?_) hone
      rw [sub_row] at hj
      obtain ⟨pre, post, hc, hp⟩ := row_part (n := n) ρ is hts hle
      have hmpos : 0 < len [] := by
        rcases Nat.eq_zero_or_pos (len []) with h | h
        · rw [h] at hj; simp at hj
        · exact h
      obtain ⟨_, g2, _⟩ := hL.row hts hz (show sum cuts < n by omega)
      rw [hc] at hL
      have := hL.mid hnil hp hj
      rw [rsOf_sum _ cuts 0 (by omega), addr_add]
      exact this
  · rename_i el lab path sz' st len cap
    obtain ⟨_, c1, y1, c3, h1, h3, rfl⟩ := bind_ok h2
    obtain ⟨hsz, rfl, rfl⟩ := chk_ok h1
    have hsz := Nat.eq_of_beq_eq_true hsz
    subst hsz
    obtain ⟨en, c1, y1, c6, h1, h6, rfl⟩ := bind_ok h3
    obtain ⟨hl, rfl, rfl⟩ := opt_ok h1
    obtain ⟨⟨tt, is⟩, c1, y1, c7, h1, h7, rfl⟩ := bind_ok h6
    obtain ⟨hn1, hroot, _, _⟩ := root_ok h1
    simp only at h7
    obtain ⟨⟨u, js, cs⟩, c8, y8, c9, h8, h9, rfl⟩ := bind_ok h7
    obtain ⟨hg, rfl, rfl⟩ := opt_ok h8
    simp only at h9
    obtain ⟨_, c10, y10, c11, h10, h11, rfl⟩ := bind_ok h9
    obtain ⟨hcs, hn2⟩ := askAll_ok h10
    split at h11
    · rename_i n t
      obtain ⟨_, c12, y12, c13, h12, h13, rfl⟩ := bind_ok h11
      obtain ⟨hts, rfl, rfl⟩ := chk_ok h12
      have hts := Nat.eq_of_beq_eq_true hts
      obtain ⟨_, c12, y12, c14, h12, h14, rfl⟩ := bind_ok h13
      obtain ⟨hle, hn3⟩ := need_ok h12
      obtain ⟨he, rfl, rfl⟩ := pure_ok h14
      simp only [Prod.mk.injEq] at he
      obtain ⟨rfl, rfl, rfl⟩ := he
      refine ⟨hn3.trans (hn2.trans hn1), rfl, fun hd hgs hpos hck ρ w hH => ?_⟩
      simp only [OkL_append] at hd
      have hle := hle hd.2.2.2.2.2.2.2.1
      rw [Nat.ble_eq] at hle
      have hL := hroot hd.2.2.2.1 ρ w (hH lab (by simp) en hl)
      rw [look_lab hl] at hL
      obtain ⟨pre, post, hc, hp⟩ := Tr.get_cells ρ path tt is _ js cs hg (hcs hd.2.2.2.2.2.1)
      rw [hc] at hL
      have hone := Tr.cellOk_cells ρ (Tr.ta m (t.sub js st)) [] hck
      have hlen : ((Tr.ta m (t.sub js st)).cells ρ []).length = m * sz := by rw [Tr.cells_length]; simp [Tr.size, Tr.sub_size, hts]
      simp only [SV.val, Tr.val]
      refine Src.ofSlice w hu _ _ _ _ hlen (fun j u hj => ?_) hone
      rw [sub_row] at hj
      obtain ⟨pre', post', hc', hp'⟩ := row_part (n := n) ρ js hts hle
      cases hnil : (ρ lab 0).isNil with
      | true =>
        have h0 := hL.2.1 hnil
        simp only [List.append_eq_nil_iff] at h0
        have h0 := row_nil hts hpos h0.1.2
        have : m = 0 := by omega
        subst this
        simp at hj
      | false =>
        have e : pre ++ (pre' ++ ((List.range m).flatMap fun i => t.cells ρ (js ++ [st + i])) ++ post') ++ post = (pre ++ pre') ++ ((List.range m).flatMap fun i => t.cells ρ (js ++ [st + i])) ++ (post' ++ post) := by simp
        rw [hc', e] at hL
        have := hL.mid hnil (o := offs path + st * sz) (by simp [hp, hp']) hj
        rw [addr_add, Nat.add_assoc (ρ lab 0).base]
        exact this
    · exact (fail_ok h11).elim
  · exact (fail_ok h2).elim
end Go.Sx

namespace Go.Sx

theorem put_ok {ρ : Con} {H : List Ent} {w w' : World} {l n wid : Nat} {t : Tr} {v : SV} {drop rd : List Nat} {L : Loc} (hl : l = n)
    (hlies : ∀ ρ' : Con, (∀ k, k ≠ l → ρ' k = ρ k) → Lies L true wid (t.cells ρ' []) w') (hfr : Fr (Touch ρ H ⟨v, [⟨l, true, none, wid, t⟩], drop, rd⟩) w w')
    (hfresh : L.isNil = false → Touch ρ H ⟨v, [⟨l, true, none, wid, t⟩], drop, rd⟩ L.blk ∨ w.heap.size ≤ L.blk) :
    EffOK ρ (fun k => if k = l then fun _ => L else ρ k) n (n + 1) H ⟨v, [⟨l, true, none, wid, t⟩], drop, rd⟩ w w' := by
  subst hl
  have hne : ∀ k, k ≠ l → (fun k => if k = l then fun _ => L else ρ k) k = ρ k := fun k hk => by simp [hk]
  refine ⟨fun k hk => hne k (by omega), ?_, hfr, ?_, SepL.single _ _⟩
  · intro z hz
    simp only [List.mem_singleton] at hz
    subst hz
    unfold Ent.holds
    simp only [if_true]
    exact hlies _ hne
  · intro z hz k hk
    simp only [List.mem_singleton] at hz
    subst hz
    obtain ⟨m, hm, h1, h2, h3⟩ := hk
    simp only [if_true] at h1 h3
    rw [← h3]; exact hfresh h1

theorem run_append_zero {P : Program} (w : World) (t tx ty e : TypeId) (i : TypeInfo) (ht : P.underlying t = some (.slice e)) (hi : P.info? e = some i) (base : Option Addr) (x : Value) (hs : Src P i.size tx x 0 [] w) :
    (Builtin.append_ #[t, tx] ty #[.slice base 0 0, x]).run P w = .ok (.slice base 0 0) w := by
  have hl : ∀ (x : Addr), (loadCells x 0).run P w = .ok #[] w := fun x => by simpa using run_loadCells_list (P := P) w x [] (by simp)
  rcases hs.kind with ⟨e', hk⟩ | hk <;> cases base <;> simp [Builtin.append_, run_underlying ht, run_underlying hk, sizeOf, typeInfo, hi, hs.len, hs.cells, storeCells]

theorem zeroCells_size (z : Array Value) (n : Nat) : (Builtin.zeroCells z n).size = n * z.size := by simp [Builtin.zeroCells]

theorem opAppZ_ok {P : Program} {H : List Ent} {t tx : TypeId} {kn : IntKind} (htx : P.underlying tx = some (.int kn)) {s x : SV} {z z' : Aux} {e : Eff} {d : Conds} (h : opAppZ P t s x z = .ok e d z') (hd : OkL d) :
    z.nl ≤ z'.nl ∧ s.isJ = false ∧ x.isJ = false ∧ e.v.isJ = false ∧ ∀ (ρ : Con) (w : World) (ty : TypeId), Hp ρ H e.rd w →
      ∃ ρ' w', (Builtin.append_ #[t, tx] ty #[s.val ρ, x.val ρ]).run P w = .ok (e.v.val ρ') w' ∧ EffOK ρ ρ' z.nl z'.nl H e w w' := by
  unfold opAppZ at h
  obtain ⟨u, c1, y1, c2, h1, h2, rfl⟩ := bind_ok h
  obtain ⟨hu, rfl, rfl⟩ := und_ok h1
  split at h2
  · rename_i el f
    obtain ⟨inf, c1, y1, c3, h1, h3, rfl⟩ := bind_ok h2
    obtain ⟨hi, rfl, rfl⟩ := opt_ok h1
    simp only at h3
    obtain ⟨_, c1, y1, c4, h1, h4, rfl⟩ := bind_ok h3
    obtain ⟨hpos, rfl, rfl⟩ := chk_ok h1
    have hpos : 0 < inf.size := by simpa [Nat.blt_eq] using hpos
    obtain ⟨_, c1, y1, c5, h1, h5, rfl⟩ := bind_ok h4
    obtain ⟨hbytes, rfl, rfl⟩ := chk_ok h1
    have hbytes : 0 < inf.bytes := by simpa [Nat.blt_eq] using hbytes
    obtain ⟨zt, c1, y1, c6, h1, h6, rfl⟩ := bind_ok h5
    obtain ⟨rfl, rfl, hl, i, v, hi', hz, hv⟩ := zeroM_ok h1
    obtain rfl := Option.some.inj (hi.symm.trans hi')
    obtain ⟨_, c1, y1, c7, h1, h7, rfl⟩ := bind_ok h6
    obtain ⟨hzs, rfl, rfl⟩ := chk_ok h1
    have hzs := Nat.eq_of_beq_eq_true hzs
    obtain ⟨_, c1, y1, c8, h1, h7', rfl⟩ := bind_ok h7
    obtain ⟨hsm, rfl, rfl⟩ := chk_ok h1
    rw [Nat.blt_eq] at hsm
    obtain ⟨_, c1, y1, c8, h1, h8, rfl⟩ := bind_ok h7'
    obtain ⟨hb1, hn1⟩ := need_ok h1
    obtain ⟨_, c9, y9, c10, h9, h10, rfl⟩ := bind_ok h8
    obtain ⟨hb2, hn2⟩ := need_ok h9
    obtain ⟨ll, c11, y11, c12, h11, h12, rfl⟩ := bind_ok h10
    obtain ⟨rfl, rfl, rfl⟩ := newLab_ok h11
    obtain ⟨rfl, rfl, rfl⟩ := pure_ok h12
    simp only [OkL_append] at hd
    have hb1 : 1 ≤ f [] := by simpa using hb1 (by simp_all)
    have hb2 : (inf.bytes : Int) * f [] ≤ 281474976710656 := by simpa using hb2 (by simp_all)
    have hnl : y9.nl = z.nl := hn2.trans hn1
    refine ⟨by simp only; omega, rfl, rfl, rfl, fun ρ w ty _ => ?_⟩
    obtain ⟨n, hn⟩ : ∃ n : Nat, f [] = (n : Int) := ⟨(f []).toNat, by omega⟩
    rw [hn] at hb1 hb2
    have h48 : n * inf.bytes ≤ 281474976710656 := by
      have : ((inf.bytes * n : Nat) : Int) ≤ 281474976710656 := by rw [Int.natCast_mul]; exact hb2
      rw [Nat.mul_comm]; omega
    have hle : n ≤ n * inf.bytes := Nat.le_mul_of_pos_right _ hbytes
    have hrun := Lib.run_append_nil_zeros (P := P) w t tx ty el inf v .i64 kn hu htx hi hz n (by omega) hpos (by omega) h48
    have hvs : v.cells.size = inf.size := by rw [← Array.length_toList, hv ρ, Tr.cells_length]; exact hzs
    have hzr := zeros_row ρ n zt v.cells (hv ρ) (by omega)
    have hcells : (Builtin.zeroCells v.cells n).toList = (Tr.ta n zt.lift).cells ρ [] := hzr
    have hge := grownCap_ge w n 0 el
    have hszz : (Builtin.zeroCells v.cells n).size = n * inf.size := by rw [zeroCells_size, hvs]
    have hnew := new_ok (P := P) (H := H) (t := Tr.ta n zt.lift) (n := z.nl) (room := grownCap w n 0 el) (wid := inf.size) (v := .v (.vl y9.nl (fun _ => 0) inf.size [] (fun _ => n))) (rd := []) (drop := []) ρ w.drew el
      (Builtin.zeroCells v.cells n ++ Builtin.zeroCells v.cells (grownCap w n 0 el - n)) y9.nl hnl
      (fun ρ' hρ j q hj => by
        rw [Tr.cells_agree (.ta n zt.lift) [] (fun k hk => by simp only [Tr.labs, Tr.lift_labs, hl] at hk; cases hk), ← hcells] at hj
        have hlt : j < (Builtin.zeroCells v.cells n).size := by
          rcases Nat.lt_or_ge j (Builtin.zeroCells v.cells n).size with h | h
          · exact h
          · rw [List.getElem?_eq_none (by simpa using h)] at hj; cases hj
        rw [Array.getElem?_append_left hlt]
        simpa using hj)
      (by simp only [Tr.size, Tr.lift_size, hzs, wd_small hsm]; exact Nat.mul_le_mul_right _ hge)
      (by
        rw [Array.size_append, hszz, zeroCells_size, hvs, ← Nat.add_mul, wd_small hsm]
        exact Nat.mul_le_mul_right _ (by omega)) (fun q hq => by omega)
    refine ⟨(fun k => if k = y9.nl then fun _ => (⟨w.drew.heap.size, 0, grownCap w n 0 el, inf.size, false, none, false⟩ : Loc) else ρ k), { w.drew with heap := w.drew.heap.push (.cells (Builtin.zeroCells v.cells n ++ Builtin.zeroCells v.cells (grownCap w n 0 el - n)) el) }, ?_, ?_⟩
    · have e1 : SV.val ρ (SV.v (Tr.vi IntKind.i64 f)) = .int .i64 (n : Int) := by rw [← hn]; rfl
      have e2 : SV.val ρ (SV.v Tr.vl0) = .slice none 0 0 := rfl
      rw [e1, e2, hrun]
      simp [SV.val, Tr.val, rsOf, sum, hn]
      rfl
    · simp only [hn, Int.toNat_natCast, hnl]
      rw [hnl] at hnew
      exact ⟨hnew.agree, hnew.upd, (Fr.drew _ w _).trans hnew.frame (fun q hq => .inl hq), hnew.fresh, hnew.sep⟩
  · exact (fail_ok h2).elim

theorem tagOf_ok {w : Nat} {cuts : List Nat} {sz e : Nat} (h : sz < 1000000) : wd (tagOf w cuts sz e) = sz ∧ (tagOf w cuts sz e = sz ∨ tagOf w cuts sz e = tagged sz e ∧ w = tagOf w cuts sz e ∧ cuts = []) := by
  unfold tagOf
  split
  · rename_i hh
    simp only [Bool.and_eq_true, List.isEmpty_iff] at hh
    exact ⟨wd_tagged h e, .inr ⟨rfl, Nat.eq_of_beq_eq_true hh.2, hh.1⟩⟩
  · exact ⟨wd_small h, .inl rfl⟩

set_option maxHeartbeats 1000000 in
theorem opAppend_ok {P : Program} {H : List Ent} {t tx : TypeId} {s x : SV} {z z' : Aux} {e : Eff} {d : Conds} (h : opAppend P H t tx s x z = .ok e d z') (hd : OkL d) :
    z.nl ≤ z'.nl ∧ s.isJ = false ∧ x.isJ = false ∧ e.v.isJ = false ∧ ∀ (ρ : Con) (w : World) (ty : TypeId), Hp ρ H e.rd w →
      ∃ ρ' w', (Builtin.append_ #[t, tx] ty #[s.val ρ, x.val ρ]).run P w = .ok (e.v.val ρ') w' ∧ EffOK ρ ρ' z.nl z'.nl H e w w' := by
  unfold opAppend at h
  obtain ⟨u, c1, y1, c2, h1, h2, rfl⟩ := bind_ok h
  obtain ⟨hu, rfl, rfl⟩ := und_ok h1
  split at h2
  · rename_i el
    obtain ⟨inf, c1, y1, c3, h1, h3, rfl⟩ := bind_ok h2
    obtain ⟨hi, rfl, rfl⟩ := opt_ok h1
    simp only at h3
    obtain ⟨_, c1, y1, c4, h1, h4, rfl⟩ := bind_ok h3
    obtain ⟨hpos, rfl, rfl⟩ := chk_ok h1
    have hpos : 0 < inf.size := by simpa [Nat.blt_eq] using hpos
    obtain ⟨_, c1, y1, c4b, h1, h4b, rfl⟩ := bind_ok h4
    obtain ⟨hbytes, rfl, rfl⟩ := chk_ok h1
    have hbytes : 0 < inf.bytes := by simpa [Nat.blt_eq] using hbytes
    obtain ⟨zv, c1, y1, c5, h1, h5b, rfl⟩ := bind_ok h4b
    obtain ⟨hzv, rfl, rfl⟩ := opt_ok h1
    obtain ⟨_, c1, y1, c5b, h1, h5, rfl⟩ := bind_ok h5b
    obtain ⟨hzs, rfl, rfl⟩ := chk_ok h1
    have hzs := Nat.eq_of_beq_eq_true hzs
    obtain ⟨_, c1, y1, c5c, h1, h5', rfl⟩ := bind_ok h5
    obtain ⟨hsm, rfl, rfl⟩ := chk_ok h1
    rw [Nat.blt_eq] at hsm
    obtain ⟨⟨m, g, rd⟩, c6, y6, c7, h6, h7, rfl⟩ := bind_ok h5'
    obtain ⟨hn1, hxj, hsrc⟩ := srcOf_ok h6
    simp only at h7
    obtain ⟨_, c1, y1, c8, h1, h8, rfl⟩ := bind_ok h7
    obtain ⟨hgs, rfl, rfl⟩ := chk_ok h1
    have hgs := Nat.eq_of_beq_eq_true hgs
    obtain ⟨_, c1, y1, c9, h1, h9, rfl⟩ := bind_ok h8
    obtain ⟨hgc, rfl, rfl⟩ := chk_ok h1
    simp only [OkL_append] at hd
    have hsrc := hsrc (by simp_all) hgs hpos hgc
    -- the two ways of an append
    have fits : ∀ {need old : Nat}, old < need → (2 * need + 192) * inf.bytes ≤ 281474976710656 → Builtin.nextslicecap need old * inf.bytes ≤ 281474976710656 ∧ ((need : Nat) : Int) ≤ 9223372036854775807 := by
      intro need old hlt hb
      refine ⟨growslice_fits_wide hlt (Nat.le_trans (Nat.mul_le_mul_right _ (by omega)) hb), ?_⟩
      have : 2 * need + 192 ≤ (2 * need + 192) * inf.bytes := Nat.le_mul_of_pos_right _ hbytes
      omega
    have grow : ∀ (W : Nat) (hW : wd W = inf.size) (hWt : ∀ q, W / 1000000 = q + 1 → q / 2 = el ∧ q % 2 = 1) (ρ : Con) (w : World) (ty : TypeId) (base : Option Addr) (k cap : Nat) (olds news : List Value) (r : Tr) (drop rd' : List Nat) (v : SV), (Builtin.firstCells inf.size k (.slice base k cap)).run P w.drew = .ok olds.toArray w.drew → olds.length = k * inf.size →
        Src P inf.size tx (x.val ρ) m news w → cap < k + m → (2 * (k + m) + 192) * inf.bytes ≤ 281474976710656 →
        (∀ ρ' : Con, (∀ q, q ≠ y6.nl → ρ' q = ρ q) → (Tr.ta (k + m) r).cells ρ' [] = olds ++ news) → v = .v (.vl y6.nl (fun _ => 0) inf.size [] (fun _ => k + m)) →
        ∃ ρ' w', (Builtin.append_ #[t, tx] ty #[.slice base k cap, x.val ρ]).run P w = .ok (v.val ρ') w' ∧ EffOK ρ ρ' y6.nl (y6.nl + 1) H ⟨v, [⟨y6.nl, true, none, W, .ta (k + m) r⟩], drop, rd'⟩ w w' := by
      intro W hW hWt ρ w ty base k cap olds news r drop rd' v holds hol hs hlt hb hrow hv
      obtain ⟨f1, f2⟩ := fits hlt hb
      have hrun := run_append_grow_src w t tx ty el inf zv hu hi hzv base k cap olds holds (x.val ρ) m news hs hlt f2 f1
      have hge := grownCap_ge w (k + m) cap el
      have hnew := new_ok (P := P) (H := H) (t := Tr.ta (k + m) r) (n := y6.nl) (room := grownCap w (k + m) cap el) (wid := W) (v := v) (rd := rd') (drop := drop) ρ w.drew el
        ((olds ++ news).toArray ++ Builtin.zeroCells zv.cells (grownCap w (k + m) cap el - (k + m))) y6.nl rfl
        (fun ρ' hρ j q hj => by
          rw [hrow ρ' hρ] at hj
          have hlt : j < (olds ++ news).length := by
            rcases Nat.lt_or_ge j (olds ++ news).length with h | h
            · exact h
            · rw [List.getElem?_eq_none h] at hj; cases hj
          rw [Array.getElem?_append_left (by simpa using hlt)]
          simpa using hj)
        (by
          have h1 : (Tr.ta (k + m) r).size = (olds ++ news).length := by rw [← hrow ρ (fun _ _ => rfl), Tr.cells_length]
          rw [h1, List.length_append, hol, hs.newsLen, ← Nat.add_mul, hW]
          exact Nat.mul_le_mul_right _ hge)
        (by
          have h1 : ((olds ++ news).toArray ++ Builtin.zeroCells zv.cells (grownCap w (k + m) cap el - (k + m))).size = grownCap w (k + m) cap el * inf.size := by
            simp only [Array.size_append, List.size_toArray, List.length_append, hol, hs.newsLen, zeroCells_size, hzs]
            rw [← Nat.add_mul, ← Nat.add_mul]
            congr 1; omega
          rw [hW]
          omega) (fun q hq => ⟨(hWt q hq).1, by
          simp only [if_neg (show ¬ q % 2 = 0 by have := (hWt q hq).2; omega), Array.size_append, List.size_toArray, List.length_append, hol, hs.newsLen, zeroCells_size, hzs, hW]
          rw [← Nat.add_mul, ← Nat.add_mul]
          congr 1; omega⟩)
      refine ⟨_, _, ?_, hnew.agree, hnew.upd, (Fr.drew _ w _).trans hnew.frame (fun q hq => .inl hq), hnew.fresh, hnew.sep⟩
      rw [hrun, hv]
      simp [SV.val, Tr.val, rsOf, sum]
      rfl
    split at h9
    · obtain ⟨_, c1, y1, c10, h1, h10, rfl⟩ := bind_ok h9
      obtain ⟨hbig, hn2⟩ := need_ok h1
      obtain ⟨l, c1, y7, c11, h1, h11, rfl⟩ := bind_ok h10
      obtain ⟨rfl, rfl, rfl⟩ := newLab_ok h1
      obtain ⟨_, c1, y8, c12, h1, h12, rfl⟩ := bind_ok h11
      obtain ⟨hb, rfl, rfl⟩ := chk_ok h1
      obtain ⟨rfl, rfl, rfl⟩ := pure_ok h12
      simp only [OkL_append] at hd
      have hbig : (2 * m + 192) * inf.bytes ≤ 281474976710656 := by simpa using hbig (by simp_all)
      have hb := below_ok hb
      rw [hn2] at hb ⊢
      refine ⟨by simp; omega, rfl, hxj, rfl, fun ρ w ty hH => ?_⟩
      rw [← hn1]
      have hs := hsrc ρ w hH
      have hag : ∀ ρ' : Con, (∀ q, q ≠ y6.nl → ρ' q = ρ q) → (Tr.ta m g).cells ρ' [] = (Tr.ta m g).cells ρ [] := fun ρ' hρ =>
        Tr.cells_agree (Tr.ta m g) [] (fun q hq => hρ q (by have := hb q (by simpa [Tr.labs] using hq); omega))
      rcases Nat.eq_zero_or_pos m with h0 | h0
      · subst h0
        have e0 : ∀ ρ' : Con, (Tr.ta 0 g).cells ρ' [] = [] := fun ρ' => by simp [Tr.cells]
        rw [e0 ρ] at hs
        refine ⟨_, w, ?_, put_ok (L := ⟨0, 0, 0, tagged inf.size el, true, none, false⟩) rfl (fun ρ' _ => ⟨WidOK.refl _, fun _ => e0 ρ', fun h => by cases h⟩) (Fr.refl _ _) (fun h => by cases h)⟩
        rw [show SV.val ρ (.v .vl0) = .slice none 0 0 from rfl, run_append_zero w t tx ty el inf hu hi none (x.val ρ) hs]
        simp [SV.val, Tr.val]
      · have := grow (tagged inf.size el) (wd_tagged hsm el) (fun q hq => tagged_ty hsm hq) ρ w ty none 0 0 [] ((Tr.ta m g).cells ρ []) g [] rd (.v (.vl y6.nl (fun _ => 0) inf.size [] (fun _ => 0 + m)))
          (by have := run_firstCells_none (P := P) w.drew inf.size 0 0 0; simpa using this) (by simp) hs (by omega) (by simpa using hbig)
          (fun ρ' hρ => by simpa using hag ρ' hρ) rfl
        simp only [Nat.zero_add] at this
        exact this
    · rename_i lab mem sz' cuts len
      obtain ⟨_, c1, y1, c10, h1, h10, rfl⟩ := bind_ok h9
      obtain ⟨hs1, rfl, rfl⟩ := chk_ok h1
      obtain ⟨_, c1, y1, c11, h1, h11, rfl⟩ := bind_ok h10
      obtain ⟨hm0, rfl, rfl⟩ := chk_ok h1
      have hm0 := Nat.eq_of_beq_eq_true hm0
      obtain ⟨en, c1, y1, c12, h1, h12, rfl⟩ := bind_ok h11
      obtain ⟨hl, rfl, rfl⟩ := opt_ok h1
      obtain ⟨_, c1, y1, c13, h1, h13, rfl⟩ := bind_ok h12
      obtain ⟨hown, rfl, rfl⟩ := chk_ok h1
      obtain ⟨_, c1, y1, c14, h1, h14, rfl⟩ := bind_ok h13
      obtain ⟨hfam, rfl, rfl⟩ := chk_ok h1
      have hfam : en.fam = none := by simpa using hfam
      obtain ⟨⟨n, u, is⟩, c15, y15, c16, h15, h16, rfl⟩ := bind_ok h14
      obtain ⟨hn2, en', hl', hw, ht, hts, hz, _, hocc⟩ := rowOf_ok h15
      obtain rfl : en = en' := Option.some.inj (hl.symm.trans hl')
      have ht := ht hfam
      simp only at h16
      obtain ⟨_, c17, y17, c18, h17, h18, rfl⟩ := bind_ok h16
      obtain ⟨hle, hn3⟩ := need_ok h17
      obtain ⟨_, c19, y19, c20, h19, h20, rfl⟩ := bind_ok h18
      obtain ⟨hbig, hn4⟩ := need_ok h19
      obtain ⟨r, c21, y21, c22, h21, h22, rfl⟩ := bind_ok h20
      obtain ⟨hnr, hr⟩ := appM_ok h21
      obtain ⟨_, c23, y23, c24, h23, h24, rfl⟩ := bind_ok h22
      obtain ⟨hrc, rfl, rfl⟩ := chk_ok h23
      obtain ⟨l, c25, y25, c26, h25, h26, rfl⟩ := bind_ok h24
      obtain ⟨rfl, rfl, rfl⟩ := newLab_ok h25
      obtain ⟨_, c27, y27, c28, h27, h28, rfl⟩ := bind_ok h26
      obtain ⟨hb, rfl, rfl⟩ := chk_ok h27
      obtain ⟨rfl, rfl, rfl⟩ := pure_ok h28
      simp only [OkL_append] at hd
      have hy : y21.nl = y6.nl := hnr.trans (hn4.trans (hn3.trans hn2))
      have hr := hr (by simp_all)
      have hle : sum cuts + len [] ≤ n := by simpa [Nat.ble_eq] using hle (by simp_all)
      have hbig : (2 * (len [] + m) + 192) * inf.bytes ≤ 281474976710656 := by simpa using hbig (by simp_all)
      have hb := below_ok hb
      have hdo : OkL c15 := by simp_all
      have hs1 := Nat.eq_of_beq_eq_true hs1

      rw [hy] at hb
      refine ⟨by simp; omega, rfl, hxj, rfl, fun ρ w ty hH => ?_⟩
      rw [← hn1]
      show ∃ ρ' w', _ ∧ EffOK ρ ρ' y6.nl (y21.nl + 1) H _ w w'
      rw [hy]
      have hLe : Lies (ρ lab 0) true en.wid ((Tr.ta n u).cells ρ []) w := by
        have := hH lab (by simp) en hl
        unfold Ent.holds at this
        simp only [hfam] at this
        rw [look_lab hl, hown, ht] at this
        exact this
      have hL : Lies (ρ lab 0) true inf.size ((Tr.ta n u).cells ρ []) w := by have := hLe.plain; rw [hw] at this; exact this
      obtain ⟨hW, hWt⟩ := tagOf_ok (w := en.wid) (cuts := cuts) (e := el) hsm
      have hWL : WidOK (ρ lab 0).wid (tagOf en.wid cuts inf.size el) := by
        rcases hWt with h | ⟨_, h, _⟩
        · rw [h]; exact hL.1
        · rw [← h]; exact hLe.1
      have hWq : ∀ q, tagOf en.wid cuts inf.size el / 1000000 = q + 1 → q / 2 = el ∧ q % 2 = 1 := fun q hq => by
        rcases hWt with h | ⟨h, _, _⟩
        · rw [h] at hq; omega
        · rw [h] at hq; exact tagged_ty hsm hq
      have hTy : TypeAt (ρ lab 0) w → ∀ q, tagOf en.wid cuts inf.size el / 1000000 = q + 1 → cuts = [] ∧ (ρ lab 0).base = 0 ∧ ∃ c, w.heap[(ρ lab 0).blk]? = some (.cells c (q / 2) (0, 0)) ∧ c.size = (if q % 2 = 0 then 1 else (ρ lab 0).room) * wd (ρ lab 0).wid := fun h0 q hq => by
        rcases hWt with h | ⟨h, h2, h3⟩
        · rw [h] at hq; omega
        · obtain ⟨a1, a2⟩ := h0 q (by rw [hWL.2 (by omega)]; exact hq)
          exact ⟨h3, a1, a2⟩
      generalize hWd : tagOf en.wid cuts inf.size el = W at *
      have hs := hsrc ρ w (fun q hq => hH q (List.mem_cons_of_mem _ hq))
      have hol : ((List.range (len [])).flatMap fun i => u.cells ρ [sum cuts + i]).length = len [] * inf.size := by
        rw [flatMap_length _ _ inf.size (fun i _ => by rw [Tr.cells_length, hts])]; simp
      have hrow : ∀ ρ' : Con, (∀ q, q ≠ y6.nl → ρ' q = ρ q) → (Tr.ta (len [] + m) r).cells ρ' [] = ((List.range (len [])).flatMap fun i => u.cells ρ [sum cuts + i]) ++ (Tr.ta m g).cells ρ [] := fun ρ' hρ => by
        rw [Tr.cells_agree (Tr.ta (len [] + m) r) [] (fun q hq => hρ q (by have := hb q (by simpa [Tr.labs] using hq); omega)), hr ρ m]
      obtain ⟨pre, post, hc, hp⟩ := row_part (n := n) ρ [] hts hle
      simp only [List.nil_append] at hc
      generalize holds : ((List.range (len [])).flatMap fun i => u.cells ρ [sum cuts + i]) = olds at *
      generalize hnews : (Tr.ta m g).cells ρ [] = news at *
      have hnl : news.length = m * inf.size := hs.newsLen
      cases hnil : (ρ lab 0).isNil with
      | true =>
        have hn0 := row_nil hts hpos (hL.2.1 hnil)
        have hk0 : len [] = 0 := by omega
        have ho : olds = [] := by rw [hk0] at hol; simpa using hol
        subst ho
        have hval : SV.val ρ (.v (.vl lab mem sz' cuts len)) = .slice (ρ lab 0).adr 0 0 := by simp [SV.val, Tr.val, hm0, hnil, hk0]
        rw [hval]
        rcases Nat.eq_zero_or_pos m with h0 | h0
        · subst h0
          have hne : news = [] := by simpa using hnl
          subst hne
          refine ⟨_, w, ?_, put_ok (L := ρ lab 0) rfl (fun ρ' hρ => ⟨hWL, fun _ => by rw [hrow ρ' hρ]; rfl, fun h => by rw [hnil] at h; cases h⟩) (Fr.refl _ _) (fun h => by rw [hnil] at h; cases h)⟩
          rw [run_append_zero w t tx ty el inf hu hi _ (x.val ρ) hs]
          simp [SV.val, Tr.val, hnil, hk0]
        · have := grow W hW hWq ρ w ty (ρ lab 0).adr 0 0 [] news r [lab] (lab :: rd) (.v (.vl y6.nl (fun _ => 0) inf.size [] (fun _ => 0 + m)))
            (by
              cases (ρ lab 0).adr with
              | none => have := run_firstCells_none (P := P) w.drew inf.size 0 0 0; simpa using this
              | some a => have := run_firstCells_some (P := P) w.drew inf.size 0 a 0 0 [] (by simp) (fun j v hj => by simp at hj); simpa using this)
            (by simp) hs (by omega) (by rw [hk0] at hbig; exact hbig) (fun ρ' hρ => by have := hrow ρ' hρ; rw [hk0] at this; exact this) rfl
          rw [hk0]
          exact this
      | false =>
        have hcut : 0 < len [] + m → sum cuts + (len [] + m) ≤ (ρ lab 0).room → rsOf (ρ lab 0).room cuts 0 = sum cuts := fun h1 h2 => rsOf_sum _ cuts 0 (by omega)
        have hroom : n ≤ (ρ lab 0).room := by
          rcases Nat.eq_zero_or_pos n with h | h
          · omega
          · exact (hL.row hts hpos (k := 0) h).2.2
        have hcutk : 0 < len [] → rsOf (ρ lab 0).room cuts 0 = sum cuts := fun h1 => rsOf_sum _ cuts 0 (by omega)
        have hval : SV.val ρ (.v (.vl lab mem sz' cuts len)) = .slice (some ⟨(ρ lab 0).blk, (ρ lab 0).base + rsOf (ρ lab 0).room cuts 0 * inf.size, none⟩) (len []) ((ρ lab 0).room - sum cuts) := by simp [SV.val, Tr.val, hm0, hnil, hs1]
        have hold : ∀ (j : Nat) (v : Value), olds[j]? = some v → w.cell? ⟨(ρ lab 0).blk, (ρ lab 0).base + rsOf (ρ lab 0).room cuts 0 * inf.size + j, none⟩ = some v := by
          intro j v hj
          have hkpos : 0 < len [] := by
            rcases Nat.eq_zero_or_pos (len []) with h | h
            · rw [h, Nat.zero_mul] at hol; have := List.length_eq_zero_iff.1 hol; rw [this] at hj; simp at hj
            · exact h
          rw [hc] at hL
          rw [hcutk hkpos]
          exact hL.mid hnil hp hj
        rw [hval]
        by_cases hfit : len [] + m ≤ (ρ lab 0).room - sum cuts
        · have hown2 := (hL.2.2 hnil).2.2.1 rfl
          have hwid : wd (ρ lab 0).wid = inf.size := hL.1.1.trans (wd_small hsm)
          have hidx : ∀ j, j < ((ρ lab 0).room - sum cuts) * inf.size → rsOf (ρ lab 0).room cuts 0 = sum cuts ∧ sum cuts * inf.size + j < (ρ lab 0).room * inf.size := by
            intro j hj
            have hpos2 : 0 < (ρ lab 0).room - sum cuts := by
              rcases Nat.eq_zero_or_pos ((ρ lab 0).room - sum cuts) with h | h
              · rw [h] at hj; simp at hj
              · exact h
            refine ⟨rsOf_sum _ cuts 0 (by omega), ?_⟩
            have : sum cuts * inf.size + ((ρ lab 0).room - sum cuts) * inf.size = (ρ lab 0).room * inf.size := by rw [← Nat.add_mul]; congr 1; omega
            omega
          have hcell : ∀ j, j < ((ρ lab 0).room - sum cuts) * inf.size → (w.cell? ⟨(ρ lab 0).blk, (ρ lab 0).base + rsOf (ρ lab 0).room cuts 0 * inf.size + j, none⟩).isSome = true ∧
              w.frozen? ⟨(ρ lab 0).blk, (ρ lab 0).base + rsOf (ρ lab 0).room cuts 0 * inf.size + j, none⟩ = false := by
            intro j hj
            obtain ⟨e1, e2⟩ := hidx j hj
            rw [e1, Nat.add_assoc]
            exact hown2.2.1 _ (by rw [hwid]; exact e2)
          have hlt : len [] * inf.size + m * inf.size ≤ ((ρ lab 0).room - sum cuts) * inf.size := by rw [← Nat.add_mul]; exact Nat.mul_le_mul_right _ hfit
          have hrun := run_append_room_src w t tx ty el inf hu hi (ρ lab 0).blk ((ρ lab 0).base + rsOf (ρ lab 0).room cuts 0 * inf.size) (len []) ((ρ lab 0).room - sum cuts) (x.val ρ) m news hs hfit
            (fun j hj => by rw [Nat.add_assoc]; exact (hcell _ (by omega)).1) (fun j hj => by rw [Nat.add_assoc]; exact (hcell _ (by omega)).2)
          have htouch : Touch ρ H ⟨.v (.vl y6.nl (fun _ => 0) inf.size [] (fun _ => len [] + m)), [⟨y6.nl, true, none, W, .ta (len [] + m) r⟩], [lab], lab :: rd⟩ (ρ lab 0).blk :=
            ⟨lab, en, hl, hown, by simp, .inr (by simp), hocc hdo ρ _ hnil hown rfl⟩
          refine ⟨_, w.setCells (ρ lab 0).blk ((ρ lab 0).base + rsOf (ρ lab 0).room cuts 0 * inf.size + len [] * inf.size) news, ?_,
            put_ok (L := ⟨(ρ lab 0).blk, (ρ lab 0).base + rsOf (ρ lab 0).room cuts 0 * inf.size, (ρ lab 0).room - sum cuts, W, false, none, false⟩) rfl (fun ρ' hρ => ?_) (Fr.setCells w _ _ _ htouch) (fun _ => .inl htouch)⟩
          · rw [hrun]; simp [SV.val, Tr.val, rsOf, sum]
          · rw [hrow ρ' hρ]
            refine ⟨WidOK.refl _, fun h => (by cases h), fun _ => ⟨fun j v hj => ?_, by simp only [List.length_append, hol, hnl, hW]; exact hlt, fun _ => ⟨by rw [World.setCells_size]; exact hown2.1, fun j hj => ?_, TypeAt.setCells _ _ _ fun q hq => ?_⟩, fun h => by cases h⟩⟩
            rotate_right
            · obtain ⟨a1, a2, c, a3, a4⟩ := hTy hown2.2.2 q hq
              refine ⟨?_, c, a3, by rw [a4, hwid, hW, a1]; rfl⟩
              show (ρ lab 0).base + rsOf (ρ lab 0).room cuts 0 * inf.size = 0
              rw [a1, a2]; simp [rsOf]
            · rcases Nat.lt_or_ge j olds.length with h1 | h1
              · rw [List.getElem?_append_left h1] at hj
                rw [World.cell?_setCells_out _ _ _ _ _ (fun _ _ => .inl (by simp; omega))]
                exact hold j v hj
              · rw [List.getElem?_append_right h1] at hj
                have hjl : j - olds.length < news.length := by
                  rcases Nat.lt_or_ge (j - olds.length) news.length with h | h
                  · exact h
                  · rw [List.getElem?_eq_none h] at hj; cases hj
                have := World.cell?_setCells_in (ρ lab 0).blk news ((ρ lab 0).base + rsOf (ρ lab 0).room cuts 0 * inf.size + len [] * inf.size) w
                  (fun i hi => by rw [Nat.add_assoc]; exact (hcell _ (by omega)).1) (j - olds.length) hjl
                rw [← hj, List.getElem?_eq_getElem hjl, ← this]
                congr 2
                simp only
                omega
            · have hj : j < ((ρ lab 0).room - sum cuts) * inf.size := by rw [← hW]; exact hj
              refine ⟨?_, by rw [World.frozen?_setCells]; exact (hcell j hj).2⟩
              rw [World.isSome_cell?_setCells]; exact (hcell j hj).1
        · refine grow W hW hWq ρ w ty _ (len []) ((ρ lab 0).room - sum cuts) olds news r [lab] (lab :: rd) _ ?_ hol hs (by omega) hbig hrow rfl
          refine run_firstCells_some (P := P) w.drew inf.size (len []) _ _ _ olds hol (fun j v hj => ?_)
          rw [addr_add]
          exact hold j v hj
    · exact (fail_ok h9).elim
  · exact (fail_ok h2).elim

theorem opAppS_ok {P : Program} {H : List Ent} {t tx : TypeId} {s x : SV} {z z' : Aux} {e : Eff} {d : Conds} (h : opAppS P H t tx s x z = .ok e d z') (hd : OkL d) :
    z.nl ≤ z'.nl ∧ s.isJ = false ∧ x.isJ = false ∧ e.v.isJ = false ∧ ∀ (ρ : Con) (w : World) (ty : TypeId), Hp ρ H e.rd w →
      ∃ ρ' w', (Builtin.append_ #[t, tx] ty #[s.val ρ, x.val ρ]).run P w = .ok (e.v.val ρ') w' ∧ EffOK ρ ρ' z.nl z'.nl H e w w' := by
  unfold opAppS at h
  split at h
  · rename_i f
    obtain ⟨u, c1, y1, c2, h1, h2, rfl⟩ := bind_ok h
    obtain ⟨hu, rfl, rfl⟩ := und_ok h1
    split at h2
    · rename_i el
      obtain ⟨inf, c1, y1, c3, h1, h3, rfl⟩ := bind_ok h2
      obtain ⟨hi, rfl, rfl⟩ := opt_ok h1
      obtain ⟨⟨m, g, rd⟩, c6, y6, c7, h6, h7, rfl⟩ := bind_ok h3
      obtain ⟨hn1, hxj, hsrc⟩ := srcOf_ok h6
      simp only at h7
      obtain ⟨b, c8, y8, c9, h8, h9, rfl⟩ := bind_ok h7
      obtain ⟨hb, hn2⟩ := ask_ok h8
      simp only [OkL_append] at hd
      cases b with
      | true =>
        simp only [if_true] at h9
        have hm := Nat.eq_of_beq_eq_true (hb (by simp_all))
        subst hm
        obtain ⟨_, c1, y1, c8, h1, h10, rfl⟩ := bind_ok h9
        obtain ⟨hpos, rfl, rfl⟩ := chk_ok h1
        obtain ⟨_, c1, y1, c8, h1, h11, rfl⟩ := bind_ok h10
        obtain ⟨hco, rfl, rfl⟩ := chk_ok h1
        obtain ⟨_, c1, y1, c8, h1, h12, rfl⟩ := bind_ok h11
        obtain ⟨hgs, rfl, rfl⟩ := chk_ok h1
        obtain ⟨rfl, rfl, rfl⟩ := pure_ok h12
        refine ⟨by omega, rfl, hxj, rfl, fun ρ w ty hH => ⟨ρ, w, ?_, ?_⟩⟩
        · have hs := hsrc (by simp_all) (Nat.eq_of_beq_eq_true hgs) (by simpa [Nat.blt_eq] using hpos) hco ρ w hH
          have e0 : (Tr.ta 0 g).cells ρ [] = [] := by simp [Tr.cells]
          rw [e0] at hs
          exact run_append_zero w t tx _ el inf hu hi none _ hs
        · have : y6.nl = z.nl := hn1
          rw [show y8.nl = z.nl by omega]
          exact EffOK.pure
      | false =>
        simp only [Bool.false_eq_true, if_false] at h9
        obtain ⟨q1, q2, q3, q4, q5⟩ := opAppend_ok h9 (by simp_all)
        exact ⟨by omega, q2, q3, q4, by rw [← hn1, ← hn2]; exact q5⟩
    · exact (fail_ok h2).elim
  · exact opAppend_ok h hd

theorem cpyT_ok (ρ : Con) (k st : Nat) : ∀ (u g r : Tr), cpyT k st u g = some r → r.size = u.size ∧ g.size = u.size ∧
    ∀ (i : Nat) (js : Ix), r.cells ρ (i :: js) = if st ≤ i ∧ i < st + k then g.cells ρ ((i - st) :: js) else u.cells ρ (i :: js) := by
  intro u
  induction u with
  | vb f => intro g r h; cases g <;> simp [cpyT] at h; subst h; exact ⟨rfl, rfl, fun i js => by simp only [Tr.cells, Tr.val, cpyF]; split <;> rfl⟩
  | vi k f =>
    intro g r h; cases g <;> simp [cpyT] at h
    obtain ⟨hk, h⟩ := h
    have hk := sameK_eq hk
    subst hk; subst h
    exact ⟨rfl, rfl, fun i js => by simp only [Tr.cells, Tr.val, cpyF]; split <;> rfl⟩
  | vs f => intro g r h; cases g <;> simp [cpyT] at h; subst h; exact ⟨rfl, rfl, fun i js => by simp only [Tr.cells, Tr.val, cpyF]; split <;> rfl⟩
  | t0 => intro g r h; cases g <;> simp [cpyT] at h; subst h; exact ⟨rfl, rfl, fun i js => by simp [Tr.cells]⟩
  | tc a b iha ihb =>
    intro g r h; cases g <;> simp only [cpyT] at h <;> try (simp at h)
    rename_i c d
    split at h
    · rename_i x y hx hy
      obtain ⟨a1, a2, a3⟩ := iha _ _ hx
      obtain ⟨b1, b2, b3⟩ := ihb _ _ hy
      simp at h; subst h
      exact ⟨by simp [Tr.size, a1, b1], by simp [Tr.size, a2, b2], fun i js => by simp only [Tr.cells, a3, b3]; split <;> rfl⟩
    · simp at h
  | _ => intro g r h; cases g <;> simp [cpyT] at h

theorem cpyT_row (ρ : Con) {k st n sz : Nat} {u g r : Tr} (h : cpyT k st u g = some r) (hu : u.size = sz) (hk : st + k ≤ n) :
    ∃ pre mid post, (Tr.ta n u).cells ρ [] = pre ++ mid ++ post ∧ pre.length = st * sz ∧ mid.length = k * sz ∧ (Tr.ta n r).cells ρ [] = pre ++ (Tr.ta k g).cells ρ [] ++ post := by
  obtain ⟨_, _, hr⟩ := cpyT_ok ρ k st u g r h
  obtain ⟨q, rfl⟩ : ∃ q, n = st + (k + q) := ⟨n - st - k, by omega⟩
  have part : ∀ t : Tr, (Tr.ta (st + (k + q)) t).cells ρ [] = ((List.range st).flatMap fun i => t.cells ρ [i]) ++ ((List.range k).flatMap fun i => t.cells ρ [st + i]) ++ ((List.range q).flatMap fun i => t.cells ρ [st + (k + i)]) := by
    intro t
    simp only [Tr.cells, List.nil_append]
    rw [List.range_add, List.flatMap_append, List.flatMap_map, List.range_add, List.flatMap_append, List.flatMap_map, List.append_assoc]
  refine ⟨_, _, _, part u, ?_, ?_, ?_⟩
  · rw [flatMap_length _ _ sz (fun i _ => by rw [Tr.cells_length, hu])]; simp
  · rw [flatMap_length _ _ sz (fun i _ => by rw [Tr.cells_length, hu])]; simp
  · rw [part r]
    have e1 : ((List.range st).flatMap fun i => r.cells ρ [i]) = (List.range st).flatMap fun i => u.cells ρ [i] := by
      apply flatMap_congr
      intro i hi
      rw [hr i [], if_neg (by have : i < st := by simpa using hi
                              omega)]
    have e2 : ((List.range k).flatMap fun i => r.cells ρ [st + i]) = (Tr.ta k g).cells ρ [] := by
      simp only [Tr.cells, List.nil_append]
      apply flatMap_congr
      intro i hi
      rw [hr (st + i) [], if_pos (by have : i < k := by simpa using hi
                                     omega), Nat.add_sub_cancel_left]
    have e3 : ((List.range q).flatMap fun i => r.cells ρ [st + (k + i)]) = (List.range q).flatMap fun i => u.cells ρ [st + (k + i)] := by
      apply flatMap_congr
      intro i hi
      rw [hr (st + (k + i)) [], if_neg (by omega)]
    rw [e1, e2, e3]

theorem run_copy {P : Program} {w : World} {t tx ty e : TypeId} {sz : Nat} {inf : TypeInfo} (hu : P.underlying t = some (.slice e)) (hi : P.info? e = some inf) (hsz : inf.size = sz)
    (b off n c m : Nat) (x : Value) (news : List Value) (hs : Src P sz tx x m news w) (hm : m ≤ n)
    (hc : ∀ j, j < news.length → (w.cell? ⟨b, off + j, none⟩).isSome = true) (hf : ∀ j, j < news.length → w.frozen? ⟨b, off + j, none⟩ = false) :
    (Builtin.copy_ #[t, tx] ty #[.slice (some ⟨b, off, none⟩) n c, x]).run P w = .ok (.int .i64 m) (w.setCells b off news) := by
  have hst := run_storeCells_cells (P := P) b off news 0 w (by simpa using hc) (by simpa using hf) hs.one
  have hmin : Nat.min m n = m := Nat.min_eq_left hm
  simp only [Builtin.copy_, Sem.run_bind, List.getElem?_toArray, List.getElem?_cons_zero, List.getElem?_cons_succ, run_underlying hu, Result.andThen_ok, hs.len, run_sz hi, hsz, hmin, hs.cells]
  simp only [Nat.add_zero] at hst
  rw [hst]
  rfl

theorem run_copy_none {P : Program} {w : World} {t tx ty e : TypeId} {sz : Nat} {inf : TypeInfo} (hu : P.underlying t = some (.slice e)) (hi : P.info? e = some inf) (hsz : inf.size = sz)
    (base : Option Addr) (n c : Nat) (x : Value) (hs : Src P sz tx x 0 [] w) :
    (Builtin.copy_ #[t, tx] ty #[.slice base n c, x]).run P w = .ok (.int .i64 0) w := by
  have hmin : Nat.min 0 n = 0 := Nat.zero_min n
  simp only [Builtin.copy_, Sem.run_bind, List.getElem?_toArray, List.getElem?_cons_zero, List.getElem?_cons_succ, run_underlying hu, Result.andThen_ok, hs.len, run_sz hi, hsz, hmin, hs.cells]
  cases base <;> simp [storeCells] <;> rfl

theorem opCpy_ok {P : Program} {H : List Ent} {t tx : TypeId} {s x : SV} {z z' : Aux} {e : Eff} {d : Conds} (h : opCpy P H t tx s x z = .ok e d z') (hd : OkL d) :
    z'.nl = z.nl ∧ s.isJ = false ∧ x.isJ = false ∧ e.v.isJ = false ∧ ∀ (ρ : Con) (w : World) (ty : TypeId), Hp ρ H e.rd w →
      ∃ w', (Builtin.copy_ #[t, tx] ty #[s.val ρ, x.val ρ]).run P w = .ok (e.v.val ρ) w' ∧ EffOK ρ ρ z.nl z.nl H e w w' := by
  unfold opCpy at h
  obtain ⟨u, c1, y1, c2, h1, h2, rfl⟩ := bind_ok h
  obtain ⟨hu, rfl, rfl⟩ := und_ok h1
  split at h2
  · rename_i el
    obtain ⟨sz, c1, y1, c3, h1, h3, rfl⟩ := bind_ok h2
    obtain ⟨⟨inf, hi, hsz⟩, rfl, rfl⟩ := szOf_ok h1
    obtain ⟨_, c1, y1, c4, h1, h4, rfl⟩ := bind_ok h3
    obtain ⟨hpos, rfl, rfl⟩ := chk_ok h1
    have hpos : 0 < sz := by simpa [Nat.blt_eq] using hpos
    obtain ⟨⟨m, g, rd⟩, c5, y5, c6, h5, h6, rfl⟩ := bind_ok h4
    obtain ⟨hn1, hxj, hsrc⟩ := srcOf_ok h5
    simp only at h6
    obtain ⟨_, c1, y1, c7, h1, h7, rfl⟩ := bind_ok h6
    obtain ⟨hgs, rfl, rfl⟩ := chk_ok h1
    have hgs := Nat.eq_of_beq_eq_true hgs
    obtain ⟨_, c1, y1, c8, h1, h8, rfl⟩ := bind_ok h7
    obtain ⟨hgc, rfl, rfl⟩ := chk_ok h1
    split at h8
    · rename_i lab mem sz' cuts len
      obtain ⟨_, c1, y1, c10, h1, h10, rfl⟩ := bind_ok h8
      obtain ⟨hs1, rfl, rfl⟩ := chk_ok h1
      have hs1 := Nat.eq_of_beq_eq_true hs1
      obtain ⟨_, c1, y1, c11, h1, h11, rfl⟩ := bind_ok h10
      obtain ⟨hm0, rfl, rfl⟩ := chk_ok h1
      have hm0 := Nat.eq_of_beq_eq_true hm0
      obtain ⟨_, c12, y12, c13, h1, h13, rfl⟩ := bind_ok h11
      obtain ⟨hml, hn2⟩ := need_ok h1
      obtain ⟨en, c1, y1, c14, h1, h14, rfl⟩ := bind_ok h13
      obtain ⟨hl, rfl, rfl⟩ := opt_ok h1
      obtain ⟨_, c1, y1, c15, h1, h15, rfl⟩ := bind_ok h14
      obtain ⟨hown, rfl, rfl⟩ := chk_ok h1
      obtain ⟨_, c1, y1, c16, h1, h16, rfl⟩ := bind_ok h15
      obtain ⟨hfam, rfl, rfl⟩ := chk_ok h1
      have hfam : en.fam = none := by simpa using hfam
      obtain ⟨⟨n, u, is⟩, c17, y17, c18, h17, h18, rfl⟩ := bind_ok h16
      obtain ⟨hn3, en', hl', hw, ht, hts, hz, _, hocc⟩ := rowOf_ok h17
      obtain rfl : en = en' := Option.some.inj (hl.symm.trans hl')
      have ht := ht hfam
      simp only at h18
      obtain ⟨_, c19, y19, c20, h19, h20, rfl⟩ := bind_ok h18
      obtain ⟨hle, hn4⟩ := need_ok h19
      obtain ⟨r, c21, y21, c22, h21, h22, rfl⟩ := bind_ok h20
      obtain ⟨hr, rfl, rfl⟩ := opt_ok h21
      obtain ⟨rfl, rfl, rfl⟩ := pure_ok h22
      simp only [OkL_append] at hd
      have hle : sum cuts + len [] ≤ n := by simpa [Nat.ble_eq] using hle (by simp_all)
      have hml : m ≤ len [] := by simpa [Nat.ble_eq] using hml (by simp_all)
      have hdo : OkL c17 := by simp_all
      have hd5 : OkL c5 := by simp_all
      refine ⟨by omega, rfl, hxj, rfl, fun ρ w ty hH => ?_⟩
      have hs := hsrc hd5 hgs hpos hgc ρ w (fun q hq => hH q (List.mem_cons_of_mem _ hq))
      have hLe : Lies (ρ lab 0) true en.wid ((Tr.ta n u).cells ρ []) w := by
        have := hH lab (by simp) en hl
        unfold Ent.holds at this
        simp only [hfam] at this
        rw [look_lab hl, hown, ht] at this
        exact this
      have hL : Lies (ρ lab 0) true sz ((Tr.ta n u).cells ρ []) w := by have := hLe.plain; rw [hw] at this; exact this
      obtain ⟨pre, mid, post, e1, e2, e3, e4⟩ := cpyT_row ρ (n := n) hr hts (by omega)
      have hnl : ((Tr.ta m g).cells ρ []).length = m * sz := hs.newsLen
      have hlab := look_lab hl
      cases hnil : (ρ lab 0).isNil with
      | true =>
        have hn0 := row_nil hts hpos (hL.2.1 hnil)
        have hmz : m = 0 := by omega
        subst hmz
        have hne : (Tr.ta 0 g).cells ρ [] = [] := by simp [Tr.cells]
        rw [hne] at hs e4
        have hk0 : len [] = 0 := by omega
        have hval : SV.val ρ (.v (.vl lab mem sz' cuts len)) = .slice (ρ lab 0).adr 0 0 := by simp [SV.val, Tr.val, hm0, hnil, hk0]
        rw [hval]
        have hmid : mid = [] := by simpa using e3
        refine ⟨w, run_copy_none hu hi hsz _ 0 0 (x.val ρ) hs, fun _ _ => rfl, ?_, Fr.refl _ _, ?_, SepL.single _ _⟩
        · intro q hq
          simp only [List.mem_singleton] at hq
          subst hq
          unfold Ent.holds
          simp only [hfam, hlab, hown]
          rw [e4, ← hmid, ← e1]
          exact hLe
        · intro q hq k hk
          simp only [List.mem_singleton] at hq
          subst hq
          obtain ⟨q, hq, h1, h2, h3⟩ := hk
          simp only [hfam] at hq
          subst hq
          rw [hlab] at h1
          rw [hnil] at h1; cases h1
      | false =>
        have hroom : n ≤ (ρ lab 0).room := by
          rcases Nat.eq_zero_or_pos n with h | h
          · omega
          · exact (hL.row hts hpos (k := 0) h).2.2
        have hval : SV.val ρ (.v (.vl lab mem sz' cuts len)) = .slice (some ⟨(ρ lab 0).blk, (ρ lab 0).base + rsOf (ρ lab 0).room cuts 0 * sz, none⟩) (len []) ((ρ lab 0).room - sum cuts) := by simp [SV.val, Tr.val, hm0, hnil, hs1]
        rw [hval]
        have htouch : Touch ρ H ⟨.v (.vi .i64 fun _ => m), [{ en with t := .ta n r }], [], lab :: rd⟩ (ρ lab 0).blk :=
          ⟨lab, en, hl, hown, by simp, .inl (by simp [hlab]), hocc hdo ρ _ hnil hown rfl⟩
        have hown2 := (hL.2.2 hnil).2.2.1 rfl
        have hwid : wd (ρ lab 0).wid = sz := hLe.1.1.trans hw
        have hfresh : ∀ z ∈ [({ en with t := Tr.ta n r } : Ent)], ∀ k, z.occ ρ k → Touch ρ H ⟨.v (.vi .i64 fun _ => m), [{ en with t := .ta n r }], [], lab :: rd⟩ k ∨ w.heap.size ≤ k := by
          intro q hq k hk
          simp only [List.mem_singleton] at hq
          subst hq
          left
          obtain ⟨q, hq, h1, h2, h3⟩ := hk
          simp only [hfam] at hq
          subst hq
          simp only [hlab] at h3
          rw [← h3]; exact htouch
        rcases Nat.eq_zero_or_pos m with hmz | hmz
        · subst hmz
          have hne : (Tr.ta 0 g).cells ρ [] = [] := by simp [Tr.cells]
          rw [hne] at hs e4
          have hmid : mid = [] := by simpa using e3
          refine ⟨w, run_copy_none hu hi hsz _ _ _ (x.val ρ) hs, fun _ _ => rfl, ?_, Fr.refl _ _, hfresh, SepL.single _ _⟩
          intro q hq
          simp only [List.mem_singleton] at hq
          subst hq
          unfold Ent.holds
          simp only [hfam, hlab, hown]
          rw [e4, ← hmid, ← e1]
          exact hLe
        · have hrs : rsOf (ρ lab 0).room cuts 0 = sum cuts := rsOf_sum _ cuts 0 (by omega)
          have hmr : sum cuts * sz + m * sz ≤ (ρ lab 0).room * sz := by rw [← Nat.add_mul]; exact Nat.mul_le_mul_right _ (by omega)
          rw [hrs]
          refine ⟨w.setCells (ρ lab 0).blk ((ρ lab 0).base + sum cuts * sz) ((Tr.ta m g).cells ρ []), run_copy hu hi hsz _ _ _ _ m (x.val ρ) _ hs hml
              (fun j hj => by rw [Nat.add_assoc]; exact (hown2.2.1 (sum cuts * sz + j) (by rw [hwid]; omega)).1) (fun j hj => by rw [Nat.add_assoc]; exact (hown2.2.1 (sum cuts * sz + j) (by rw [hwid]; omega)).2),
            fun _ _ => rfl, ?_, Fr.setCells w _ _ _ htouch, hfresh, SepL.single _ _⟩
          intro q hq
          simp only [List.mem_singleton] at hq
          subst hq
          unfold Ent.holds
          simp only [hfam, hlab, hown]
          rw [e4]
          rw [e1] at hLe
          exact hLe.store hnil e2 (by rw [hnl, e3])
    · rename_i lab path sz' st len cap
      obtain ⟨_, c1, y1, c10, h1, h10, rfl⟩ := bind_ok h8
      obtain ⟨hs1, rfl, rfl⟩ := chk_ok h1
      have hs1 := Nat.eq_of_beq_eq_true hs1
      obtain ⟨_, c12, y12, c13, h1, h13, rfl⟩ := bind_ok h10
      obtain ⟨hml, hn2⟩ := need_ok h1
      obtain ⟨en, c1, y1, c14, h1, h14, rfl⟩ := bind_ok h13
      obtain ⟨hl, rfl, rfl⟩ := opt_ok h1
      obtain ⟨_, c1, y1, c15, h1, h15, rfl⟩ := bind_ok h14
      obtain ⟨hown, rfl, rfl⟩ := chk_ok h1
      obtain ⟨_, c1, y1, c16, h1, h16, rfl⟩ := bind_ok h15
      obtain ⟨hfam, rfl, rfl⟩ := chk_ok h1
      have hfam : en.fam = none := by simpa using hfam
      obtain ⟨⟨tt, js, cs⟩, c1, y1, c17, h1, h17, rfl⟩ := bind_ok h16
      obtain ⟨hg, rfl, rfl⟩ := opt_ok h1
      simp only at h17
      obtain ⟨_, c18, y18, c19, h18, h19, rfl⟩ := bind_ok h17
      obtain ⟨hcs, hn3⟩ := askAll_ok h18
      obtain ⟨_, c1, y1, c19b, h1, h19b, rfl⟩ := bind_ok h19
      obtain ⟨hjs, rfl, rfl⟩ := chk_ok h1
      have hjs : js = [] := by simpa using hjs
      subst hjs
      split at h19b
      · rename_i n u
        obtain ⟨_, c1, y1, c20, h1, h20, rfl⟩ := bind_ok h19b
        obtain ⟨hus, rfl, rfl⟩ := chk_ok h1
        have hus := Nat.eq_of_beq_eq_true hus
        obtain ⟨_, c21, y21, c22, h21, h22, rfl⟩ := bind_ok h20
        obtain ⟨hle, hn4⟩ := need_ok h21
        obtain ⟨r, c1, y1, c23, h1, h23, rfl⟩ := bind_ok h22
        obtain ⟨hr, rfl, rfl⟩ := opt_ok h1
        obtain ⟨t', c1, y1, c24, h1, h24, rfl⟩ := bind_ok h23
        obtain ⟨hset, rfl, rfl⟩ := opt_ok h1
        obtain ⟨rfl, rfl, rfl⟩ := pure_ok h24
        simp only [OkL_append] at hd
        have hle : st + len ≤ n := by simpa [Nat.ble_eq] using hle (by simp_all)
        have hml : m ≤ len := by simpa [Nat.ble_eq] using hml (by simp_all)
        have hcs := hcs (by simp_all)
        have hd5 : OkL c5 := by simp_all
        refine ⟨by omega, rfl, hxj, rfl, fun ρ w ty hH => ?_⟩
        have hs := hsrc hd5 hgs hpos hgc ρ w (fun q hq => hH q (List.mem_cons_of_mem _ hq))
        have hlab := look_lab hl
        have hholds := hH lab (by simp) en hl
        unfold Ent.holds at hholds
        simp only [hfam, hlab, hown] at hholds
        obtain ⟨hz, ⟨pre, post, hc1, hc2, hc3⟩, _⟩ := Tr.set_cells ρ path en.t [] _ [] cs _ t' hg hset hcs
        obtain ⟨pre2, mid, post2, e1, e2, e3, e4⟩ := cpyT_row ρ (n := n) hr hus (by omega)
        have hnl : ((Tr.ta m g).cells ρ []).length = m * sz := hs.newsLen
        rw [e1] at hc1
        rw [e4] at hc3
        have hc1' : en.t.cells ρ [] = (pre ++ pre2) ++ mid ++ (post2 ++ post) := by rw [hc1]; simp
        have hc3' : t'.cells ρ [] = (pre ++ pre2) ++ (Tr.ta m g).cells ρ [] ++ (post2 ++ post) := by rw [hc3]; simp
        have hfresh : (ρ lab 0).isNil = false → Touch ρ H ⟨.v (.vi .i64 fun _ => m), [{ en with t := t' }], [], lab :: rd⟩ (ρ lab 0).blk := by
          intro hnil
          exact ⟨lab, en, hl, hown, by simp, .inl (by simp [hlab]), ⟨0, by simp [hfam], by rw [hlab]; exact hnil, .inl hown, by rw [hlab]⟩⟩
        have hocc : ∀ z ∈ [({ en with t := t' } : Ent)], ∀ k, z.occ ρ k → Touch ρ H ⟨.v (.vi .i64 fun _ => m), [{ en with t := t' }], [], lab :: rd⟩ k ∨ w.heap.size ≤ k := by
          intro q hq k hk
          have hq' := hq
          simp only [List.mem_singleton] at hq
          subst hq
          left
          obtain ⟨q, hq, h1, h2, h3⟩ := hk
          simp only [hfam] at hq
          subst hq
          simp only [hlab] at h1 h3
          rw [← h3]; exact hfresh h1
        rcases Nat.eq_zero_or_pos m with hmz | hmz
        · subst hmz
          have hne : (Tr.ta 0 g).cells ρ [] = [] := by simp [Tr.cells]
          rw [hne] at hs hc3'
          have hmid : mid = [] := by simpa using e3
          refine ⟨w, run_copy_none hu hi hsz _ _ _ (x.val ρ) hs, fun _ _ => rfl, ?_, Fr.refl _ _, hocc, SepL.single _ _⟩
          intro q hq
          simp only [List.mem_singleton] at hq
          subst hq
          unfold Ent.holds
          simp only [hfam, hlab, hown]
          rw [hc3', ← hmid, ← hc1']
          exact hholds
        · have hnil : (ρ lab 0).isNil = false := by
            cases hq : (ρ lab 0).isNil with
            | false => rfl
            | true =>
              have := hholds.2.1 hq
              rw [hc1'] at this
              simp only [List.append_eq_nil_iff] at this
              rw [this.1.2] at e3
              have := Nat.mul_pos hmz hpos
              simp at e3; omega
          obtain ⟨g2, g3, _⟩ := (hholds.2.2 hnil).2.2.1 rfl
          have hroom := (hholds.2.2 hnil).2.1
          rw [hc1'] at hroom
          simp only [List.length_append, hc2, e2, e3] at hroom
          refine ⟨w.setCells (ρ lab 0).blk ((ρ lab 0).base + (offs path + st * sz)) ((Tr.ta m g).cells ρ []), ?_,
            fun _ _ => rfl, ?_, Fr.setCells w _ _ _ (hfresh hnil), hocc, SepL.single _ _⟩
          · have := run_copy (P := P) (w := w) (t := t) (tx := tx) (ty := ty) hu hi hsz (ρ lab 0).blk ((ρ lab 0).base + (offs path + st * sz)) len cap m (x.val ρ) _ hs hml
              (fun j hj => by rw [Nat.add_assoc]; exact (g3 (offs path + st * sz + j) (by omega)).1) (fun j hj => by rw [Nat.add_assoc]; exact (g3 (offs path + st * sz + j) (by omega)).2)
            rw [← Nat.add_assoc] at this ⊢
            rw [show SV.val ρ (.v (.va lab path sz' st len cap)) = .slice (some ⟨(ρ lab 0).blk, (ρ lab 0).base + offs path + st * sz', none⟩) len cap from rfl, ← hs1]
            exact this
          · intro q hq
            simp only [List.mem_singleton] at hq
            subst hq
            unfold Ent.holds
            simp only [hfam, hlab, hown]
            rw [hc3']
            rw [hc1'] at hholds
            exact hholds.store hnil (by simp [hc2, e2]) (by rw [hnl, e3])
      · exact (fail_ok h19b).elim
    · exact (fail_ok h8).elim
  · exact (fail_ok h2).elim

theorem opStrB_ok {P : Program} {H : List Ent} {src dst el : TypeId} {s : List UInt8} {z z' : Aux} {e : Eff} {d : Conds} (hdst : P.underlying dst = some (.slice el)) (h : opStrB P src el s z = .ok e d z') :
    z.nl ≤ z'.nl ∧ e.v.isJ = false ∧ ∀ (ρ : Con) (w : World), ∃ ρ' w', (convert src dst (.string ⟨s.toArray⟩)).run P w = .ok (e.v.val ρ') w' ∧ EffOK ρ ρ' z.nl z'.nl H e w w' := by
  unfold opStrB at h
  obtain ⟨us, c1, y1, c2, h1, h2, rfl⟩ := bind_ok h
  obtain ⟨hs, rfl, rfl⟩ := und_ok h1
  obtain ⟨ue, c1, y1, c3, h1, h3, rfl⟩ := bind_ok h2
  obtain ⟨he, rfl, rfl⟩ := und_ok h1
  split at h3
  · obtain ⟨l, c1, y1, c4, h1, h4, rfl⟩ := bind_ok h3
    obtain ⟨rfl, rfl, rfl⟩ := newLab_ok h1
    obtain ⟨rfl, rfl, rfl⟩ := pure_ok h4
    refine ⟨by simp, rfl, fun ρ w => ?_⟩
    have hrun := Lib.run_convert_string_bytes (P := P) w src dst el ⟨s.toArray⟩ hs hdst he
    have hsize : (⟨s.toArray⟩ : ByteArray).size = s.length := by rw [ba_size]
    rw [hsize] at hrun
    have hge := grownCap_ge w s.length 0 el
    have hcs : (Lib.bytesCells w el ⟨s.toArray⟩).size = grownCap w s.length 0 el := by
      simp [Lib.bytesCells, hsize]
      omega
    let L : Loc := ⟨w.heap.size, 0, grownCap w s.length 0 el, 1, false, none, false⟩
    have hput := put_ok (ρ := ρ) (H := H) (w := w) (w' := Lib.bytesWorld w el ⟨s.toArray⟩) (l := z.nl) (n := z.nl) (wid := 1) (t := .ta s.length (strEl s))
      (v := .v (.vl z.nl (fun _ => 0) 1 [] (fun _ => s.length))) (drop := []) (rd := []) (L := L) rfl
      (fun ρ' _ => by
        refine ⟨WidOK.refl _, fun h => by simp [L] at h, fun _ => ⟨fun j v hj => ?_, by rw [strEl_cells]; simp [L, byteCells, show wd 1 = 1 from rfl]; omega, fun _ => ⟨by rw [Lib.bytesWorld_size]; simp [L], fun j hj => ?_, fun q hq => absurd hq (by simp [L])⟩, fun h => by simp [L] at h⟩⟩
        · rw [strEl_cells] at hj
          simp only [byteCells, List.getElem?_map] at hj
          have hlt : j < s.length := by
            rcases Nat.lt_or_ge j s.length with h | h
            · exact h
            · rw [List.getElem?_eq_none (by simpa using h)] at hj; cases hj
          have := Lib.bytesWorld_cell w el ⟨s.toArray⟩ j (by rw [hsize]; exact hlt)
          simp only [L, Nat.zero_add]
          rw [this]
          rw [List.getElem?_eq_getElem (by simpa using hlt)] at hj
          simp only [Option.map_some, Option.some.injEq] at hj
          rw [← hj]
          simp [List.getD, List.getElem?_eq_getElem hlt]
        · simp only [L, show wd 1 = 1 from rfl, Nat.mul_one] at hj
          have hat := Lib.bytesWorld_at_new w el ⟨s.toArray⟩
          constructor
          · simp only [L, Nat.zero_add, World.cell?, hat]
            simp [hcs, hj]
          · simp only [L, Nat.zero_add, World.frozen?, hat]
            simp
            omega)
      ?_ (fun _ => .inr (by simp [L]))
    · refine ⟨_, _, ?_, hput⟩
      rw [hrun]
      simp [SV.val, Tr.val, rsOf, sum, L]
    · exact ⟨rfl, rfl, rfl, by rw [Lib.bytesWorld_size]; omega, fun k hk _ => Lib.bytesWorld_at_old w el _ k hk⟩
  · exact (fail_ok h3).elim


theorem opConv_ok {P : Program} {H : List Ent} {src dst : TypeId} {x : SV} {z z' : Aux} {e : Eff} {d : Conds} (h : opConv P H src dst x z = .ok e d z') (hd : OkL d) :
    z.nl ≤ z'.nl ∧ x.isJ = false ∧ e.v.isJ = false ∧ ∀ (ρ : Con) (w : World), Hp ρ H e.rd w → ∃ ρ' w', (convert src dst (x.val ρ)).run P w = .ok (e.v.val ρ') w' ∧ EffOK ρ ρ' z.nl z'.nl H e w w' := by
  unfold opConv at h
  obtain ⟨ud, c1, y1, c2, h1, h2, rfl⟩ := bind_ok h
  obtain ⟨hu, rfl, rfl⟩ := und_ok h1
  split at h2
  · rename_i el f
    obtain ⟨h3, h4, h5⟩ := opStrB_ok (H := H) hu h2
    exact ⟨h3, rfl, h4, fun ρ w _ => h5 ρ w⟩
  · simp only [List.nil_append] at hd
    obtain ⟨h1, h3, h4, h5, h6, h7⟩ := opConvert_ok h2 hd
    refine ⟨by omega, h3, h6, fun ρ w hH => ⟨ρ, w, h7 ρ w hH, ?_⟩⟩
    rw [h1]
    obtain ⟨v, u, dr, rd⟩ := e
    simp only at h4 h5; subst h4; subst h5
    exact EffOK.pure

end Go.Sx
