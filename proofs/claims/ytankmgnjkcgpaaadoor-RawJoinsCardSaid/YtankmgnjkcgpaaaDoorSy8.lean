/- The engine, part 8: indexes, integers, texts, equality. -/
import Derived.Test.YtankmgnjkcgpaaaDoorSy7
set_option linter.unusedSimpArgs false
set_option linter.unusedVariables false
namespace Go.Sx

theorem rowOf_ok {H : List Ent} {lab mem sz : Nat} {x y : Aux} {n : Nat} {t : Tr} {is : Ix} {d : Conds} (h : rowOf H lab mem sz x = .ok (n, t, is) d y) :
    y.nl = x.nl ∧ ∃ e, look H lab = some e ∧ wd e.wid = sz ∧ (e.fam = none → e.t = .ta n t) ∧ t.size = sz ∧ 0 < sz ∧
      (OkL d → ∀ (ρ : Con) (w : World), e.holds ρ w → Lies (ρ lab mem) e.own sz ((Tr.ta n t).cells ρ is) w) ∧
      (OkL d → ∀ (ρ : Con) k, (ρ lab mem).isNil = false → e.own = true → (ρ lab mem).blk = k → e.occ ρ k) := by
  unfold rowOf at h
  obtain ⟨e, c1, y1, c2, h1, h2, rfl⟩ := bind_ok h
  obtain ⟨hl, rfl, rfl⟩ := opt_ok h1
  obtain ⟨⟨tt, is'⟩, c1, y1, c3, h1, h3, rfl⟩ := bind_ok h2
  obtain ⟨hn, hroot, hocc, htt⟩ := root_ok h1
  simp only at h3
  obtain ⟨_, c4, y4, c5, h4, h5, rfl⟩ := bind_ok h3
  obtain ⟨hw, rfl, rfl⟩ := chk_ok h4
  obtain ⟨_, c4, y4, c6, h4, h6, rfl⟩ := bind_ok h5
  obtain ⟨hz, rfl, rfl⟩ := chk_ok h4
  have hw := Nat.eq_of_beq_eq_true hw
  have hz : 0 < sz := by simpa [Nat.blt_eq] using hz
  cases ht : tt with
  | ta n' t' =>
    simp only [ht] at h6
    obtain ⟨_, c4, y4, c7, h4, h7, rfl⟩ := bind_ok h6
    obtain ⟨hs, rfl, rfl⟩ := chk_ok h4
    obtain ⟨he, rfl, rfl⟩ := pure_ok h7
    simp only [Prod.mk.injEq] at he
    obtain ⟨rfl, rfl, rfl⟩ := he
    have hs := Nat.eq_of_beq_eq_true hs
    have hlab := look_lab hl
    refine ⟨hn, e, hl, hw, fun hf => (htt hf).symm.trans ht, hs, hz, fun hd ρ w hh => ?_, fun hd ρ k h1 h2 h3 => ?_⟩
    · simp only [OkL_append] at hd
      have := (hroot hd.2.1 ρ w hh).plain
      rw [hlab, hw, ht] at this; exact this
    · simp only [OkL_append] at hd
      exact hocc hd.2.1 ρ k (by rw [hlab]; exact h1) (.inl h2) (by rw [hlab]; exact h3)
  | _ => simp only [ht] at h6; exact (fail_ok h6).elim

theorem rowN_ok {H : List Ent} {lab mem sz : Nat} {x y : Aux} {n : Nat} {d : Conds} (h : rowN H lab mem sz x = .ok n d y) :
    y.nl = x.nl ∧ ∃ e, look H lab = some e ∧ 0 < sz ∧ (OkL d → ∀ (ρ : Con) (w : World), e.holds ρ w → ∃ cells, cells.length = n * sz ∧ Lies (ρ lab mem) e.own sz cells w) := by
  unfold rowN at h
  obtain ⟨e, c1, y1, c2, h1, h2, rfl⟩ := bind_ok h
  obtain ⟨hl, rfl, rfl⟩ := opt_ok h1
  obtain ⟨⟨tt, is'⟩, c1, y1, c3, h1, h3, rfl⟩ := bind_ok h2
  obtain ⟨hn, hroot, hocc, htt⟩ := root_ok h1
  simp only at h3
  obtain ⟨_, c4, y4, c5, h4, h5, rfl⟩ := bind_ok h3
  obtain ⟨hw, rfl, rfl⟩ := chk_ok h4
  obtain ⟨_, c4, y4, c6, h4, h6, rfl⟩ := bind_ok h5
  obtain ⟨hz, rfl, rfl⟩ := chk_ok h4
  have hw := Nat.eq_of_beq_eq_true hw
  have hz : 0 < sz := by simpa [Nat.blt_eq] using hz
  obtain ⟨hr, rfl, rfl⟩ := opt_ok h6
  have hlab := look_lab hl
  refine ⟨hn, e, hl, hz, fun hd ρ w hh => ⟨tt.cells ρ is', by rw [Tr.cells_length]; exact Tr.rows_size hr, ?_⟩⟩
  simp only [OkL_append] at hd
  have := (hroot hd.2.1 ρ w hh).plain
  rw [hlab, hw] at this; exact this

theorem Lies.rowN {L : Loc} {own : Bool} {sz n : Nat} {cells : List Value} {w : World} (h : Lies L own sz cells w) (hlen : cells.length = n * sz) (hz : 0 < sz) {k : Nat} (hk : k < n) :
    L.isNil = false ∧ k < L.room ∧ n ≤ L.room := by
  have hpos : 0 < n * sz := Nat.mul_pos (by omega) hz
  have hnil : L.isNil = false := by
    cases hq : L.isNil with
    | false => rfl
    | true => rw [h.2.1 hq] at hlen; simp at hlen; omega
  have h3 := (h.2.2 hnil).2.1
  rw [hlen, h.1.1] at h3
  have h3 := Nat.le_trans h3 (Nat.mul_le_mul_left _ (wd_le sz))
  have := Nat.le_of_mul_le_mul_right h3 hz
  exact ⟨hnil, by omega, this⟩

theorem Lies.row {L : Loc} {own : Bool} {sz n : Nat} {t : Tr} {ρ : Con} {is : Ix} {w : World} (h : Lies L own sz ((Tr.ta n t).cells ρ is) w) (ht : t.size = sz) (hz : 0 < sz) {k : Nat} (hk : k < n) :
    L.isNil = false ∧ k < L.room ∧ n ≤ L.room := by
  have hlen : ((Tr.ta n t).cells ρ is).length = n * sz := by rw [Tr.cells_length]; simp [Tr.size, ht]
  have hpos : 0 < n * sz := Nat.mul_pos (by omega) hz
  have hnil : L.isNil = false := by
    cases hq : L.isNil with
    | false => rfl
    | true => rw [h.2.1 hq] at hlen; simp at hlen; omega
  have h3 := (h.2.2 hnil).2.1
  rw [hlen, h.1.1] at h3
  have h3 := Nat.le_trans h3 (Nat.mul_le_mul_left _ (wd_le sz))
  have := Nat.le_of_mul_le_mul_right h3 hz
  exact ⟨hnil, by omega, this⟩

theorem opIndexAddr_ok {P : Program} {H : List Ent} {t : TypeId} {a ix : SV} {x y : Aux} {e : Eff} {d : Conds} (h : opIndexAddr P H t a ix x = .ok e d y) (hd : OkL d) :
    y.nl = x.nl ∧ a.isJ = false ∧ ix.isJ = false ∧ e.upd = [] ∧ e.drop = [] ∧ e.v.isJ = false ∧ ∀ (ρ : Con) (w : World), Hp ρ H e.rd w → (Instr.indexAt t (a.val ρ) (ix.val ρ)).run P w = .ok (e.v.val ρ) w := by
  unfold opIndexAddr at h
  split at h
  · rename_i k f
    simp only at h
    obtain ⟨u, c1, y1, c2, h1, h2, rfl⟩ := bind_ok h
    obtain ⟨hu, rfl, rfl⟩ := und_ok h1
    split at h2
    · rename_i n el lab mem path
      obtain ⟨_, c1, y1, c3, h1, h3, rfl⟩ := bind_ok h2
      obtain ⟨hb, hn⟩ := need_ok h1
      obtain ⟨sz, c4, y4, c5, h4, h5, rfl⟩ := bind_ok h3
      obtain ⟨⟨i, hi, hsz⟩, rfl, rfl⟩ := szOf_ok h4
      obtain ⟨kk, c6, y6, c7, h6, h7, rfl⟩ := bind_ok h5
      obtain ⟨hk, hn2⟩ := spot_ok h6
      obtain ⟨rfl, rfl, rfl⟩ := pure_ok h7
      simp only [OkL_append] at hd
      have hb := hb hd.2.1
      simp only [decide_eq_true_eq] at hb
      have hk := hk hd.2.2.2.1
      subst hk
      refine ⟨hn2.trans hn, rfl, rfl, rfl, rfl, rfl, fun ρ w _ => ?_⟩
      simp [Instr.indexAt, SV.val, Tr.val, asIntOf, run_underlying hu, Instr.sureAddr, hb, run_sz hi, hsz, Eff.val, offs_append, offs, Stp.off, addr_add, Nat.add_assoc]
    · rename_i el lab mem sz cuts len
      obtain ⟨_, c1, y1, c3, h1, h3, rfl⟩ := bind_ok h2
      obtain ⟨hb, hn⟩ := need_ok h1
      obtain ⟨sz', c4, y4, c5, h4, h5, rfl⟩ := bind_ok h3
      obtain ⟨⟨i, hi, hsz⟩, rfl, rfl⟩ := szOf_ok h4
      obtain ⟨_, c4, y4, c6, h4, h6, rfl⟩ := bind_ok h5
      obtain ⟨hs, rfl, rfl⟩ := chk_ok h4
      have hs := Nat.eq_of_beq_eq_true hs
      obtain ⟨n, c4, y4, c7, h4, h7, rfl⟩ := bind_ok h6
      obtain ⟨hn2, en, hl, hz, hlies⟩ := rowN_ok h4
      obtain ⟨_, c8, y8, c9, h8, h9, rfl⟩ := bind_ok h7
      obtain ⟨hlt, hn3⟩ := need_ok h8
      obtain ⟨rfl, rfl, rfl⟩ := pure_ok h9
      simp only [OkL_append] at hd
      have hb := hb hd.2.1
      simp only [decide_eq_true_eq] at hb
      have hlt := hlt hd.2.2.2.2.2.1
      rw [Nat.blt_eq] at hlt
      refine ⟨hn3.trans (hn2.trans hn), rfl, rfl, rfl, rfl, rfl, fun ρ w hH => ?_⟩
      obtain ⟨cells, hcl, hL⟩ := hlies hd.2.2.2.2.1 ρ w (hH lab (by simp) en hl)
      obtain ⟨g1, g2, g3⟩ := hL.rowN hcl hz hlt
      have hrs := rsOf_sum (ρ lab (mem [])).room cuts 0 (by omega)
      have hval : SV.val ρ (.v (.vl lab mem sz cuts len)) = .slice (some ⟨(ρ lab (mem [])).blk, (ρ lab (mem [])).base + sum cuts * sz, none⟩) (len []) ((ρ lab (mem [])).room - sum cuts) := by
        simp [SV.val, Tr.val, g1, hrs]
      rw [hval]
      have hmul : sum cuts * sz + (f []).toNat * sz = (sum cuts + (f []).toNat) * sz := (Nat.add_mul _ _ _).symm
      simp [Instr.indexAt, SV.val, Tr.val, asIntOf, run_underlying hu, hb, run_sz hi, hsz, ← hs, offs, Stp.off, addr_add, Nat.add_assoc, hmul]
    · rename_i el lab path sz st len cap
      obtain ⟨_, c1, y1, c3, h1, h3, rfl⟩ := bind_ok h2
      obtain ⟨hb, hn⟩ := need_ok h1
      obtain ⟨sz', c4, y4, c5, h4, h5, rfl⟩ := bind_ok h3
      obtain ⟨⟨i, hi, hsz⟩, rfl, rfl⟩ := szOf_ok h4
      obtain ⟨_, c4, y4, c6, h4, h6, rfl⟩ := bind_ok h5
      obtain ⟨hs, rfl, rfl⟩ := chk_ok h4
      have hs := Nat.eq_of_beq_eq_true hs
      obtain ⟨rfl, rfl, rfl⟩ := pure_ok h6
      simp only [OkL_append] at hd
      have hb := hb hd.2.1
      simp only [decide_eq_true_eq] at hb
      refine ⟨hn, rfl, rfl, rfl, rfl, rfl, fun ρ w _ => ?_⟩
      have hmul : st * sz + (f []).toNat * sz = (st + (f []).toNat) * sz := (Nat.add_mul _ _ _).symm
      simp [Instr.indexAt, SV.val, Tr.val, asIntOf, run_underlying hu, hb, run_sz hi, hsz, ← hs, Eff.val, offs_append, offs, Stp.off, addr_add, Nat.add_assoc, hmul]
    · exact (fail_ok h2).elim
  · exact (fail_ok h).elim

theorem ba_get (l : List UInt8) (i : Nat) (h : i < l.length) : (⟨l.toArray⟩ : ByteArray)[i]? = some (l.getD i 0) := by
  have h1 : i < (⟨l.toArray⟩ : ByteArray).size := by simpa [ByteArray.size] using h
  rw [ByteArray.getElem?_lt' _ _ h1]
  simp only [List.getD, List.getElem?_eq_getElem h, Option.getD_some]
  rfl

theorem opIndex_ok {P : Program} {t : TypeId} {a ix : SV} {x y : Aux} {e : Eff} {d : Conds} (h : opIndex P t a ix x = .ok e d y) (hd : OkL d) :
    y.nl = x.nl ∧ a.isJ = false ∧ ix.isJ = false ∧ e.upd = [] ∧ e.drop = [] ∧ e.v.isJ = false ∧ ∀ (ρ : Con) (w : World), (Instr.index t (a.val ρ) (ix.val ρ)).run P w = .ok (e.v.val ρ) w := by
  unfold opIndex at h
  split at h
  · rename_i k f
    simp only at h
    obtain ⟨u, c1, y1, c2, h1, h2, rfl⟩ := bind_ok h
    obtain ⟨hu, rfl, rfl⟩ := und_ok h1
    split at h2
    · rename_i n el m u
      obtain ⟨_, c1, y1, c3, h1, h3, rfl⟩ := bind_ok h2
      obtain ⟨hnm, rfl, rfl⟩ := chk_ok h1
      have hnm := Nat.eq_of_beq_eq_true hnm
      obtain ⟨_, c1, y1, c4, h1, h4, rfl⟩ := bind_ok h3
      obtain ⟨hb, hn⟩ := need_ok h1
      obtain ⟨g, c5, y5, c6, h5, h6, rfl⟩ := bind_ok h4
      obtain ⟨⟨ud, hud, hg⟩, rfl, rfl⟩ := isAggB_ok h5
      obtain ⟨sz, c5, y5, c7, h5, h7, rfl⟩ := bind_ok h6
      obtain ⟨⟨i, hi, hsz⟩, rfl, rfl⟩ := szOf_ok h5
      obtain ⟨_, c5, y5, c8, h5, h8, rfl⟩ := bind_ok h7
      obtain ⟨hus, rfl, rfl⟩ := chk_ok h5
      have hus := Nat.eq_of_beq_eq_true hus
      obtain ⟨v, c5, y5, c9, h5, h9, rfl⟩ := bind_ok h8
      obtain ⟨rfl, rfl, hj, hv, hleaf⟩ := mkV_ok h5
      obtain ⟨rfl, rfl, rfl⟩ := pure_ok h9
      simp only [OkL_append] at hd
      have hb := hb hd.2.2.1
      simp only [decide_eq_true_eq] at hb
      refine ⟨hn, rfl, rfl, rfl, rfl, hj, fun ρ w => ?_⟩
      subst hnm
      obtain ⟨pre, post, hc, hp, _⟩ := flatMap_range_split n (f []).toNat (by omega) (fun i => u.cells ρ ([] ++ [i])) u.size (fun x => Tr.cells_length ρ u _)
      have hval : SV.val ρ (.agg (.ta n u)) = .agg (pre ++ u.cells ρ [(f []).toNat] ++ post).toArray := by
        simp only [SV.val, Tr.cells]; rw [hc]; simp
      rw [hval]
      simp only [Instr.index, Sem.run_bind, SV.val, Tr.val, asIntOf, Sem.run_pure, Result.andThen_ok, run_underlying hu, Sem.run_ite, hb, and_self, if_true, run_sz hi]
      have hp' : pre.length = (f []).toNat * i.size := by rw [hp, hus, hsz]
      rw [run_part hud hi (by rw [Tr.cells_length]; omega) hp' (fun ha => ?_)]
      · show _ = Result.ok (v.val ρ) w
        rw [hv ρ, hg]
        cases g
        · have := hleaf rfl
          rw [Tr.inst_leaf] at this
          simp [Tr.cells_leaf ρ this, Tr.inst_val]
        · simp [Tr.inst_cells]
      · rw [hg] at ha; subst ha
        have := hleaf rfl
        rw [Tr.inst_leaf] at this
        exact ⟨u.val ρ _, Tr.cells_leaf ρ this _⟩
    · rename_i n el tb tc
      obtain ⟨_, c1, y1, c4, h1, h4, rfl⟩ := bind_ok h2
      obtain ⟨hb, hn⟩ := need_ok h1
      obtain ⟨kk, c5, y5, c6, h5, h6, rfl⟩ := bind_ok h4
      obtain ⟨hk, hn2⟩ := pick_ok h5
      obtain ⟨⟨o, u⟩, c7, y7, c8, h7, h8, rfl⟩ := bind_ok h6
      obtain ⟨hfl, rfl, rfl⟩ := opt_ok h7
      simp only at h8
      obtain ⟨g, c5, y5, c9, h5, h9, rfl⟩ := bind_ok h8
      obtain ⟨⟨ud, hud, hg⟩, rfl, rfl⟩ := isAggB_ok h5
      obtain ⟨sz, c5, y5, c10, h5, h10, rfl⟩ := bind_ok h9
      obtain ⟨⟨i, hi, hsz⟩, rfl, rfl⟩ := szOf_ok h5
      obtain ⟨_, c5, y5, c11, h5, h11, rfl⟩ := bind_ok h10
      obtain ⟨ho, rfl, rfl⟩ := chk_ok h5
      have ho := Nat.eq_of_beq_eq_true ho
      obtain ⟨_, c5, y5, c12, h5, h12, rfl⟩ := bind_ok h11
      obtain ⟨hus, rfl, rfl⟩ := chk_ok h5
      have hus := Nat.eq_of_beq_eq_true hus
      obtain ⟨v, c5, y5, c13, h5, h13, rfl⟩ := bind_ok h12
      obtain ⟨rfl, rfl, hj, hv, hleaf⟩ := mkV_ok h5
      obtain ⟨rfl, rfl, rfl⟩ := pure_ok h13
      simp only [OkL_append] at hd
      have hb := hb hd.2.1
      have hk := hk hd.2.2.1
      simp only [decide_eq_true_eq] at hb
      refine ⟨hn2.trans hn, rfl, rfl, rfl, rfl, hj, fun ρ w => ?_⟩
      obtain ⟨pre, post, hc, hp⟩ := Tr.fld_cells ρ (.tc tb tc) kk o u hfl []
      have hval : SV.val ρ (.agg (.tc tb tc)) = .agg (pre ++ u.cells ρ [] ++ post).toArray := by
        simp only [SV.val]; rw [hc]
      rw [hval]
      simp only [Instr.index, Sem.run_bind, SV.val, Tr.val, asIntOf, Sem.run_pure, Result.andThen_ok, run_underlying hu, Sem.run_ite, hb, and_self, if_true, run_sz hi]
      have hp' : pre.length = (f []).toNat * i.size := by rw [hp, ho, hsz, hk]; simp
      rw [run_part hud hi (by rw [Tr.cells_length]; omega) hp' (fun ha => ?_)]
      · show _ = Result.ok (v.val ρ) w
        rw [hv ρ, hg]
        cases g
        · simp [Tr.cells_leaf ρ (hleaf rfl)]
        · simp
      · rw [hg] at ha; subst ha
        exact ⟨u.val ρ _, Tr.cells_leaf ρ (hleaf rfl) _⟩
    · rename_i s
      obtain ⟨_, c1, y1, c3, h1, h3, rfl⟩ := bind_ok h2
      obtain ⟨hb, hn⟩ := need_ok h1
      obtain ⟨rfl, rfl, rfl⟩ := pure_ok h3
      simp only [OkL_append] at hd
      have hb := hb hd.2.1
      simp only [decide_eq_true_eq] at hb
      refine ⟨hn, rfl, rfl, rfl, rfl, rfl, fun ρ w => ?_⟩
      have hg := ba_get (s []) (f []).toNat (by omega)
      simp only [Instr.index, Sem.run_bind, SV.val, Tr.val, asIntOf, Sem.run_pure, Result.andThen_ok, run_underlying hu, hb.1, if_true, hg, Eff.val]
    · exact (fail_ok h2).elim
  · exact (fail_ok h).elim

theorem sameK_eq {a b : IntKind} (h : sameK a b = true) : a = b := by
  cases a <;> cases b <;> simp_all [sameK]

theorem binInt_ok {op : BinOp} {k : IntKind} {a b : Int} {x y : Aux} {t : Tr} {d : Conds} (h : binInt op k a b x = .ok t d y) (hd : OkL d) :
    y.nl = x.nl ∧ ∀ (P : Program) (ρ : Con) (w : World) (xT : TypeId), op ≠ .shl → op ≠ .shr → (binOp op xT (.int k a) (.int k b)).run P w = .ok (t.val ρ []) w := by
  unfold binInt at h
  cases op <;> simp only at h
  case quo =>
    obtain ⟨_, c1, y1, c2, h1, h2, rfl⟩ := bind_ok h
    obtain ⟨hb, hn⟩ := need_ok h1
    obtain ⟨rfl, rfl, rfl⟩ := pure_ok h2
    have hb := hb (OkL_append.1 hd).1
    refine ⟨hn, fun P ρ w xT _ _ => ?_⟩
    have : ¬ b = 0 := by simpa using hb
    simp [binOp, Op.intDiv, this, Tr.val]
  case rem =>
    obtain ⟨_, c1, y1, c2, h1, h2, rfl⟩ := bind_ok h
    obtain ⟨hb, hn⟩ := need_ok h1
    obtain ⟨rfl, rfl, rfl⟩ := pure_ok h2
    have hb := hb (OkL_append.1 hd).1
    refine ⟨hn, fun P ρ w xT _ _ => ?_⟩
    have : ¬ b = 0 := by simpa using hb
    simp [binOp, Op.intDiv, this, Tr.val]
  all_goals first
    | exact (fail_ok h).elim
    | (obtain ⟨rfl, rfl, rfl⟩ := pure_ok h
       refine ⟨rfl, fun P ρ w xT h1 h2 => ?_⟩
       first
         | exact absurd rfl h1
         | exact absurd rfl h2
         | rfl
         | simp [binOp, Op.intArith, Op.intBits, Op.intCmp, Tr.val, iand, ior, ixor, iandn])

theorem ba_toList (l : List UInt8) : (⟨l.toArray⟩ : ByteArray).toList = l := by
  rw [ByteArray.toList_eq]

theorem ba_size (l : List UInt8) : (⟨l.toArray⟩ : ByteArray).size = l.length := by simp [ByteArray.size]

theorem ba_append (a b : List UInt8) : (⟨a.toArray⟩ : ByteArray) ++ ⟨b.toArray⟩ = ⟨(a ++ b).toArray⟩ := by
  apply ba_ext
  simp

theorem binStr_ok {op : BinOp} {a b : List UInt8} {x y : Aux} {t : Tr} {d : Conds} (h : binStr op a b x = .ok t d y) (hd : OkL d) :
    y.nl = x.nl ∧ ∀ (P : Program) (ρ : Con) (w : World) (xT : TypeId), (binOp op xT (.string ⟨a.toArray⟩) (.string ⟨b.toArray⟩)).run P w = .ok (t.val ρ []) w := by
  unfold binStr at h
  cases op <;> simp only at h
  case add =>
    obtain ⟨_, c1, y1, c2, h1, h2, rfl⟩ := bind_ok h
    obtain ⟨hb, hn⟩ := need_ok h1
    obtain ⟨rfl, rfl, rfl⟩ := pure_ok h2
    have hb := hb (OkL_append.1 hd).1
    simp only [decide_eq_true_eq] at hb
    refine ⟨hn, fun P ρ w xT => ?_⟩
    have h3 : ¬ ((((⟨a.toArray⟩ : ByteArray).size + (⟨b.toArray⟩ : ByteArray).size : Nat) : Int) > IntKind.i64.max) := by
      rw [ba_size, ba_size]
      have : IntKind.i64.max = 9223372036854775807 := by decide
      omega
    simp only [binOp, Op.stringOp, h3, if_false, Sem.run_pure, ba_append, Tr.val]
  all_goals first
    | exact (fail_ok h).elim
    | (obtain ⟨rfl, rfl, rfl⟩ := pure_ok h
       refine ⟨rfl, fun P ρ w xT => ?_⟩
       simp only [binOp, Op.stringOp, ba_toList, Tr.val, Sem.run_pure])

end Go.Sx
