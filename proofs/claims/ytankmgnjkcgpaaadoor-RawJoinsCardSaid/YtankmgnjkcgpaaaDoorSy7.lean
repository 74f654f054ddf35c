/- The engine, part 7: zero values, addresses, parts of values, integers, texts, equality. -/
import Derived.Test.YtankmgnjkcgpaaaDoorSy6
set_option linter.unusedSimpArgs false
set_option linter.unusedVariables false
namespace Go.Sx

theorem ba_ext {a b : ByteArray} (h : a.data.toList = b.data.toList) : a = b := by
  cases a; cases b; simp only at h; congr 1; exact Array.ext' h

theorem sameV_eq {a b : Value} (h : sameV a b = true) : a = b := by
  unfold sameV at h
  split at h <;> simp_all
  exact ba_ext (by rw [h])

theorem sameVs_eq : ∀ {a b : List Value}, sameVs a b = true → a = b
  | [], [], _ => rfl
  | a :: r, b :: s, h => by
    simp only [sameVs] at h
    split at h
    · rename_i hs; rw [sameV_eq hs, sameVs_eq h]
    · simp at h
  | [], _ :: _, h => by simp [sameVs] at h
  | _ :: _, [], h => by simp [sameVs] at h

theorem zeroM_ok {P : Program} {t : TypeId} {x y : Aux} {z : Tr} {d : Conds} (h : zeroM P t x = .ok z d y) : d = [] ∧ x = y ∧ z.labs = [] ∧
    (∃ i v, P.info? t = some i ∧ i.zero = some v ∧ ∀ ρ, v.cells.toList = z.cells ρ []) := by
  unfold zeroM at h
  obtain ⟨z', c1, y1, c2, h1, h2, rfl⟩ := bind_ok h
  obtain ⟨_, rfl, rfl⟩ := opt_ok h1
  obtain ⟨v, c1, y1, c3, h1, h3, rfl⟩ := bind_ok h2
  obtain ⟨hv, rfl, rfl⟩ := opt_ok h1
  obtain ⟨_, c1, y1, c4, h1, h4, rfl⟩ := bind_ok h3
  obtain ⟨hl, rfl, rfl⟩ := chk_ok h1
  obtain ⟨_, c1, y1, c5, h1, h5, rfl⟩ := bind_ok h4
  obtain ⟨hs, rfl, rfl⟩ := chk_ok h1
  obtain ⟨rfl, rfl, rfl⟩ := pure_ok h5
  have hl : z.labs = [] := by simpa using hl
  refine ⟨rfl, rfl, hl, ?_⟩
  cases hi : P.info? t with
  | none => simp [hi] at hv
  | some i =>
    simp only [hi, Option.bind_some] at hv
    exact ⟨i, v, rfl, hv, fun ρ => by rw [← sameVs_eq hs]; exact Tr.cells_agree z [] (fun k hk => by rw [hl] at hk; simp at hk)⟩

theorem zeroRow_ok {P : Program} {t e : TypeId} {n : Nat} {x y : Aux} {z : Tr} {d : Conds} (h : zeroRow P t e n x = .ok z d y) : d = [] ∧ x = y ∧ z.labs = [] ∧
    (∃ i v, P.info? t = some i ∧ i.zero = some v ∧ ∀ ρ, v.cells.toList = z.cells ρ []) := by
  unfold zeroRow at h
  obtain ⟨z', c1, y1, c2, h1, h2, rfl⟩ := bind_ok h
  obtain ⟨_, rfl, rfl⟩ := opt_ok h1
  obtain ⟨v, c1, y1, c3, h1, h3, rfl⟩ := bind_ok h2
  obtain ⟨hv, rfl, rfl⟩ := opt_ok h1
  obtain ⟨_, c1, y1, c4, h1, h4, rfl⟩ := bind_ok h3
  obtain ⟨hl, rfl, rfl⟩ := chk_ok h1
  obtain ⟨_, c1, y1, c5, h1, h5, rfl⟩ := bind_ok h4
  obtain ⟨hs, rfl, rfl⟩ := chk_ok h1
  obtain ⟨rfl, rfl, rfl⟩ := pure_ok h5
  have hl : (repC z' n).labs = [] := by simpa using hl
  refine ⟨rfl, rfl, hl, ?_⟩
  cases hi : P.info? t with
  | none => simp [hi] at hv
  | some i =>
    simp only [hi, Option.bind_some] at hv
    exact ⟨i, v, rfl, hv, fun ρ => by rw [← sameVs_eq hs]; exact Tr.cells_agree _ [] (fun k hk => by rw [hl] at hk; simp at hk)⟩

theorem pick_ok {i : Int} : ∀ {r k : Nat} {x y : Aux} {m : Nat} {d : Conds}, pick i r k x = .ok m d y → (OkL d → i = (m : Int)) ∧ y.nl = x.nl
  | 0, k, x, y, m, d, h => (fail_ok h).elim
  | r + 1, k, x, y, m, d, h => by
    simp only [pick] at h
    obtain ⟨a, c1, y1, c2, h1, h2, rfl⟩ := bind_ok h
    obtain ⟨h3, h4⟩ := ask_ok h1
    cases a
    · simp only [Bool.false_eq_true, if_false] at h2
      obtain ⟨h5, h6⟩ := pick_ok h2
      exact ⟨fun hd => h5 (OkL_append.1 hd).2, h6.trans h4⟩
    · simp only [if_true] at h2
      obtain ⟨rfl, rfl, rfl⟩ := pure_ok h2
      exact ⟨fun hd => of_decide_eq_true (h3 (OkL_append.1 hd).1), h4⟩

theorem spot_ok {H : List Ent} {lab : Nat} {path : List Stp} {n : Nat} {i : Int} {x y : Aux} {m : Nat} {d : Conds} (h : spot H lab path n i x = .ok m d y) : (OkL d → m = i.toNat) ∧ y.nl = x.nl := by
  have key : ∀ {x y : Aux} {m : Nat} {d : Conds}, (pure i.toNat : M Nat) x = .ok m d y → (OkL d → m = i.toNat) ∧ y.nl = x.nl := fun h => by
    obtain ⟨rfl, rfl, rfl⟩ := pure_ok h
    exact ⟨fun _ => rfl, rfl⟩
  unfold spot at h
  cases hl : look H lab with
  | none => rw [hl] at h; exact key h
  | some e =>
    rw [hl] at h
    simp only at h
    cases hf : e.fam with
    | some lc => rw [hf] at h; exact key h
    | none =>
      rw [hf] at h
      simp only at h
      cases hg : Tr.get path e.t [] with
      | none => rw [hg] at h; exact key h
      | some q =>
        obtain ⟨u, js, cs⟩ := q
        rw [hg] at h
        cases u with
        | tc b c =>
          have h : pick i n 0 x = .ok m d y := h
          obtain ⟨h1, h2⟩ := pick_ok h
          exact ⟨fun hd => by have := h1 hd; omega, h2⟩
        | _ => exact key h

theorem run_zero {P : Program} {t : TypeId} {i : TypeInfo} {v : Value} (h : P.info? t = some i) (hz : i.zero = some v) (w : World) : (zeroValue t).run P w = .ok v w := by
  unfold zeroValue typeInfo
  simp [h, hz]

theorem opAlloc_ok {P : Program} {H : List Ent} {t : TypeId} {x y : Aux} {e : Eff} {d : Conds} (h : (do let z ← zeroM P t; opBox t z : M Eff) x = .ok e d y) :
    y.nl = x.nl + 1 ∧ e.v.isJ = false ∧ ∀ (ρ : Con) (w : World), ∃ ρ' w', (Instr.alloc t true (.tuple #[])).run P w = .ok (e.v.val ρ') w' ∧ EffOK ρ ρ' x.nl y.nl H e w w' := by
  obtain ⟨z, c1, y1, c2, h1, h2, rfl⟩ := bind_ok h
  obtain ⟨rfl, rfl, hl, i, v, hi, hz, hv⟩ := zeroM_ok h1
  obtain ⟨h3, h4, h5⟩ := opBox_ok (P := P) (H := H) h2
  refine ⟨h3, h4, fun ρ w => ?_⟩
  obtain ⟨ρ', w', h6, h7⟩ := h5 ρ w v (hv ρ)
  refine ⟨ρ', w', ?_, h7⟩
  simp only [Instr.alloc, Sem.run_bind, run_zero hi hz, Result.andThen_ok]
  exact h6

theorem fieldOf_ok {P : Program} {s : TypeId} {f : Nat} {x y : Aux} {fl : Field} {d : Conds} (h : fieldOf P s f x = .ok fl d y) : d = [] ∧ x = y ∧ ∃ fs : Array Field, P.underlying s = some (.struct fs) ∧ fs[f]? = some fl := by
  unfold fieldOf at h
  obtain ⟨u, c1, y1, c2, h1, h2, rfl⟩ := bind_ok h
  obtain ⟨hu, rfl, rfl⟩ := und_ok h1
  split at h2
  · rename_i fs
    obtain ⟨h3, rfl, rfl⟩ := opt_ok h2
    exact ⟨rfl, rfl, fs, hu, h3⟩
  · exact (fail_ok h2).elim

theorem addr_add (b o n : Nat) : (⟨b, o, none⟩ : Addr).add n = ⟨b, o + n, none⟩ := by
  unfold Addr.add; split
  · rename_i h; subst h; rfl
  · rfl

theorem opFieldAddr_ok {P : Program} {s : TypeId} {a : SV} {f : Nat} {x y : Aux} {e : Eff} {d : Conds} (h : opFieldAddr P s a f x = .ok e d y) :
    x = y ∧ a.isJ = false ∧ e.upd = [] ∧ e.drop = [] ∧ e.v.isJ = false ∧ ∀ (ρ : Con) (w : World), (Instr.fieldAt s (a.val ρ) f).run P w = .ok (e.v.val ρ) w := by
  unfold opFieldAddr at h
  split at h
  · rename_i lab mem path
    obtain ⟨fl, c1, y1, c2, h1, h2, rfl⟩ := bind_ok h
    obtain ⟨rfl, rfl, fs, hu, hf⟩ := fieldOf_ok h1
    obtain ⟨n, c1, y1, c3, h1, h3, rfl⟩ := bind_ok h2
    obtain ⟨⟨i, hi, hn⟩, rfl, rfl⟩ := szOf_ok h1
    obtain ⟨_, c1, y1, c4, h1, h4, rfl⟩ := bind_ok h3
    obtain ⟨hpos, rfl, rfl⟩ := chk_ok h1
    obtain ⟨rfl, rfl, rfl⟩ := pure_ok h4
    have hpos : 0 < n := by simpa [Nat.blt_eq] using hpos
    refine ⟨rfl, rfl, rfl, rfl, rfl, fun ρ w => ?_⟩
    have h0 : ¬ i.size = 0 := by omega
    simp only [Instr.fieldAt, Sem.run_bind, run_underlying hu, Result.andThen_ok, hf]
    simp only [SV.val, Tr.val, Instr.sureAddr, Sem.run_pure, Result.andThen_ok, Sem.run_bind, fieldPlace, run_sz hi, h0, if_false, addr_add, Eff.val, offs_append, offs, Stp.off, Nat.add_zero, Nat.add_assoc]
  · exact (fail_ok h).elim

theorem take_mid {α : Type} (pre mid post : List α) : ((pre ++ mid ++ post).drop pre.length).take mid.length = mid := by
  rw [List.append_assoc, List.drop_left, List.take_left]

theorem run_part {P : Program} {t : TypeId} {ud : TypeDesc} {i : TypeInfo} (hu : P.underlying t = some ud) (hi : P.info? t = some i) {pre mid post : List Value} (hm : mid.length = i.size) {o : Nat} (ho : pre.length = o)
    (h1 : aggD ud = false → ∃ v, mid = [v]) (w : World) :
    (Go.part t (pre ++ mid ++ post).toArray o).run P w = .ok (if aggD ud then .agg mid.toArray else mid.headD undef) w := by
  subst ho
  unfold Go.part
  simp only [Sem.run_bind, run_isAgg hu, Result.andThen_ok]
  cases hg : aggD ud
  · obtain ⟨v, rfl⟩ := h1 hg
    simp only [Bool.false_eq_true, if_false]
    have : (pre ++ [v] ++ post).toArray[pre.length]? = some v := by simp
    rw [this]; simp
  · simp only [if_true, Sem.run_bind, run_sz hi, Result.andThen_ok, Sem.run_pure]
    congr 2
    apply Array.ext'
    simp only [Array.toList_extract]
    rw [List.extract_eq_take_drop]
    have : pre.length + i.size - pre.length = mid.length := by omega
    rw [this]
    exact take_mid pre mid post

theorem opField_ok {P : Program} {s : TypeId} {a : SV} {f : Nat} {x y : Aux} {e : Eff} {d : Conds} (h : opField P s a f x = .ok e d y) :
    x = y ∧ a.isJ = false ∧ e.upd = [] ∧ e.drop = [] ∧ e.v.isJ = false ∧ ∀ (ρ : Con) (w : World), (Instr.field s (a.val ρ) f).run P w = .ok (e.v.val ρ) w := by
  unfold opField at h
  split at h
  · rename_i t
    obtain ⟨fl, c1, y1, c2, h1, h2, rfl⟩ := bind_ok h
    obtain ⟨rfl, rfl, fs, hu, hf⟩ := fieldOf_ok h1
    obtain ⟨⟨o, u⟩, c1, y1, c3, h1, h3, rfl⟩ := bind_ok h2
    obtain ⟨hfl, rfl, rfl⟩ := opt_ok h1
    simp only at h3
    obtain ⟨_, c1, y1, c4, h1, h4, rfl⟩ := bind_ok h3
    obtain ⟨ho, rfl, rfl⟩ := chk_ok h1
    have ho := Nat.eq_of_beq_eq_true ho
    obtain ⟨g, c1, y1, c5, h1, h5, rfl⟩ := bind_ok h4
    obtain ⟨⟨ud, hud, hg⟩, rfl, rfl⟩ := isAggB_ok h1
    obtain ⟨n, c1, y1, c6, h1, h6, rfl⟩ := bind_ok h5
    obtain ⟨⟨i, hi, hn⟩, rfl, rfl⟩ := szOf_ok h1
    obtain ⟨_, c1, y1, c7, h1, h7, rfl⟩ := bind_ok h6
    obtain ⟨hsz, rfl, rfl⟩ := chk_ok h1
    have hsz := Nat.eq_of_beq_eq_true hsz
    obtain ⟨v, c1, y1, c8, h1, h8, rfl⟩ := bind_ok h7
    obtain ⟨rfl, rfl, hj, hv, hleaf⟩ := mkV_ok h1
    obtain ⟨rfl, rfl, rfl⟩ := pure_ok h8
    refine ⟨rfl, rfl, rfl, rfl, hj, fun ρ w => ?_⟩
    obtain ⟨pre, post, hc, hp⟩ := Tr.fld_cells ρ t f o u hfl []
    simp only [Instr.field, Sem.run_bind, run_underlying hu, Result.andThen_ok, hf, show SV.val ρ (.agg t) = .agg (t.cells ρ []).toArray from rfl, asAgg, Sem.run_pure, hc]
    rw [← ho, run_part hud hi (by rw [Tr.cells_length]; omega) hp (fun ha => ?_)]
    · show _ = Result.ok (v.val ρ) w
      rw [hv ρ, hg]
      cases g
      · simp [Tr.cells_leaf ρ (hleaf rfl)]
      · simp
    · rw [hg] at ha; subst ha
      exact ⟨u.val ρ [], Tr.cells_leaf ρ (hleaf rfl) []⟩
  · exact (fail_ok h).elim

theorem opExtract_ok {P : Program} {a : SV} {i : Nat} {x y : Aux} {e : Eff} {d : Conds} (h : opExtract a i x = .ok e d y) :
    x = y ∧ a.isJ = false ∧ e.upd = [] ∧ e.drop = [] ∧ e.v.isJ = false ∧ ∀ (ρ : Con) (w : World), (Instr.extract (a.val ρ) i).run P w = .ok (e.v.val ρ) w := by
  unfold opExtract at h
  split at h
  · rename_i l
    obtain ⟨q, c1, y1, c2, h1, h2, rfl⟩ := bind_ok h
    obtain ⟨hq, rfl, rfl⟩ := opt_ok h1
    have hn : ∀ (l : List (Bool × Tr)) (i : Nat), nth l i = l[i]? := by
      intro l; induction l with
      | nil => intro i; cases i <;> rfl
      | cons a r ih => intro i; cases i <;> simp [nth, ih]
    rw [hn] at hq
    split at h2
    · obtain ⟨rfl, rfl, rfl⟩ := pure_ok h2
      refine ⟨rfl, rfl, rfl, rfl, rfl, fun ρ w => ?_⟩
      simp [Instr.extract, SV.val, hq, bval, Eff.val]
    · obtain ⟨rfl, rfl, rfl⟩ := pure_ok h2
      refine ⟨rfl, rfl, rfl, rfl, rfl, fun ρ w => ?_⟩
      simp [Instr.extract, SV.val, hq, bval, Eff.val]
  · exact (fail_ok h).elim

end Go.Sx
