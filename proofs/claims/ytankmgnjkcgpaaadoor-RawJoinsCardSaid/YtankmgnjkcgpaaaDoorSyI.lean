/- The engine, part 18: regions: the trace of the text's order. -/
import Derived.Test.YtankmgnjkcgpaaaDoorSyH
set_option linter.unusedSimpArgs false
set_option linter.unusedVariables false
namespace Go.Sx

structure Ev where
  o : Oper
  want : Bool
  env : List SV
  H : List Ent
  e : Eff
  n : Nat
  n' : Nat

def SlotsOK (ρ : Con) (E : Nat → Option SV) (tmps : Array Value) : Prop := ∀ t s, E t = some s → s.isJ = false → tmps[t]? = some (s.val ρ)

def LitOf (E : Nat → Option SV) (env : List SV) : Prop := ∀ t s, nth env t = some s → s.isJ = false → ∃ s0, E t = some s0 ∧ s0.isJ = false ∧ ∀ ρ, s.val ρ = s0.val ρ

theorem LitOf.refl (env : List SV) : LitOf (nth env) env := fun t s h hj => ⟨s, h, hj, fun _ => rfl⟩
theorem LitOf.slots {ρ : Con} {E : Nat → Option SV} {env : List SV} {tmps : Array Value} (h : LitOf E env) (hs : SlotsOK ρ E tmps) : SlotsOK ρ (nth env) tmps := by
  intro t s hts hj
  obtain ⟨s0, h1, h2, h3⟩ := h t s hts hj
  rw [h3]; exact hs t s0 h1 h2

def putE' (len : Nat) (E : Nat → Option SV) (d : Option Nat) (v : SV) : Nat → Option SV := fun t => if d = some t ∧ t < len then some v else E t

theorem setN_length {α : Type} : ∀ (l : List α) (i : Nat) (b : α), (setN l i b).length = l.length
  | [], _, _ => rfl
  | a :: r, 0, b => rfl
  | a :: r, i + 1, b => by simp [setN, setN_length r i b]

theorem nth_setN {α : Type} : ∀ (l : List α) (i t : Nat) (b : α), nth (setN l i b) t = if t = i ∧ t < l.length then some b else nth l t
  | [], i, t, b => by simp [setN, nth]
  | a :: r, 0, 0, b => by simp [setN, nth]
  | a :: r, 0, t + 1, b => by simp [setN, nth]
  | a :: r, i + 1, 0, b => by simp [setN, nth]
  | a :: r, i + 1, t + 1, b => by
    simp only [setN, nth, nth_setN r i t b, List.length_cons]
    by_cases h : t = i ∧ t < r.length
    · have : t + 1 = i + 1 ∧ t + 1 < r.length + 1 := by omega
      simp [h, this]
    · have : ¬ (t + 1 = i + 1 ∧ t + 1 < r.length + 1) := by omega
      rw [if_neg h, if_neg this]

theorem putS_length (env : List SV) (d : Option Nat) (v : SV) : (putS env d v).length = env.length := by
  cases d with
  | none => rfl
  | some i => exact setN_length _ _ _

theorem nth_putS (env : List SV) (d : Option Nat) (v : SV) (t : Nat) : nth (putS env d v) t = putE' env.length (nth env) d v t := by
  cases d with
  | none => simp [putS, putE']
  | some i =>
    simp only [putS, putE', nth_setN]
    by_cases h : t = i ∧ t < env.length
    · have h2 : some i = some t ∧ t < env.length := ⟨by rw [h.1], h.2⟩
      simp [h, h2]
    · have h2 : ¬ (some i = some t ∧ t < env.length) := fun h' => h ⟨(Option.some.inj h'.1).symm, h'.2⟩
      rw [if_neg h, if_neg h2]

theorem LitOf.put {E : Nat → Option SV} {env : List SV} (h : LitOf E env) (d : Option Nat) (v : SV) : LitOf (putE' env.length E d v) (putS env d v) := by
  intro t s hts hj
  rw [nth_putS] at hts
  unfold putE' at hts ⊢
  split at hts
  · rename_i hc
    rw [if_pos hc]
    exact ⟨v, rfl, by simp only [Option.some.injEq] at hts; rw [hts]; exact hj, fun ρ => by simp only [Option.some.injEq] at hts; rw [hts]⟩
  · rename_i hc
    rw [if_neg hc]
    exact h t s hts hj

theorem SlotsOK.put {ρ : Con} {E : Nat → Option SV} {a : Act} (h : SlotsOK ρ E a.tmps) {len : Nat} (hl : a.tmps.size = len) (d : Option Nat) (v : SV) (u : Value) (hu : v.isJ = false → u = v.val ρ) :
    SlotsOK ρ (putE' len E d v) (a.put d u).tmps := by
  intro t s hts hj
  unfold putE' at hts
  cases d with
  | none =>
    rw [if_neg (by simp)] at hts
    exact h t s hts hj
  | some i =>
    simp only [Act.put]
    split at hts
    · rename_i hc
      have hit := Option.some.inj hc.1
      subst hit
      simp only [Option.some.injEq] at hts
      subst hts
      rw [Array.getElem?_setIfInBounds_self_of_lt (by omega), hu hj]
    · rename_i hc
      have h1 := h t s hts hj
      by_cases hit : i = t
      · subst hit
        exfalso
        apply hc
        refine ⟨rfl, ?_⟩
        rcases Nat.lt_or_ge i a.tmps.size with h2 | h2
        · omega
        · rw [Array.getElem?_eq_none h2] at h1; cases h1
      · rw [Array.getElem?_setIfInBounds_ne hit]; exact h1

theorem put_size (a : Act) (d : Option Nat) (u : Value) : (a.put d u).tmps.size = a.tmps.size := by
  cases d <;> simp [Act.put]
theorem put_defers (a : Act) (d : Option Nat) (u : Value) : (a.put d u).defers = a.defers := by
  cases d <;> rfl

theorem SlotsOK.opd {P : Program} {ρ : Con} {env : List SV} {a : Act} (h : SlotsOK ρ (nth env) a.tmps) (hG : GlobOK P ρ) (z : Operand) : OpdOK P ρ env a.eval z := by
  cases z with
  | tmp t =>
    intro hj
    simp only [Sx.opd] at hj ⊢
    cases ht : nth env t with
    | none => simp [ht, SV.isJ] at hj
    | some s =>
      simp only [ht, Option.getD_some] at hj ⊢
      have := h t s ht hj
      simp [Act.eval, this]
  | const v => exact opd_const v
  | func f => exact opd_func f
  | _ => exact opd_global hG _

theorem SlotsOK.agree {ρ ρ' : Con} {E : Nat → Option SV} {tmps : Array Value} (h : SlotsOK ρ E tmps) (hl : ∀ t s, E t = some s → ∀ l ∈ s.labs, ρ' l = ρ l) : SlotsOK ρ' E tmps := by
  intro t s hts hj
  have hv : s.val ρ' = s.val ρ := by
    have hl := hl t s hts
    cases s with
    | lb b => rfl
    | v t => exact Tr.val_agree t [] hl
    | agg t => simp only [SV.val]; rw [Tr.cells_agree t [] hl]
    | tup l =>
      simp only [SV.val]
      congr 2
      apply List.map_congr_left
      intro p hp
      obtain ⟨g, t⟩ := p
      have hlt : ∀ k ∈ t.labs, ρ' k = ρ k := by
        intro k hk
        apply hl
        simp only [SV.labs]
        clear hts hl h hj
        induction l with
        | nil => cases hp
        | cons q r ih =>
          obtain ⟨g', t'⟩ := q
          simp only [labsL, List.mem_append]
          rcases List.mem_cons.1 hp with h | h
          · cases h; exact .inl hk
          · exact .inr (ih h)
      cases g
      · exact Tr.val_agree t [] hlt
      · simp only [bval]; rw [Tr.cells_agree t [] hlt]
    | junk => rfl
  rw [hv]; exact h t s hts hj

/-! ### The guard -/

theorem dstAt_eq (ops : List Oper) (j : Nat) : dstAt ops j = (ops[j]?).bind (·.dst) := by
  unfold dstAt; rw [nth_eq]; cases ops[j]? <;> rfl

theorem evGuard_ok {ops : List Oper} {env env' : List SV} {o : Oper} {x y : Aux} {w : Bool} {d : Conds} (h : evGuard ops env o x = .ok (w, env') d y) (hd : OkL d) :
    y.nl = x.nl ∧ env'.length = env.length ∧ (∀ E, LitOf E env → LitOf E env') ∧ (∀ n, WFe env n → WFe env' n) ∧
      (∀ ρ tmps, (∀ t s, t ∈ looksOf ops o → nth env' t = some s → s.isJ = false → tmps[t]? = some (s.val ρ)) → Region.wanted o (yielded ops.toArray tmps) = w) := by
  unfold evGuard at h
  cases hg : o.guard with
  | none =>
    simp only [hg] at h
    obtain ⟨he, rfl, rfl⟩ := pure_ok h
    simp only [Prod.mk.injEq] at he
    obtain ⟨rfl, rfl⟩ := he
    exact ⟨rfl, rfl, fun E h => h, fun n h => h, fun ρ tmps _ => by simp [Region.wanted, hg]⟩
  | some jw =>
    obtain ⟨j, want⟩ := jw
    simp only [hg] at h
    cases hdst : dstAt ops j with
    | none => simp only [hdst] at h; exact (fail_ok h).elim
    | some dd =>
      simp only [hdst] at h
      have hlook : dd ∈ looksOf ops o := by simp [looksOf, hg, hdst]
      have hy : ∀ tmps : Array Value, yielded ops.toArray tmps j = match tmps[dd]? with | some (.bool b) => some b | _ => none := by
        intro tmps
        have := dstAt_eq ops j
        rw [hdst] at this
        simp only [yielded, List.getElem?_toArray, ← this, Option.bind_some]
        rfl
      cases hn : nth env dd with
      | none => simp only [hn] at h; exact (fail_ok h).elim
      | some s =>
        simp only [hn] at h
        cases s with
        | lb b =>
          simp only at h
          obtain ⟨he, rfl, rfl⟩ := pure_ok h
          simp only [Prod.mk.injEq] at he
          obtain ⟨rfl, rfl⟩ := he
          refine ⟨rfl, rfl, fun E h => h, fun n h => h, fun ρ tmps hs => ?_⟩
          have := hs dd _ hlook hn rfl
          simp only [Region.wanted, hg, hy, this, SV.val]
          cases b <;> cases want <;> rfl
        | v t =>
          cases t with
          | vb f =>
            simp only at h
            obtain ⟨b, c1, y1, c2, h1, h2, rfl⟩ := bind_ok h
            obtain ⟨h3, h4⟩ := ask_ok h1
            have h3 := h3 (OkL_append.1 hd).1
            obtain ⟨he, rfl, rfl⟩ := pure_ok h2
            simp only [Prod.mk.injEq] at he
            obtain ⟨rfl, rfl⟩ := he
            refine ⟨h4, setN_length _ _ _, fun E hE t s hts hj => ?_, fun n hw t s hts l hl => ?_, fun ρ tmps hs => ?_⟩
            · rw [nth_setN] at hts
              split at hts
              · rename_i hc
                simp only [Option.some.injEq] at hts
                subst hts
                obtain ⟨s0, g1, g2, g3⟩ := hE dd _ hn rfl
                refine ⟨s0, by rw [hc.1]; exact g1, g2, fun ρ => ?_⟩
                rw [← g3 ρ]; simp [SV.val, Tr.val, h3]
              · exact hE t s hts hj
            · rw [nth_setN] at hts
              split at hts
              · simp only [Option.some.injEq] at hts; subst hts; simp [SV.labs] at hl
              · exact hw t s hts l hl
            · have hlt : dd < env.length := by
                rw [nth_eq] at hn
                rcases Nat.lt_or_ge dd env.length with h | h
                · exact h
                · rw [List.getElem?_eq_none h] at hn; cases hn
              have hn' : nth (setN env dd (.lb b)) dd = some (.lb b) := by rw [nth_setN]; simp [hlt]
              have := hs dd _ hlook hn' rfl
              simp only [Region.wanted, hg, hy, this, SV.val]
              cases b <;> cases want <;> rfl
          | _ => exact (fail_ok h).elim
        | tup l =>
          cases l with
          | nil =>
            simp only at h
            obtain ⟨he, rfl, rfl⟩ := pure_ok h
            simp only [Prod.mk.injEq] at he
            obtain ⟨rfl, rfl⟩ := he
            refine ⟨rfl, rfl, fun E h => h, fun n h => h, fun ρ tmps hs => ?_⟩
            have := hs dd _ hlook hn rfl
            simp only [Region.wanted, hg, hy, this, SV.val]
            rfl
          | cons a r => exact (fail_ok h).elim
        | _ => exact (fail_ok h).elim

end Go.Sx
