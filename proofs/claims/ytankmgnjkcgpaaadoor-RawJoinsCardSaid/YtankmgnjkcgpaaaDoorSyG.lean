/- The engine, part 16: what an operation does to a whole state. -/
import Derived.Test.YtankmgnjkcgpaaaDoorSyF
set_option linter.unusedSimpArgs false
set_option linter.unusedVariables false
namespace Go.Sx

abbrev HF := Nat → Option Ent

structure HoldF (ρ : Con) (L : HF) (w : World) : Prop where
  lab : ∀ l e, L l = some e → e.lab = l
  all : ∀ l e, L l = some e → e.holds ρ w
  sep : ∀ l l' e e', L l = some e → L l' = some e' → l ≠ l' → e.own = true → ∀ k, e.occ ρ k → ¬ e'.occ ρ k

structure HpS (ρ : Con) (H : List Ent) (rd : List Nat) (w : World) : Prop where
  hp : Hp ρ H rd w
  sep : ∀ l ∈ rd, ∀ l' ∈ rd, ∀ e e', look H l = some e → look H l' = some e' → l ≠ l' → e.own = true → ∀ k, e.occ ρ k → ¬ e'.occ ρ k

theorem HoldF.hps {ρ : Con} {L : HF} {w : World} {H : List Ent} {rd : List Nat} (h : HoldF ρ L w) (hl : ∀ l ∈ rd, L l = look H l) : HpS ρ H rd w :=
  ⟨fun l hl' e he => h.all l e (by rw [hl l hl']; exact he), fun l h1 l' h2 e e' he he' => h.sep l l' e e' (by rw [hl l h1]; exact he) (by rw [hl l' h2]; exact he')⟩

def DoesW (P : Program) (ρ : Con) (n n' : Nat) (H : List Ent) (e : Eff) (w : World) (r : Result Next) : Prop :=
  Does P ρ n n' H e w r ∨ ∃ f args, r = .ok (.enter f args) w ∧
    Calls P f args w fun en w' => ∃ ρ' v, en = .returned v ∧ (e.v.isJ = false → v = e.v.val ρ') ∧ EffOK ρ ρ' n n' H e w w'

theorem DoesW.wp {P : Program} {ρ : Con} {n n' : Nat} {H : List Ent} {e : Eff} {w : World} {o : Oper} {a : Act} {K : Act → World → Prop} {Q : Exit → Act → World → Prop}
    (h : DoesW P ρ n n' H e w ((execOp a.eval o).run P w)) (hK : ∀ ρ' w' v, (e.v.isJ = false → v = e.v.val ρ') → EffOK ρ ρ' n n' H e w w' → K (a.put o.dst v) w') : o.wp P a w K Q := by
  unfold Oper.wp
  rcases h with ⟨ρ', w', v, hy, hv, he⟩ | ⟨f, args, hr, hc⟩
  · rcases hy with hy | ⟨hy, rfl⟩
    · rw [hy]; exact hK ρ' w' v hv he
    · rw [hy]; exact hK ρ' w' _ hv he
  · rw [hr]
    exact hc.mono fun en w' ⟨ρ', v, h1, h2, h3⟩ => by subst h1; exact hK ρ' w' v h2 h3

def applyF (L : HF) (e : Eff) : HF := fun l =>
  match look e.upd l with
  | some x => some x
  | none => if l ∈ e.drop then none else L l

theorem memN_iff {n : Nat} : ∀ {l : List Nat}, memN n l = true ↔ n ∈ l
  | [] => by simp [memN]
  | m :: r => by
    simp only [memN]
    by_cases h : n = m
    · simp [beqT h, h]
    · simp only [beqF h, Bool.false_eq_true, if_false, List.mem_cons, h, false_or]
      exact memN_iff

theorem nodupB_ok : ∀ {l : List Nat}, nodupB l = true → l.Nodup
  | [], _ => List.nodup_nil
  | n :: r, h => by
    simp only [nodupB] at h
    split at h
    · simp at h
    · rename_i hn
      exact List.nodup_cons.2 ⟨fun hm => hn (memN_iff.2 hm), nodupB_ok h⟩

theorem look_none {l : Nat} : ∀ {H : List Ent}, l ∉ H.map (·.lab) → look H l = none
  | [], _ => rfl
  | x :: r, h => by
    simp only [List.map_cons, List.mem_cons, not_or] at h
    simp only [look, beqF (fun e => h.1 e.symm), Bool.false_eq_true, if_false]
    exact look_none h.2

theorem look_mem : ∀ {H : List Ent} {l : Nat} {e : Ent}, look H l = some e → e ∈ H
  | x :: r, l, e, h => by
    simp only [look] at h
    split at h
    · simp only [Option.some.injEq] at h; subst h; simp
    · exact List.mem_cons_of_mem _ (look_mem h)

theorem look_of_mem : ∀ {H : List Ent} {e : Ent}, (H.map (·.lab)).Nodup → e ∈ H → look H e.lab = some e
  | x :: r, e, hn, h => by
    simp only [List.map_cons, List.nodup_cons] at hn
    simp only [look]
    rcases List.mem_cons.1 h with rfl | h
    · simp
    · have : x.lab ≠ e.lab := fun he => hn.1 (by rw [he]; exact List.mem_map.2 ⟨e, h, rfl⟩)
      rw [beqF this]
      exact look_of_mem hn.2 h

theorem look_foldl_put (l : Nat) : ∀ (u H : List Ent), (u.map (·.lab)).Nodup → look (u.foldl putE H) l = match look u l with | some x => some x | none => look H l
  | [], H, _ => rfl
  | x :: r, H, hn => by
    simp only [List.map_cons, List.nodup_cons] at hn
    rw [List.foldl_cons, look_foldl_put l r _ hn.2]
    simp only [look]
    by_cases hx : x.lab = l
    · subst hx
      rw [look_none hn.1, look_put]; simp
    · rw [beqF hx]
      cases look r l with
      | none => simp only [Bool.false_eq_true, if_false]; rw [look_put, if_neg hx]
      | some y => rfl

theorem look_foldl_drop (l : Nat) : ∀ (d : List Nat) (H : List Ent), look (d.foldl dropE H) l = if l ∈ d then none else look H l
  | [], H => by simp
  | x :: r, H => by
    rw [List.foldl_cons, look_foldl_drop l r, look_drop]
    by_cases h1 : l ∈ r
    · simp [h1]
    · by_cases h2 : x = l
      · subst h2; simp
      · have h3 : ¬ l = x := fun e => h2 e.symm
        simp [h1, h2, h3]

theorem look_applyE (H : List Ent) (e : Eff) (hn : (e.upd.map (·.lab)).Nodup) (l : Nat) : look (applyE H e) l = applyF (look H) e l := by
  unfold applyE applyF
  rw [look_foldl_put l _ _ hn, look_foldl_drop]

theorem eff_apply {ρ ρ' : Con} {L : HF} {w w' : World} {H : List Ent} {e : Eff} {n n' : Nat} (h : HoldF ρ L w) (hl : ∀ l ∈ e.rd, L l = look H l) (he : EffOK ρ ρ' n n' H e w w')
    (hn : (e.upd.map (·.lab)).Nodup) (hlab : ∀ l x, L l = some x → look e.upd l = none → l ∉ e.drop → (l < n ∨ n' ≤ l) ∧ ∀ k ∈ x.t.labs, k < n ∨ n' ≤ k) :
    HoldF ρ' (applyF L e) w' ∧ (∀ k, Touch ρ H e k → ∃ l x, L l = some x ∧ x.own = true ∧ x.occ ρ k) := by
  have touch : ∀ k, Touch ρ H e k → ∃ l x, L l = some x ∧ x.own = true ∧ x.occ ρ k ∧ (l ∈ e.upd.map (·.lab) ∨ l ∈ e.drop) := by
    rintro k ⟨l, x, h1, h2, h3, h4, h5⟩
    exact ⟨l, x, by rw [hl l h3]; exact h1, h2, h5, h4⟩
  have old : ∀ l x, L l = some x → look e.upd l = none → l ∉ e.drop → (∀ k, x.occ ρ k → ¬ Touch ρ H e k) ∧ x.holds ρ' w' ∧ (∀ k, x.occ ρ' k ↔ x.occ ρ k) := by
    intro l x hx hu hd
    have hnt : ∀ k, x.occ ρ k → ¬ Touch ρ H e k := by
      intro k hk ht
      obtain ⟨l', y, h1, h2, h3, h4⟩ := touch k ht
      have hne : l' ≠ l := by
        rintro rfl
        rcases h4 with h4 | h4
        · obtain ⟨z, hz, hz'⟩ := List.mem_map.1 h4
          have := look_of_mem hn hz
          rw [hz'] at this; rw [this] at hu; cases hu
        · exact hd h4
      exact h.sep l' l y x h1 hx hne h2 k h3 hk
    obtain ⟨g1, g2⟩ := hlab l x hx hu hd
    have e1 : ρ' x.lab = ρ x.lab := by rw [h.lab l x hx]; exact he.agree l g1
    have e2 : ∀ k ∈ x.t.labs, ρ' k = ρ k := fun k hk => he.agree k (g2 k hk)
    exact ⟨hnt, Ent.holds_agree (Ent.holds_frame (h.all l x hx) he.frame hnt) e1 e2, fun k => Ent.occ_agree e1⟩
  refine ⟨⟨?_, ?_, ?_⟩, fun k hk => let ⟨l, x, h1, h2, h3, _⟩ := touch k hk; ⟨l, x, h1, h2, h3⟩⟩
  · intro l x hx
    unfold applyF at hx
    split at hx
    · rename_i y hy; simp only [Option.some.injEq] at hx; subst hx; exact look_lab hy
    · split at hx
      · cases hx
      · exact h.lab l x hx
  · intro l x hx
    unfold applyF at hx
    split at hx
    · rename_i y hy; simp only [Option.some.injEq] at hx; subst hx; exact he.upd _ (look_mem hy)
    · rename_i hu
      split at hx
      · cases hx
      · rename_i hd; exact (old l x hx hu hd).2.1
  · intro l l' x y hx hy hne hown k hxk hyk
    have freshness : ∀ l x, look e.upd l = some x → ∀ k, x.occ ρ' k → (∃ l' z, L l' = some z ∧ z.own = true ∧ z.occ ρ k ∧ (l' ∈ e.upd.map (·.lab) ∨ l' ∈ e.drop)) ∨ w.heap.size ≤ k := by
      intro l x hx k hk
      rcases he.fresh x (look_mem hx) k hk with h1 | h1
      · exact .inl (touch k h1)
      · exact .inr h1
    have cross : ∀ l x l' y, look e.upd l = some x → L l' = some y → look e.upd l' = none → l' ∉ e.drop → ∀ k, x.occ ρ' k → y.occ ρ k → False := by
      intro l x l' y hx hy hu hd k h1 h2
      rcases freshness l x hx k h1 with ⟨l2, z, g1, g2, g3, g4⟩ | g
      · have hne : l2 ≠ l' := by
          rintro rfl
          rcases g4 with g4 | g4
          · obtain ⟨q, hq, hq'⟩ := List.mem_map.1 g4
            have := look_of_mem hn hq
            rw [hq'] at this; rw [this] at hu; cases hu
          · exact hd g4
        exact h.sep l2 l' z y g1 hy hne g2 k g3 h2
      · have := Ent.occ_lt (h.all l' y hy) h2
        omega
    unfold applyF at hx hy
    split at hx
    · rename_i x' hx'
      simp only [Option.some.injEq] at hx; subst hx
      split at hy
      · rename_i y' hy'
        simp only [Option.some.injEq] at hy; subst hy
        refine he.sep _ (look_mem hx') _ (look_mem hy') ?_ hown k hxk hyk
        rw [look_lab hx', look_lab hy']; exact hne
      · rename_i hu
        split at hy
        · cases hy
        · rename_i hd
          exact cross l _ l' y hx' hy hu hd k hxk (((old l' y hy hu hd).2.2 k).1 hyk)
    · rename_i hu
      split at hx
      · cases hx
      · rename_i hd
        have hxk' := ((old l x hx hu hd).2.2 k).1 hxk
        split at hy
        · rename_i y' hy'
          simp only [Option.some.injEq] at hy; subst hy
          exact cross l' _ l x hy' hx hu hd k hyk hxk'
        · rename_i hu'
          split at hy
          · cases hy
          · rename_i hd'
            exact h.sep l l' x y hx hy hne hown k hxk' (((old l' y hy hu' hd').2.2 k).1 hyk)

end Go.Sx
