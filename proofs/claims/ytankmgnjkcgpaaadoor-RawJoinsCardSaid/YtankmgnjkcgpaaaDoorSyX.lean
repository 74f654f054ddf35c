/- The engine, part 33: what is shown of a function is used at its calls. -/
import Derived.Test.YtankmgnjkcgpaaaDoorSyW
set_option linter.unusedSimpArgs false
set_option linter.unusedVariables false
namespace Go.Sx

def Tr.mapL (τ : Nat → Nat) : Tr → Tr
  | .vp lab mem path => .vp (τ lab) mem path
  | .vl lab mem sz cuts len => .vl (τ lab) mem sz cuts len
  | .va lab path sz st len cap => .va (τ lab) path sz st len cap
  | .ve t v => .ve t (v.mapL τ)
  | .vc t v => .vc t (v.mapL τ)
  | .vx t ls f => .vx t (ls.map τ) f
  | .tc h t => .tc (h.mapL τ) (t.mapL τ)
  | .ta n t => .ta n (t.mapL τ)
  | t => t

theorem nthL_map (τ : Nat → Nat) : ∀ (ls : List Nat) (k : Nat), nthL (ls.map τ) k = (nthL ls k).map τ
  | [], _ => rfl
  | _ :: _, 0 => rfl
  | _ :: r, k + 1 => nthL_map τ r k

theorem Tr.mapL_val (τ : Nat → Nat) (ρ : Con) : ∀ (t : Tr) (is : Ix), (t.mapL τ).val ρ is = t.val (fun l => ρ (τ l)) is := by
  intro t
  induction t with
  | ve t v ih => intro is; simp only [Tr.mapL, Tr.val, ih]
  | vc t v ih => intro is; simp only [Tr.mapL, Tr.val, ih]
  | vx t ls f =>
    intro is
    simp only [Tr.mapL, Tr.val, nthL_map]
    cases nthL ls (f is) <;> rfl
  | _ => intro is; rfl

theorem Tr.mapL_cells (τ : Nat → Nat) (ρ : Con) : ∀ (t : Tr) (is : Ix), (t.mapL τ).cells ρ is = t.cells (fun l => ρ (τ l)) is := by
  intro t
  induction t with
  | tc a b ih1 ih2 => intro is; simp only [Tr.mapL, Tr.cells, ih1, ih2]
  | ta n t ih => intro is; simp only [Tr.mapL, Tr.cells]; exact flatMap_congr fun x _ => ih _
  | t0 => intro is; rfl
  | ve t v ih => intro is; simp only [Tr.mapL, Tr.cells]; rw [show Tr.ve t (v.mapL τ) = (Tr.ve t v).mapL τ from rfl, Tr.mapL_val]
  | vc t v ih => intro is; simp only [Tr.mapL, Tr.cells]; rw [show Tr.vc t (v.mapL τ) = (Tr.vc t v).mapL τ from rfl, Tr.mapL_val]
  | vx t ls f => intro is; simp only [Tr.mapL, Tr.cells]; rw [show Tr.vx t (ls.map τ) f = (Tr.vx t ls f).mapL τ from rfl, Tr.mapL_val]
  | _ => intro is; rfl

theorem Tr.mapL_size (τ : Nat → Nat) : ∀ (t : Tr), (t.mapL τ).size = t.size := by
  intro t
  induction t with
  | tc a b ih1 ih2 => simp only [Tr.mapL, Tr.size, ih1, ih2]
  | ta n t ih => simp only [Tr.mapL, Tr.size, ih]
  | _ => rfl

def mapB (τ : Nat → Nat) : List (Bool × Tr) → List (Bool × Tr)
  | [] => []
  | (b, t) :: r => (b, t.mapL τ) :: mapB τ r

def SV.mapL (τ : Nat → Nat) : SV → SV
  | .v t => .v (t.mapL τ)
  | .agg t => .agg (t.mapL τ)
  | .tup l => .tup (mapB τ l)
  | s => s

theorem mapB_val (τ : Nat → Nat) (ρ : Con) : ∀ l : List (Bool × Tr), (mapB τ l).map (bval ρ) = l.map (bval fun k => ρ (τ k))
  | [] => rfl
  | (b, t) :: r => by
    simp only [mapB, List.map_cons, mapB_val τ ρ r]
    cases b
    · simp only [bval, Tr.mapL_val]
    · simp only [bval, Tr.mapL_cells]

theorem SV.mapL_val (τ : Nat → Nat) (ρ : Con) (s : SV) : (s.mapL τ).val ρ = s.val (fun l => ρ (τ l)) := by
  cases s with
  | v t => simp only [SV.mapL, SV.val, Tr.mapL_val]
  | agg t => simp only [SV.mapL, SV.val, Tr.mapL_cells]
  | tup l => simp only [SV.mapL, SV.val, mapB_val]
  | _ => rfl

theorem SV.mapL_isJ (τ : Nat → Nat) (s : SV) : (s.mapL τ).isJ = s.isJ := by cases s <;> rfl

theorem bval_agree {ρ ρ' : Con} : ∀ l : List (Bool × Tr), (∀ k ∈ labsL l, ρ' k = ρ k) → l.map (bval ρ') = l.map (bval ρ)
  | [], _ => rfl
  | (b, t) :: r, h => by
    simp only [List.map_cons]
    rw [bval_agree r (fun k hk => h k (by simp [labsL, hk]))]
    cases b
    · simp only [bval, Tr.val_agree t [] (fun k hk => h k (by simp [labsL, hk]))]
    · simp only [bval, Tr.cells_agree t [] (fun k hk => h k (by simp [labsL, hk]))]

theorem SV.val_agree' {ρ ρ' : Con} (s : SV) (h : ∀ k ∈ s.labs, ρ' k = ρ k) : s.val ρ' = s.val ρ := by
  cases s with
  | v t => exact Tr.val_agree t [] h
  | agg t => simp only [SV.val]; rw [Tr.cells_agree t [] h]
  | tup l => simp only [SV.val]; rw [bval_agree l h]
  | _ => rfl

def Ent.mapL (τ : Nat → Nat) (e : Ent) : Ent := ⟨τ e.lab, e.own, e.fam, e.wid, e.t.mapL τ⟩

theorem Ent.mapL_holds {τ : Nat → Nat} {ρ ρ2 : Con} {w : World} {e : Ent} (h : e.holds ρ2 w) (h1 : ρ2 e.lab = ρ (τ e.lab)) (h2 : ∀ l ∈ e.t.labs, ρ2 l = ρ (τ l)) : (e.mapL τ).holds ρ w := by
  unfold Ent.holds at *
  have hc : ∀ is, (e.t.mapL τ).cells ρ is = e.t.cells ρ2 is := fun is => by rw [Tr.mapL_cells]; exact (Tr.cells_agree e.t is h2).symm
  cases hf : e.fam with
  | none =>
    simp only [Ent.mapL, hf] at h ⊢
    rw [hc, ← h1]; exact h
  | some lc =>
    simp only [Ent.mapL, hf] at h ⊢
    intro m hm
    have := h m hm
    have e1 : (Tr.ta (lc.2 m) (e.t.mapL τ)).cells ρ [m] = (Tr.ta (lc.2 m) e.t).cells ρ2 [m] := by simp only [Tr.cells]; exact flatMap_congr fun x _ => hc _
    rw [e1, ← h1]; exact this

theorem Ent.mapL_occ {τ : Nat → Nat} {ρ ρ2 : Con} {e : Ent} {k : Nat} (h1 : ρ2 e.lab = ρ (τ e.lab)) (h : (e.mapL τ).occ ρ k) : e.occ ρ2 k := by
  obtain ⟨m, hm, a, b, c⟩ := h
  refine ⟨m, by simpa only [Ent.mapL] using hm, by rw [h1]; exact a, ?_, by rw [h1]; exact c⟩
  simp only [Ent.mapL, Ent.tr] at b ⊢
  cases hf : e.fam with
  | none => simp only [hf, Tr.mapL_size] at b ⊢; exact b
  | some lc => simp only [hf, Tr.size, Tr.mapL_size] at b ⊢; exact b

def tauOf (σ : Sg) (n nl : Nat) : Nat → Nat := fun c => if Nat.blt c n then (match sgOf σ c with | .to l => l | _ => 0) else nl + (c - n)

def okLab (σ : Sg) (n n' nl c : Nat) : Bool :=
  if Nat.blt c n then (match sgOf σ c with | .to l => Nat.blt l nl | _ => false) else Nat.blt c n'

def okLabs (σ : Sg) (n n' nl : Nat) : List Nat → Bool
  | [] => true
  | c :: r => if okLab σ n n' nl c then okLabs σ n n' nl r else false

def ownOf : List Ent → List Ent
  | [] => []
  | e :: r => if e.own then e :: ownOf r else ownOf r

def okEnts (σ : Sg) (n n' nl : Nat) : List Ent → Bool
  | [] => true
  | e :: r => if okLab σ n n' nl e.lab then (if okLabs σ n n' nl e.t.labs then okEnts σ n n' nl r else false) else false

def goneOf (σ : Sg) (C' : List Ent) : List Ent → List Nat
  | [] => []
  | e :: r => match srcL σ e.lab, look C' e.lab with
    | some l, none => l :: goneOf σ C' r
    | _, _ => goneOf σ C' r

def srcsOf (σ : Sg) : List Ent → List Nat
  | [] => []
  | e :: r => match srcL σ e.lab with | some l => l :: srcsOf σ r | none => srcsOf σ r

def stayTo (σ : Sg) (C' : List Ent) : List Ent → Bool
  | [] => true
  | e :: r => match look C' e.lab with
    | some _ => (match sgOf σ e.lab with | .to _ => stayTo σ C' r | _ => false)
    | none => stayTo σ C' r

def fitA (σ : Sg) : List SV → List SV → Prop
  | [], [] => True
  | c :: r, a :: s => fitS σ c a ∧ fitA σ r s
  | _, _ => False

def effC (σ : Sg) (C C' : List Ent) (n nl : Nat) (v : SV) : Eff :=
  ⟨v.mapL (tauOf σ n nl), (ownOf C').map (Ent.mapL (tauOf σ n nl)), goneOf σ (ownOf C') (ownOf C), srcsOf σ C⟩

def keysGe (n : Nat) : Sg → Bool
  | [] => true
  | (k, q) :: r => if Nat.ble n k || isToR k q then keysGe n r else false

theorem keysGe_ok {n : Nat} : ∀ {σ : Sg}, keysGe n σ = true → ∀ l, l < n → sgOf σ l = .to l
  | [], _, l, _ => rfl
  | (k, r) :: s, h, l, hl => by
    simp only [keysGe] at h
    split at h
    · rename_i h1
      simp only [Bool.or_eq_true, Nat.ble_eq] at h1
      simp only [sgOf]
      by_cases hkl : k = l
      · subst hkl
        rw [beqT rfl, if_pos rfl]
        rcases h1 with h1 | h1
        · omega
        · exact isToR_ok h1
      · rw [beqF hkl]
        exact keysGe_ok h l hl
    · cases h

theorem fitA_ok {σ : Sg} {ρ : Con} : ∀ {c a : List SV}, fitA σ c a → c.length = a.length ∧ ∀ (t : Nat) (s : SV), c[t]? = some s → s.isJ = false → ∃ s', a[t]? = some s' ∧ s'.isJ = false ∧ s.val (ren σ ρ) = s'.val ρ
  | [], [], _ => ⟨rfl, fun t s h => by simp at h⟩
  | c :: r, a :: q, h => by
    obtain ⟨h1, h2⟩ := fitA_ok (ρ := ρ) h.2
    refine ⟨by simp [h1], fun t s ht hj => ?_⟩
    cases t with
    | zero =>
      simp only [List.getElem?_cons_zero, Option.some.injEq] at ht
      subst ht
      obtain ⟨g1, g2⟩ := fitS_ok ρ h.1 hj
      exact ⟨a, rfl, g1, g2⟩
    | succ t => simpa using h2 t s (by simpa using ht) hj
  | [], _ :: _, h => h.elim
  | _ :: _, [], h => h.elim

theorem mem_ownOf : ∀ {l : List Ent} {e : Ent}, e ∈ ownOf l → e ∈ l ∧ e.own = true
  | x :: r, e, h => by
    simp only [ownOf] at h
    split at h
    · rename_i ho
      rcases List.mem_cons.1 h with rfl | h
      · exact ⟨by simp, ho⟩
      · obtain ⟨h1, h2⟩ := mem_ownOf h; exact ⟨List.mem_cons_of_mem _ h1, h2⟩
    · obtain ⟨h1, h2⟩ := mem_ownOf h; exact ⟨List.mem_cons_of_mem _ h1, h2⟩

theorem ownOf_mem : ∀ {l : List Ent} {e : Ent}, e ∈ l → e.own = true → e ∈ ownOf l
  | x :: r, e, h, ho => by
    simp only [ownOf]
    rcases List.mem_cons.1 h with rfl | h
    · rw [if_pos ho]; simp
    · split
      · exact List.mem_cons_of_mem _ (ownOf_mem h ho)
      · exact ownOf_mem h ho

theorem okLabs_ok {σ : Sg} {n n' nl : Nat} : ∀ {l : List Nat}, okLabs σ n n' nl l = true → ∀ c ∈ l, okLab σ n n' nl c = true
  | c :: r, h, x, hx => by
    simp only [okLabs] at h
    split at h
    · rename_i h1
      rcases List.mem_cons.1 hx with rfl | hx
      · exact h1
      · exact okLabs_ok h x hx
    · cases h

theorem okEnts_ok {σ : Sg} {n n' nl : Nat} : ∀ {l : List Ent}, okEnts σ n n' nl l = true → ∀ e ∈ l, okLab σ n n' nl e.lab = true ∧ ∀ c ∈ e.t.labs, okLab σ n n' nl c = true
  | x :: r, h, e, he => by
    simp only [okEnts] at h
    split at h
    · rename_i h1
      split at h
      · rename_i h2
        rcases List.mem_cons.1 he with rfl | he
        · exact ⟨h1, okLabs_ok h2⟩
        · exact okEnts_ok h e he
      · cases h
    · cases h

theorem mem_srcs {σ : Sg} {l : Nat} : ∀ {C : List Ent} {e : Ent}, e ∈ C → srcL σ e.lab = some l → l ∈ srcsOf σ C
  | x :: r, e, h, hs => by
    simp only [srcsOf]
    rcases List.mem_cons.1 h with rfl | h
    · rw [hs]; simp
    · have := mem_srcs h hs
      split
      · exact List.mem_cons_of_mem _ this
      · exact this

theorem mem_gone {σ : Sg} {C' : List Ent} {l : Nat} : ∀ {C : List Ent} {e : Ent}, e ∈ C → srcL σ e.lab = some l → look C' e.lab = none → l ∈ goneOf σ C' C
  | x :: r, e, h, hs, hn => by
    simp only [goneOf]
    rcases List.mem_cons.1 h with rfl | h
    · rw [hs, hn]; simp
    · have := mem_gone h hs hn
      split
      · exact List.mem_cons_of_mem _ this
      · exact this

theorem stayTo_ok {σ : Sg} {C' : List Ent} : ∀ {C : List Ent}, stayTo σ C' C = true → ∀ e ∈ C, (look C' e.lab).isSome = true → ∃ l, sgOf σ e.lab = .to l
  | x :: r, h, e, he, hs => by
    simp only [stayTo] at h
    split at h
    · split at h
      · rename_i l hl
        rcases List.mem_cons.1 he with rfl | he
        · exact ⟨l, hl⟩
        · exact stayTo_ok h e he hs
      · cases h
    · rename_i hn
      rcases List.mem_cons.1 he with rfl | he
      · rw [hn] at hs; cases hs
      · exact stayTo_ok h e he hs

theorem hold_part {ρ : Con} {H : List Ent} {ls : List Nat} {w : World} (hHp : HpS ρ H ls w) : HoldF ρ (look (partL H ls)) w := by
  have hl0 := look_partL H
  have hin : ∀ l z, look (partL H ls) l = some z → l ∈ ls ∧ look H l = some z := by
    intro l z hz
    rw [hl0] at hz
    split at hz
    · rename_i h; exact ⟨h, hz⟩
    · cases hz
  exact ⟨fun l z hz => look_lab hz, fun l z hz => hHp.hp l (hin l z hz).1 z (hin l z hz).2,
    fun l l' z z' hz hz' => hHp.sep l (hin l z hz).1 l' (hin l' z' hz').1 z z' (hin l z hz).2 (hin l' z' hz').2⟩

theorem useC_ok {P : Program} {f : FuncId} {fn : Func} {body : Code} {cargs : List SV} {C C' : List Ent} {n n' : Nat} {v : SV} (hfn : P.funcs[f]? = some fn) (hbody : fn.body = some body)
    (hc : RunsTo P f [.code body] (envOf cargs fn.ntmps) (look C) n v (look C') n') (hw : entsBelow n C = true) (hnd : nodupB (C'.map (·.lab)) = true) {σ : Sg} {args : List SV} {H : List Ent} {nl : Nat}
    (hA : fitA σ cargs args) (hH : fitH σ C (partL H (srcsOf σ C))) (hk : keysGe (gtop P) σ = true)
    (hok : okEnts σ n n' nl (ownOf C') = true) (hv : okLabs σ n n' nl v.labs = true) (hst : stayTo σ (ownOf C') (ownOf C) = true) :
    CallOK P f args H nl (effC σ C C' n nl v) (nl + (n' - n)) := by
  have hnn := hc.1
  have hnd := nodupB_ok hnd
  refine ⟨by omega, fun ρ w av hlen hav hG hHp => ?_⟩
  have hold0 : HoldF ρ (look (partL H (srcsOf σ C))) w := hold_part hHp
  obtain ⟨hh, _⟩ := fit_hold hH hold0
  have hG2 : GlobOK P (ren σ ρ) := hG.agree (fun l hl => by funext m; simp only [ren, keysGe_ok hk l hl, rnLoc])
  obtain ⟨ha1, ha2⟩ := fitA_ok (ρ := ρ) hA
  refine (calls_runs hfn hbody hc (av := av.toArray) (ρ := ren σ ρ) (by simp; omega) (fun t s ht hj => ?_) hh hG2).mono fun en w' ⟨ρ2, vv, he, hvv, hres⟩ => ?_
  · obtain ⟨s', h1, h2, h3⟩ := ha2 t s ht hj
    have hlt : t < av.length := by
      have : t < args.length := by
        rcases Nat.lt_or_ge t args.length with h | h
        · exact h
        · rw [List.getElem?_eq_none h] at h1; cases h1
      omega
    simp only [List.getElem?_toArray]
    rw [List.getElem?_eq_getElem hlt, h3, hav t s' _ h1 (List.getElem?_eq_getElem hlt) h2]
  · let ρ' : Con := fun l => if nl ≤ l ∧ l < nl + (n' - n) then ρ2 (n + (l - nl)) else ρ l
    have good : ∀ c, okLab σ n n' nl c = true → ρ2 c = ρ' (tauOf σ n nl c) := by
      intro c h
      unfold okLab at h
      split at h
      · rename_i h1
        split at h
        · rename_i l hl
          have h1' : c < n := by simpa [Nat.blt_eq] using h1
          have h2' : l < nl := by simpa [Nat.blt_eq] using h
          have e1 : tauOf σ n nl c = l := by simp only [tauOf, h1, if_true, hl]
          rw [e1, hres.agree c (.inl h1')]
          simp only [ρ']
          rw [if_neg (by omega)]
          funext m; simp only [ren, hl, rnLoc]
        · cases h
      · rename_i h1
        have h1' : ¬ c < n := by simpa [Nat.blt_eq] using h1
        have h2' : c < n' := by simpa [Nat.blt_eq] using h
        have e1 : tauOf σ n nl c = nl + (c - n) := by simp only [tauOf, h1]; rfl
        rw [e1]
        simp only [ρ']
        rw [if_pos (by omega)]
        congr 1; omega
    have htouch : ∀ k, OwnS (ren σ ρ) (look C) k → Touch ρ H (effC σ C C' n nl v) k := by
      rintro k ⟨c, x, hx, ho, hk2⟩
      have hxm := look_mem hx
      obtain ⟨l, y, s1, hy, o1, w1⟩ := (fitEnt_ok (fitEs_ok (onB_ok hH).2 x hxm) ρ w hold0.all).2 k hk2
      have hyH : look H l = some y := by
        rw [look_partL] at hy
        split at hy
        · exact hy
        · cases hy
      refine ⟨l, y, hyH, w1 ho, mem_srcs hxm s1, ?_, o1⟩
      have hxo := ownOf_mem hxm ho
      cases hz : look (ownOf C') x.lab with
      | none => right; exact mem_gone hxo s1 hz
      | some z =>
        left
        obtain ⟨l', hl'⟩ := stayTo_ok hst x hxo (by rw [hz]; rfl)
        have : l' = l := by simpa [srcL, hl'] using s1
        subst this
        refine List.mem_map.2 ⟨z.mapL (tauOf σ n nl), List.mem_map.2 ⟨z, look_mem hz, rfl⟩, ?_⟩
        have hzl := look_lab hz
        have hlt : x.lab < n := (entsBelow_ok hw x hxm).1
        have hb : Nat.blt x.lab n = true := by simpa [Nat.blt_eq] using hlt
        simp only [Ent.mapL, hzl, tauOf, hb, if_true, hl']
    have hz : ∀ z ∈ ownOf C', look C' z.lab = some z ∧ z.own = true ∧ ρ2 z.lab = ρ' (tauOf σ n nl z.lab) ∧ ∀ l ∈ z.t.labs, ρ2 l = ρ' (tauOf σ n nl l) := fun z hz => by
      obtain ⟨h1, h2⟩ := mem_ownOf hz
      obtain ⟨h3, h4⟩ := okEnts_ok hok z hz
      exact ⟨look_of_mem hnd h1, h2, good _ h3, fun l hl => good l (h4 l hl)⟩
    refine ⟨ρ', vv, he, fun hj => ?_, fun l hl => ?_, fun x hx => ?_, hres.frame.mono (fun k hk => .inl (htouch k hk)), fun x hx k hk => ?_, fun x hx y hy hne ho k hk => ?_⟩
    · have hj' : v.isJ = false := by rw [← SV.mapL_isJ (tauOf σ n nl) v]; exact hj
      rw [hvv hj']
      show v.val ρ2 = (v.mapL (tauOf σ n nl)).val ρ'
      rw [SV.mapL_val]
      exact (SV.val_agree' v (fun k hk => (good k (okLabs_ok hv k hk)).symm)).symm
    · simp only [ρ']
      rw [if_neg (by omega)]
    · obtain ⟨z, hzm, rfl⟩ := List.mem_map.1 hx
      obtain ⟨h1, h2, h3, h4⟩ := hz z hzm
      exact Ent.mapL_holds (hres.hold.all z.lab z h1) h3 h4
    · obtain ⟨z, hzm, rfl⟩ := List.mem_map.1 hx
      obtain ⟨h1, h2, h3, h4⟩ := hz z hzm
      rcases hres.own k ⟨z.lab, z, h1, h2, Ent.mapL_occ h3 hk⟩ with h | h
      · exact .inl (htouch k h)
      · exact .inr h
    · obtain ⟨z, hzm, rfl⟩ := List.mem_map.1 hx
      obtain ⟨u, hum, rfl⟩ := List.mem_map.1 hy
      obtain ⟨h1, h2, h3, h4⟩ := hz z hzm
      obtain ⟨k1, k2, k3, k4⟩ := hz u hum
      have hne' : z.lab ≠ u.lab := fun e => hne (by simp only [Ent.mapL, e])
      exact fun hk2 => hres.hold.sep z.lab u.lab z u h1 k1 hne' h2 k (Ent.mapL_occ h3 hk) (Ent.mapL_occ k3 hk2)

theorem chk_bind {β : Type} {b : Bool} {n : Nat} {g : Unit → M β} {x y : Aux} {e : β} {d : Conds} (h : (chk b n >>= g) x = .ok e d y) : b = true ∧ g () x = .ok e d y := by
  obtain ⟨_, c1, y1, c2, h1, h2, rfl⟩ := bind_ok h
  obtain ⟨h3, rfl, rfl⟩ := chk_ok h1
  exact ⟨h3, h2⟩

theorem opt_bind {α β : Type} {o : Option α} {n : Nat} {g : α → M β} {x y : Aux} {e : β} {d : Conds} (h : (opt o n >>= g) x = .ok e d y) : ∃ a, o = some a ∧ g a x = .ok e d y := by
  obtain ⟨a, c1, y1, c2, h1, h2, rfl⟩ := bind_ok h
  obtain ⟨h3, rfl, rfl⟩ := opt_ok h1
  exact ⟨a, h3, h2⟩

def bump (k : Nat) : M Unit := fun x => .ok () [] { x with nl := x.nl + k }

theorem bump_bind {β : Type} {k : Nat} {g : Unit → M β} {x y : Aux} {e : β} {d : Conds} (h : (bump k >>= g) x = .ok e d y) : ∃ x', x'.nl = x.nl + k ∧ g () x' = .ok e d y := by
  obtain ⟨_, c1, y1, c2, h1, h2, rfl⟩ := bind_ok h
  simp only [bump, R.ok.injEq] at h1
  obtain ⟨_, rfl, rfl⟩ := h1
  exact ⟨_, rfl, h2⟩

theorem nlOf_bind {β : Type} {g : Nat → M β} {x y : Aux} {e : β} {d : Conds} (h : (nlOf >>= g) x = .ok e d y) : g x.nl x = .ok e d y := by
  obtain ⟨_, c1, y1, c2, h1, h2, rfl⟩ := bind_ok h
  obtain ⟨rfl, rfl, rfl⟩ := nlOf_ok h1
  exact h2

theorem onB_true {p : Prop} : onB true p = p := rfl
end Go.Sx
