/- The engine, part 27: states that fit, and loops. -/
import Derived.Test.YtankmgnjkcgpaaaDoorSyQ
set_option linter.unusedSimpArgs false
set_option linter.unusedVariables false
namespace Go.Sx

def fitB : List (Bool × Tr) → List (Bool × Tr) → Sg → Prop
  | [], [], _ => True
  | (false, t) :: r, (false, u) :: s, σ => fitT σ [] t u ∧ fitB r s σ
  | (true, t) :: r, (true, u) :: s, σ => fitT σ [] t u ∧ fitB r s σ
  | _, _, _ => False

def fitS (σ : Sg) : SV → SV → Prop
  | .junk, _ => True
  | .lb b, .lb c => b = c
  | .lb b, .v (.vb g) => b = g []
  | .v (.vb f), .lb c => f [] = c
  | .v t, .v u => fitT σ [] t u
  | .agg t, .agg u => fitT σ [] t u
  | .tup l, .tup m => fitB l m σ
  | _, _ => False

theorem fitT_val {σ : Sg} (ρ : Con) {u u' : Tr} (h : fitT σ [] u u') : u.val (ren σ ρ) [] = u'.val ρ [] := ((fitT_ok ρ u u' [] h).2 [] trivial).1
theorem fitT_cells {σ : Sg} (ρ : Con) {u u' : Tr} (h : fitT σ [] u u') : u.cells (ren σ ρ) [] = u'.cells ρ [] := ((fitT_ok ρ u u' [] h).2 [] trivial).2

theorem fitB_ok {σ : Sg} (ρ : Con) : ∀ {l m : List (Bool × Tr)}, fitB l m σ → l.map (bval (ren σ ρ)) = m.map (bval ρ)
  | [], [], _ => rfl
  | (false, t) :: r, (false, u) :: s, h => by simp only [List.map_cons, bval, fitT_val ρ h.1, fitB_ok ρ h.2]
  | (true, t) :: r, (true, u) :: s, h => by simp only [List.map_cons, bval, fitT_cells ρ h.1, fitB_ok ρ h.2]
  | [], _ :: _, h => h.elim
  | _ :: _, [], h => by
    rename_i p r
    obtain ⟨b, t⟩ := p
    cases b <;> exact h.elim
  | (false, _) :: _, (true, _) :: _, h => h.elim
  | (true, _) :: _, (false, _) :: _, h => h.elim

theorem fitS_ok {σ : Sg} (ρ : Con) {s s' : SV} (h : fitS σ s s') (hj : s.isJ = false) : s'.isJ = false ∧ s.val (ren σ ρ) = s'.val ρ := by
  unfold fitS at h
  split at h
  · simp [SV.isJ] at hj
  · subst h; exact ⟨rfl, rfl⟩
  · subst h; exact ⟨rfl, rfl⟩
  · subst h; exact ⟨rfl, rfl⟩
  · exact ⟨rfl, fitT_val ρ h⟩
  · exact ⟨rfl, by simp only [SV.val]; rw [fitT_cells ρ h]⟩
  · exact ⟨rfl, by simp only [SV.val]; rw [fitB_ok ρ h]⟩
  · exact h.elim

def slotAt : List (Nat × SV) → Nat → SV
  | [], _ => .junk
  | (k, s) :: r, t => if Nat.beq k t then s else slotAt r t

def envAt (n : Nat) (l : List (Nat × SV)) : List SV := (List.range n).map (slotAt l)

def fitE (σ : Sg) : List (Nat × SV) → List SV → Prop
  | [], _ => True
  | [(t, s)], env => match nth env t with | some s' => fitS σ s s' | none => False
  | (t, s) :: r, env => (match nth env t with | some s' => fitS σ s s' | none => False) ∧ fitE σ r env

theorem fitE_ok {σ : Sg} : ∀ {l : List (Nat × SV)} {env : List SV}, fitE σ l env → ∀ t s', nth env t = some s' → fitS σ (slotAt l t) s'
  | [], env, _, t, s', _ => by cases s' <;> trivial
  | [(k, s)], env, h, t, s', hs => by
    simp only [slotAt]
    by_cases hk : k = t
    · subst hk
      rw [if_pos (beqT rfl)]
      simp only [fitE, hs] at h
      exact h
    · rw [beqF hk]
      cases s' <;> trivial
  | (k, s) :: x :: r, env, h, t, s', hs => by
    simp only [slotAt]
    by_cases hk : k = t
    · subst hk
      rw [if_pos (beqT rfl)]
      have := h.1
      rw [hs] at this
      exact this
    · rw [beqF hk]
      exact fitE_ok h.2 t s' hs

theorem envAt_len (n : Nat) (l : List (Nat × SV)) : (envAt n l).length = n := by simp [envAt]

theorem fitE_env {σ : Sg} {ρ : Con} {n : Nat} {l : List (Nat × SV)} {env : List SV} {tmps : Array Value} (h : fitE σ l env) (hn : env.length = n) (he : EnvOK ρ env tmps) : EnvOK (ren σ ρ) (envAt n l) tmps := by
  refine ⟨by rw [envAt_len]; exact he.1.trans hn, fun t s hs hj => ?_⟩
  rw [nth_eq] at hs
  simp only [envAt, List.getElem?_map] at hs
  by_cases ht : t < n
  · rw [List.getElem?_range ht] at hs
    simp only [Option.map_some, Option.some.injEq] at hs
    subst hs
    have hlt : t < env.length := by omega
    have hs' : nth env t = some env[t] := by rw [nth_eq]; exact List.getElem?_eq_getElem hlt
    obtain ⟨g1, g2⟩ := fitS_ok ρ (fitE_ok h t _ hs') hj
    rw [he.2 t _ hs' g1, g2]
  · rw [List.getElem?_eq_none (by simpa using ht)] at hs
    cases hs

def shIx (k : Nat) : Ix → Ix
  | j :: r => (k + j) :: r
  | [] => []

def Tr.shift (k : Nat) : Tr → Tr
  | .vb f => .vb fun is => f (shIx k is)
  | .vi q f => .vi q fun is => f (shIx k is)
  | .vs f => .vs fun is => f (shIx k is)
  | .vp lab mem path => .vp lab (fun is => mem (shIx k is)) path
  | .vl lab mem sz cuts len => .vl lab (fun is => mem (shIx k is)) sz cuts (fun is => len (shIx k is))
  | .ve t v => .ve t (v.shift k)
  | .vc t v => .vc t (v.shift k)
  | .vx t ls f => .vx t ls fun is => f (shIx k is)
  | .tc a b => .tc (a.shift k) (b.shift k)
  | .ta n t => .ta n (t.shift k)
  | t => t

theorem Tr.shift_val (ρ : Con) (k : Nat) : ∀ (t : Tr) (j : Nat) (js : Ix), (t.shift k).val ρ (j :: js) = t.val ρ ((k + j) :: js) := by
  intro t
  induction t with
  | ve t v ih => intro j js; simp only [Tr.shift, Tr.val, ih]
  | vc t v ih => intro j js; simp only [Tr.shift, Tr.val, ih]
  | _ => intro j js; rfl

theorem Tr.shift_cells (ρ : Con) (k : Nat) : ∀ (t : Tr) (j : Nat) (js : Ix), (t.shift k).cells ρ (j :: js) = t.cells ρ ((k + j) :: js) := by
  intro t
  induction t with
  | tc a b ih1 ih2 => intro j js; simp only [Tr.shift, Tr.cells, ih1, ih2]
  | ta n t ih =>
    intro j js
    simp only [Tr.shift, Tr.cells]
    apply flatMap_congr
    intro x _
    exact ih j (js ++ [x])
  | t0 => intro j js; rfl
  | ve t v ih => intro j js; simp only [Tr.shift, Tr.cells]; rw [show Tr.ve t (v.shift k) = (Tr.ve t v).shift k from rfl, Tr.shift_val]
  | vc t v ih => intro j js; simp only [Tr.shift, Tr.cells]; rw [show Tr.vc t (v.shift k) = (Tr.vc t v).shift k from rfl, Tr.shift_val]
  | _ => intro j js; rfl

theorem Tr.shift_size (k : Nat) : ∀ (t : Tr), (t.shift k).size = t.size := by
  intro t
  induction t with
  | tc a b ih1 ih2 => simp [Tr.shift, Tr.size, ih1, ih2]
  | ta n t ih => simp [Tr.shift, Tr.size, ih]
  | _ => simp [Tr.shift, Tr.size]

def noFam : Option (Nat × (Nat → Nat)) → Bool
  | none => true
  | some _ => false

def sameB : Bool → Bool → Bool
  | true, true => true
  | false, _ => true
  | _, _ => false

def srcL (σ : Sg) (l : Nat) : Option Nat :=
  match sgOf σ l with
  | .to k => some k
  | .nil _ => none
  | .cut k _ _ => some k
  | .mem k _ => some k

def fitTo (σ : Sg) (e x : Ent) : Prop :=
  match e.fam, x.fam with
  | none, none => fitT σ [] e.t x.t
  | some lc, some lc' => lc.1 = lc'.1 ∧ ∀ m, m < lc.1 → (lc.2 m = lc'.2 m ∧ fitT σ [lc.2 m] (e.t.inst [m]) (x.t.inst [m]))
  | _, _ => False

def fitNil (e : Ent) : Prop := match e.fam with | none => (match e.t with | .ta n _ => n = 0 | _ => False) | some lc => lc.1 = 0

def fitCut (σ : Sg) (sz c : Nat) (e x : Ent) : Prop :=
  match e.t, x.t with
  | .ta n t, .ta m u => onB (Nat.beq u.size sz) (c + n = m ∧ fitT σ [n] t (u.shift c))
  | _, _ => False

def fitMem (σ : Sg) (k : Nat) (e x : Ent) : Prop :=
  match x.fam, e.t with
  | some lc, .ta n t => k < lc.1 ∧ n = lc.2 k ∧ fitT σ [n] t (x.t.inst [k])
  | _, _ => False

def widB (a b : Nat) : Bool := if Nat.beq a b then true else Nat.beq a (wd b)

def fitEnt (σ : Sg) (H : List Ent) (e : Ent) : Prop :=
  match sgOf σ e.lab with
  | .to l => match look H l with
    | some x => onB (sameB e.own x.own) (onB (widB e.wid x.wid) (fitTo σ e x))
    | none => False
  | .nil w => onB (Nat.beq e.wid w) (fitNil e)
  | .cut l sz cs => match look H l with
    | some x => onB (sameB e.own x.own) (onB (Nat.beq e.wid sz) (onB (Nat.beq (wd x.wid) sz) (onB (noFam e.fam) (onB (noFam x.fam) (onB (Nat.blt 0 sz) (fitCut σ sz (sum cs) e x))))))
    | none => False
  | .mem l k => match look H l with
    | some x => onB (sameB e.own false) (onB (Nat.beq e.wid x.wid) (onB (noFam e.fam) (fitMem σ k e x)))
    | none => False

theorem sameB_ok {a b : Bool} (h : sameB a b = true) : a = true → b = true := by
  intro ha
  subst ha
  cases b with
  | true => rfl
  | false => cases h
theorem noFam_ok {f : Option (Nat × (Nat → Nat))} (h : noFam f = true) : f = none := by cases f <;> first | rfl | cases h

theorem widB_ok {a b : Nat} (h : widB a b = true) : WidOK b a := by
  unfold widB at h
  split at h
  · rename_i h1; rw [Nat.eq_of_beq_eq_true h1]; exact WidOK.refl _
  · rw [Nat.eq_of_beq_eq_true h]; exact WidOK.wd_le _
theorem Lies.wids {L : Loc} {own : Bool} {a b : Nat} {cells : List Value} {w : World} (h : Lies L own b cells w) (k : WidOK b a) : Lies L own a cells w := ⟨h.1.to k, h.2⟩

theorem Lies.own_false {L : Loc} {own : Bool} {wid : Nat} {cells : List Value} {w : World} (h : Lies L own wid cells w) : Lies L false wid cells w :=
  ⟨h.1, h.2.1, fun hn => ⟨(h.2.2 hn).1, (h.2.2 hn).2.1, fun ho => (by cases ho), (h.2.2 hn).2.2.2⟩⟩

theorem Lies.weak {L : Loc} {a b : Bool} {wid : Nat} {cells : List Value} {w : World} (h : a = true → b = true) (hl : Lies L b wid cells w) : Lies L a wid cells w := by
  cases a with
  | false => exact hl.own_false
  | true => rw [h rfl] at hl; exact hl

theorem own_or {a b : Bool} {p q : Prop} (h : a = true → b = true) (hpq : p → q) (hh : a = true ∨ p) : b = true ∨ q := by
  rcases hh with hh | hh
  · exact .inl (h hh)
  · exact .inr (hpq hh)

theorem locCut_blk (L : Loc) (sz : Nat) (cs : List Nat) : (locCut L sz cs).isNil = L.isNil ∧ (locCut L sz cs).blk = L.blk := by
  unfold locCut
  split
  · exact ⟨rfl, rfl⟩
  · rename_i h; exact ⟨by simpa using h, rfl⟩

theorem cut_lies {L : Loc} {own : Bool} {sz m n : Nat} {u : Tr} {ρ : Con} {w : World} {cs : List Nat} (hu : u.size = sz) (hz : 0 < sz) (hm : sum cs + n = m) (hsz : wd sz = sz) (h : Lies L own sz ((Tr.ta m u).cells ρ []) w) :
    Lies (locCut L sz cs) own sz ((List.range n).flatMap fun i => u.cells ρ [sum cs + i]) w := by
  unfold locCut
  cases hn : L.isNil with
  | true =>
    have h0 := row_nil hu hz (h.2.1 hn)
    have : n = 0 := by omega
    subst this
    simp only [if_true]
    exact ⟨h.1, fun _ => by simp, fun h => by rw [hn] at h; cases h⟩
  | false =>
    simp only [Bool.false_eq_true, if_false]
    have hlen : ((List.range n).flatMap fun i => u.cells ρ [sum cs + i]).length = n * sz := by rw [flatMap_length _ _ sz (fun i _ => by rw [Tr.cells_length, hu])]; simp
    have hroom : 0 < n → m ≤ L.room := fun h0 => (h.row hu hz (show 0 < m by omega)).2.2
    refine ⟨WidOK.refl _, (fun h => by cases h), fun _ => ⟨fun j v hj => ?_, ?_, fun ho => ?_, fun h => by cases h⟩⟩
    · have h0 : 0 < n := by
        rcases Nat.eq_zero_or_pos n with h | h
        · subst h; simp at hj
        · exact h
      have hr := hroom h0
      obtain ⟨pre, post, hc, hp⟩ := row_part (n := m) (st := sum cs) (k := n) ρ [] hu (by omega)
      simp only [List.nil_append] at hc
      rw [hc] at h
      rw [rsOf_sum _ cs 0 (by omega)]
      exact h.mid hn hp hj
    · rw [hlen, hsz]
      rcases Nat.eq_zero_or_pos n with h | h
      · subst h; simp
      · have := hroom h; exact Nat.mul_le_mul_right _ (by show n ≤ L.room - sum cs; omega)
    · obtain ⟨g1, g2, _⟩ := (h.2.2 hn).2.2.1 ho
      refine ⟨g1, fun j hj => ?_, fun t ht => by unfold wd at hsz; simp only at ht; omega⟩
      have hj : j < (L.room - sum cs) * sz := by rw [← hsz]; exact hj
      rw [h.1.1, hsz] at g2
      have hpos : 0 < L.room - sum cs := by
        rcases Nat.eq_zero_or_pos (L.room - sum cs) with h | h
        · simp only [h, Nat.zero_mul] at hj; omega
        · exact h
      simp only at hj ⊢
      rw [rsOf_sum _ cs 0 (by omega), Nat.add_assoc]
      refine g2 _ ?_
      have : sum cs * sz + (L.room - sum cs) * sz = L.room * sz := by rw [← Nat.add_mul]; congr 1; omega
      omega

theorem fitEnt_ok {σ : Sg} {H : List Ent} {e : Ent} (h : fitEnt σ H e) (ρ : Con) (w : World) (hold : ∀ l x, look H l = some x → x.holds ρ w) :
    e.holds (ren σ ρ) w ∧ ∀ k, e.occ (ren σ ρ) k → ∃ l x, srcL σ e.lab = some l ∧ look H l = some x ∧ x.occ ρ k ∧ (e.own = true → x.own = true) := by
  unfold fitEnt at h
  split at h
  · rename_i l hs
    split at h
    · rename_i x hx
      obtain ⟨h1, h⟩ := onB_ok h
      obtain ⟨h2, h3⟩ := onB_ok h
      have h1 := sameB_ok h1
      have h2 := widB_ok h2
      have hxh := hold l x hx
      have hlab := look_lab hx
      have hloc : ∀ m, ren σ ρ e.lab m = ρ x.lab m := fun m => by simp only [ren, hs, rnLoc, hlab]
      unfold fitTo at h3
      split at h3
      · rename_i f1 f2
        obtain ⟨g1, g2⟩ := fitT_ok ρ e.t x.t [] h3
        refine ⟨?_, fun k hk => ⟨l, x, by simp only [srcL, hs], hx, ?_, h1⟩⟩
        · unfold Ent.holds at hxh ⊢
          simp only [f1, f2] at hxh ⊢
          rw [hloc, (g2 [] trivial).2]; exact (hxh.weak h1).wids h2
        · obtain ⟨m, hm, k1, k2, k3⟩ := hk
          refine ⟨m, by simpa only [f1, f2] using hm, by rw [← hloc]; exact k1, ?_, by rw [← hloc]; exact k3⟩
          simp only [Ent.tr, f1, f2] at k2 ⊢
          exact own_or h1 (fun h => by rw [← g1]; exact h) k2
      · rename_i lc lc' f1 f2
        obtain ⟨g0, g⟩ := h3
        have hin : ∀ m, m < lc.1 → (Tr.ta (lc.2 m) e.t).cells (ren σ ρ) [m] = (Tr.ta (lc'.2 m) x.t).cells ρ [m] ∧ (Tr.ta (lc.2 m) e.t).size = (Tr.ta (lc'.2 m) x.t).size := by
          intro m hm
          obtain ⟨q1, q2⟩ := g m hm
          obtain ⟨q3, q4⟩ := fitT_ok ρ _ _ _ q2
          rw [Tr.inst_size, Tr.inst_size] at q3
          rw [← q1]
          refine ⟨?_, by simp only [Tr.size, q3]⟩
          simp only [Tr.cells]
          refine flatMap_congr fun i hi => ?_
          have := (q4 [i] ⟨by simpa using hi, trivial⟩).2
          rw [Tr.inst_cells, Tr.inst_cells] at this
          exact this
        refine ⟨?_, fun k hk => ⟨l, x, by simp only [srcL, hs], hx, ?_, h1⟩⟩
        · unfold Ent.holds at hxh ⊢
          simp only [f1, f2] at hxh ⊢
          intro m hm
          rw [hloc, (hin m hm).1]
          exact ((hxh m (by omega)).weak h1).wids h2
        · obtain ⟨m, hm, k1, k2, k3⟩ := hk
          simp only [f1] at hm
          refine ⟨m, by simp only [f2]; omega, by rw [← hloc]; exact k1, ?_, by rw [← hloc]; exact k3⟩
          simp only [Ent.tr, f1, f2] at k2 ⊢
          exact own_or h1 (fun h => by rw [← (hin m hm).2]; exact h) k2
      · exact h3.elim
    · exact h.elim
  · rename_i wn hs
    obtain ⟨h1, h3⟩ := onB_ok h
    have hloc : ∀ m, ren σ ρ e.lab m = ⟨0, 0, 0, wn, true, none, false⟩ := fun m => by simp only [ren, hs, rnLoc]
    refine ⟨?_, fun k hk => ?_⟩
    · unfold Ent.holds
      unfold fitNil at h3
      cases h2 : e.fam with
      | none =>
        simp only [h2] at h3 ⊢
        rw [hloc]
        refine ⟨by rw [Nat.eq_of_beq_eq_true h1]; exact WidOK.refl _, fun _ => ?_, fun h => by cases h⟩
        split at h3
        · rename_i n t ht
          subst h3
          rw [ht]
          simp [Tr.cells]
        · exact h3.elim
      | some lc =>
        simp only [h2] at h3 ⊢
        intro m hm
        omega
    · obtain ⟨m, hm, k1, _⟩ := hk
      rw [hloc] at k1
      cases k1
  · rename_i l sz cs hs
    split at h
    · rename_i x hx
      obtain ⟨h1, h⟩ := onB_ok h
      obtain ⟨h2, h⟩ := onB_ok h
      obtain ⟨h3, h⟩ := onB_ok h
      obtain ⟨h4, h⟩ := onB_ok h
      obtain ⟨h5, h⟩ := onB_ok h
      obtain ⟨h6, h7⟩ := onB_ok h
      have h1 := sameB_ok h1
      have h2 := Nat.eq_of_beq_eq_true h2
      have h3 := Nat.eq_of_beq_eq_true h3
      have h4 := noFam_ok h4
      have h5 := noFam_ok h5
      have h6 : 0 < sz := by simpa [Nat.blt_eq] using h6
      have hxh := hold l x hx
      have hlab := look_lab hx
      have hloc : ∀ m, ren σ ρ e.lab m = locCut (ρ x.lab m) sz cs := fun m => by simp only [ren, hs, rnLoc, hlab]
      unfold fitCut at h7
      split at h7
      · rename_i n t m u ht hu
        obtain ⟨g1, g2, g3⟩ := onB_ok h7
        have g1 := Nat.eq_of_beq_eq_true g1
        obtain ⟨f1, f2⟩ := fitT_ok ρ t (u.shift (sum cs)) [n] g3
        rw [Tr.shift_size] at f1
        have hcells : (Tr.ta n t).cells (ren σ ρ) [] = (List.range n).flatMap fun i => u.cells ρ [sum cs + i] := by
          simp only [Tr.cells, List.nil_append]
          apply flatMap_congr
          intro i hi
          rw [(f2 [i] ⟨by simpa using hi, trivial⟩).2, Tr.shift_cells]
        unfold Ent.holds at hxh
        simp only [h5] at hxh
        have hxh := hxh.plain
        have hsz : wd sz = sz := by rw [← h3]; unfold wd; omega
        simp only [h3, hu] at hxh
        refine ⟨?_, fun k hk => ⟨l, x, by simp only [srcL, hs], hx, ?_, h1⟩⟩
        · unfold Ent.holds
          simp only [h4, ht]
          rw [hloc, hcells, h2]
          exact (cut_lies g1 h6 g2 hsz hxh).weak h1
        · obtain ⟨q, hq, k1, k2, k3⟩ := hk
          rw [hloc] at k1 k3
          simp only [h4] at hq
          subst hq
          refine ⟨0, by simp only [h5], by rw [← (locCut_blk (ρ x.lab 0) sz cs).1]; exact k1, ?_, by rw [← (locCut_blk (ρ x.lab 0) sz cs).2]; exact k3⟩
          simp only [Ent.tr, h4, h5, ht, hu, Tr.size] at k2 ⊢
          rcases k2 with k2 | k2
          · exact .inl (h1 k2)
          · right
            rw [f1] at k2
            have hn : n ≠ 0 := fun e => k2 (by rw [e]; simp)
            have hu0 : u.size ≠ 0 := by omega
            exact Nat.mul_ne_zero (by omega) hu0
      · exact h7.elim
    · exact h.elim
  · rename_i l q hs
    split at h
    · rename_i x hx
      obtain ⟨h1, h⟩ := onB_ok h
      obtain ⟨h2, h⟩ := onB_ok h
      obtain ⟨h3, h4⟩ := onB_ok h
      have h1 : e.own = false := by cases he : e.own with | false => rfl | true => have := sameB_ok h1 he; cases this
      have h2 := Nat.eq_of_beq_eq_true h2
      have h3 := noFam_ok h3
      have hxh := hold l x hx
      have hlab := look_lab hx
      have hloc : ∀ m, ren σ ρ e.lab m = ρ x.lab q := fun m => by simp only [ren, hs, rnLoc, hlab]
      unfold fitMem at h4
      split at h4
      · rename_i lc n t hf ht
        obtain ⟨g1, g2, g3⟩ := h4
        obtain ⟨f1, f2⟩ := fitT_ok ρ t (x.t.inst [q]) [n] g3
        rw [Tr.inst_size] at f1
        have hcells : (Tr.ta n t).cells (ren σ ρ) [] = (Tr.ta (lc.2 q) x.t).cells ρ [q] := by
          rw [← g2]
          simp only [Tr.cells, List.nil_append]
          apply flatMap_congr
          intro i hi
          rw [(f2 [i] ⟨by simpa using hi, trivial⟩).2, Tr.inst_cells]
        unfold Ent.holds at hxh
        simp only [hf] at hxh
        have hxq := hxh q g1
        refine ⟨?_, fun k hk => ⟨l, x, by simp only [srcL, hs], hx, ?_, fun ho => by rw [h1] at ho; cases ho⟩⟩
        · unfold Ent.holds
          simp only [h3, ht]
          rw [hloc, hcells, h1, h2]
          exact hxq.own_false
        · obtain ⟨m, hm, k1, k2, k3⟩ := hk
          rw [hloc] at k1 k3
          refine ⟨q, by simp only [hf]; exact g1, k1, ?_, k3⟩
          simp only [Ent.tr, h3, hf, ht, Tr.size, h1, Bool.false_eq_true, false_or] at k2 ⊢
          right
          rw [← g2, ← f1]; exact k2
      · exact h4.elim
    · exact h.elim

def disjO : Option Nat → Option Nat → Bool
  | some a, some b => !(Nat.beq a b)
  | _, _ => true

def sepFrom (σ : Sg) (e : Ent) : List Ent → Bool
  | [] => true
  | x :: r => if (!(e.own || x.own) || disjO (srcL σ e.lab) (srcL σ x.lab)) = true then sepFrom σ e r else false

def sepH (σ : Sg) : List Ent → Bool
  | [] => true
  | e :: r => if sepFrom σ e r then sepH σ r else false

def fitEs (σ : Sg) (H : List Ent) : List Ent → Prop
  | [] => True
  | [e] => fitEnt σ H e
  | e :: r => fitEnt σ H e ∧ fitEs σ H r

def fitH (σ : Sg) (Hc H : List Ent) : Prop := onB (sepH σ Hc) (fitEs σ H Hc)

theorem fitEs_ok {σ : Sg} {H : List Ent} : ∀ {Hc : List Ent}, fitEs σ H Hc → ∀ e ∈ Hc, fitEnt σ H e
  | [x], h, e, he => by
    rcases List.mem_cons.1 he with rfl | he
    · exact h
    · cases he
  | x :: y :: r, h, e, he => by
    rcases List.mem_cons.1 he with rfl | he
    · exact h.1
    · exact fitEs_ok h.2 e he

theorem sepFrom_ok {σ : Sg} {e : Ent} : ∀ {l : List Ent}, sepFrom σ e l = true → ∀ x ∈ l, (e.own = true ∨ x.own = true) → disjO (srcL σ e.lab) (srcL σ x.lab) = true := by
  intro l
  induction l with
  | nil => intro _ x hx; cases hx
  | cons y r ih =>
    intro h x hx ho
    simp only [sepFrom] at h
    split at h
    · rename_i hb
      rcases List.mem_cons.1 hx with rfl | hx
      · rcases ho with ho | ho <;> simpa [ho] using hb
      · exact ih h x hx ho
    · cases h

theorem disjO_symm {a b : Option Nat} (h : disjO a b = true) : disjO b a = true := by
  cases a with
  | none => cases b <;> rfl
  | some a =>
    cases b with
    | none => rfl
    | some b =>
      have hne : ¬ b = a := fun e => by subst e; simp [disjO] at h
      simp only [disjO, beqF hne, Bool.not_false]

theorem sepH_ok {σ : Sg} : ∀ {l : List Ent}, sepH σ l = true → ∀ x ∈ l, ∀ y ∈ l, x.lab ≠ y.lab → (x.own = true ∨ y.own = true) → disjO (srcL σ x.lab) (srcL σ y.lab) = true := by
  intro l
  induction l with
  | nil => intro _ x hx; cases hx
  | cons e r ih =>
    intro h x hx y hy hne ho
    simp only [sepH] at h
    split at h
    · rename_i hb
      rcases List.mem_cons.1 hx with hx' | hx'
      · rcases List.mem_cons.1 hy with hy' | hy'
        · subst hx'; subst hy'; exact absurd rfl hne
        · subst hx'; exact sepFrom_ok hb y hy' ho
      · rcases List.mem_cons.1 hy with hy' | hy'
        · subst hy'; exact disjO_symm (sepFrom_ok hb x hx' ho.symm)
        · exact ih h x hx' y hy' hne ho
    · cases h

theorem fit_hold {σ : Sg} {Hc H : List Ent} {ρ : Con} {w : World} (h : fitH σ Hc H) (hold : HoldF ρ (look H) w) : HoldF (ren σ ρ) (look Hc) w ∧ ∀ k, OwnS (ren σ ρ) (look Hc) k → OwnS ρ (look H) k := by
  have h := onB_ok h
  have each : ∀ l e, look Hc l = some e → _ := fun l e he => fitEnt_ok (fitEs_ok h.2 e (look_mem he)) ρ w hold.all
  refine ⟨⟨fun l e he => look_lab he, fun l e he => (each l e he).1, fun l l' e e' he he' hne ho k hk hk' => ?_⟩, fun k ⟨l, e, he, ho, hk⟩ => ?_⟩
  · obtain ⟨l1, x1, s1, hx1, o1, w1⟩ := (each l e he).2 k hk
    obtain ⟨l2, x2, s2, hx2, o2, w2⟩ := (each l' e' he').2 k hk'
    have hd := sepH_ok h.1 e (look_mem he) e' (look_mem he') (by rw [look_lab he, look_lab he']; exact hne) (.inl ho)
    rw [s1, s2] at hd
    have hne2 : l1 ≠ l2 := fun e => by subst e; simp [disjO] at hd
    exact hold.sep l1 l2 x1 x2 hx1 hx2 hne2 (w1 ho) k o1 o2
  · obtain ⟨l1, x1, _, hx1, o1, w1⟩ := (each l e he).2 k hk
    exact ⟨l1, x1, hx1, w1 ho, o1⟩

def keysIn (n n' : Nat) : Sg → Bool
  | [] => true
  | (k, _) :: r => if Nat.ble n k then (if Nat.blt k n' then keysIn n n' r else false) else false

theorem keysIn_ok {n n' : Nat} : ∀ {σ : Sg}, keysIn n n' σ = true → ∀ l, (l < n ∨ n' ≤ l) → sgOf σ l = .to l
  | [], _, l, _ => rfl
  | (k, r) :: s, h, l, hl => by
    simp only [keysIn] at h
    split at h
    · rename_i h1
      split at h
      · rename_i h2
        rw [Nat.ble_eq] at h1
        rw [Nat.blt_eq] at h2
        simp only [sgOf]
        rw [beqF (by omega)]
        exact keysIn_ok h l hl
      · cases h
    · cases h

theorem ren_id {n n' : Nat} {σ : Sg} (ρ : Con) (h : keysIn n n' σ = true) (l : Nat) (hl : l < n ∨ n' ≤ l) : ren σ ρ l = ρ l := by
  funext m
  simp only [ren, keysIn_ok h l hl, rnLoc]

theorem ren_glob {P : Program} {n n' : Nat} {σ : Sg} {ρ : Con} (h : keysIn n n' σ = true) (hg : gtop P ≤ n) (hG : GlobOK P ρ) : GlobOK P (ren σ ρ) :=
  hG.agree (fun l hl => ren_id ρ h l (.inl (by omega)))

def sharedB (n : Nat) : List Ent → Bool
  | [] => true
  | e :: r => if e.own then false else (if Nat.blt e.lab n then (if below n e.t.labs then sharedB n r else false) else false)

theorem sharedB_ok {n : Nat} : ∀ {X : List Ent}, sharedB n X = true → ∀ e ∈ X, e.own = false ∧ e.lab < n ∧ ∀ l ∈ e.t.labs, l < n
  | x :: r, h, e, he => by
    simp only [sharedB] at h
    split at h
    · cases h
    · rename_i ho
      split at h
      · rename_i h1
        split at h
        · rename_i h2
          rcases List.mem_cons.1 he with rfl | he
          · exact ⟨by simpa using ho, by simpa [Nat.blt_eq] using h1, below_ok h2⟩
          · exact sharedB_ok h e he
        · cases h
      · cases h

theorem look_app (l : Nat) : ∀ (A B : List Ent), look (A ++ B) l = match look A l with | some e => some e | none => look B l
  | [], B => rfl
  | x :: A, B => by
    simp only [List.cons_append, look]
    split
    · rfl
    · exact look_app l A B

theorem GoesTo.fit {P : Program} {f : FuncId} {t1 t2 : List Item} {e1 e2 : List SV} {X Y H2 Hc : List Ent} {n n' n1 n2 N : Nat} {σ : Sg} {lc : List (Nat × SV)} {v : SV} {L' : HF}
    (a : GoesTo P f t1 e1 (X ++ Y) n1 t2 e2 H2 n2) (hX : sharedB n X = true) (hE : fitE σ lc e2) (hN : e2.length = N) (hH : fitH σ Hc H2) (hk : keysIn n n' σ = true) (hg : gtop P ≤ n) (h1 : n ≤ n1) (h2 : n2 ≤ n')
    (b : RunsTo P f t2 (envAt N lc) (look (X ++ Hc)) n v L' n') : RunsTo P f t1 e1 (look (X ++ Y)) n v L' n' := by
  obtain ⟨a1, a2, a3, a4, a5⟩ := a
  obtain ⟨b1, b5⟩ := b
  have hX := sharedB_ok hX
  refine ⟨b1, fun ρ w fr ac cs k1 k2 k3 k4 k5 k6 => ?_⟩
  obtain ⟨ρ1, w1, ac1, g1, g2, g3, g4, g5⟩ := a5 ρ w fr ac cs k1 k2 k3 k4 k5 k6
  obtain ⟨hh, hown⟩ := fit_hold hH g4.hold
  have inX : ∀ {l e}, look X l = some e → look (X ++ Y) l = some e ∧ e.own = false ∧ e.lab < n ∧ (∀ q ∈ e.t.labs, q < n) ∧ e.lab = l := fun {l e} he => by
    obtain ⟨x1, x2, x3⟩ := hX e (look_mem he)
    exact ⟨by rw [look_app, he], x1, x2, x3, look_lab he⟩
  have same : ∀ l, l < n → ren σ ρ1 l = ρ l := fun l hl => by rw [ren_id ρ1 hk l (.inl hl), g4.agree l (.inl (by omega))]
  have hsep : ∀ {l e}, look X l = some e → ∀ k, e.occ ρ k → ¬ OwnS ρ (look (X ++ Y)) k := fun {l e} he k hk2 ⟨q, x, hx, ho, hxk⟩ => by
    obtain ⟨i1, i2, _, _, i5⟩ := inX he
    have hne : q ≠ l := fun e' => by subst e'; rw [i1] at hx; cases hx; rw [i2] at ho; cases ho
    exact k5.sep q l x e hx i1 hne ho k hxk hk2
  have holdX : ∀ {l e}, look X l = some e → e.holds (ren σ ρ1) w1 ∧ ∀ k, e.occ (ren σ ρ1) k → e.occ ρ k := fun {l e} he => by
    obtain ⟨i1, i2, i3, i4, i5⟩ := inX he
    have h0 := k5.all l e i1
    exact ⟨Ent.holds_agree (Ent.holds_frame h0 g4.frame (fun k hk2 => hsep he k hk2)) (same _ i3) (fun q hq => same q (i4 q hq)), fun k hk2 => (Ent.occ_agree (same _ i3)).1 hk2⟩
  have hold2 : HoldF (ren σ ρ1) (look (X ++ Hc)) w1 := by
    refine ⟨fun l e he => look_lab he, fun l e he => ?_, fun l l' e e' he he' hne ho k hk1 hk2 => ?_⟩
    · rw [look_app] at he
      split at he
      · rename_i x hx; cases he; exact (holdX hx).1
      · exact hh.all l e he
    · rw [look_app] at he he'
      split at he
      · rename_i x hx; cases he; rw [(inX hx).2.1] at ho; cases ho
      · split at he'
        · rename_i x hx
          cases he'
          have hocc := (holdX hx).2 k hk2
          rcases g4.own k (hown k ⟨l, e, he, ho, hk1⟩) with h | h
          · exact hsep hx k hocc h
          · have := Ent.occ_lt (k5.all l' e' (inX hx).1) hocc
            omega
        · exact hh.sep l l' e e' he he' hne ho k hk1 hk2
  have hown2 : ∀ k, OwnS (ren σ ρ1) (look (X ++ Hc)) k → OwnS ρ1 (look H2) k := fun k ⟨l, e, he, ho, hk2⟩ => by
    rw [look_app] at he
    split at he
    · rename_i x hx; cases he; rw [(inX hx).2.1] at ho; cases ho
    · exact hown k ⟨l, e, he, ho, hk2⟩
  obtain ⟨ρ2, w2, fr2, vv, q1, q2, q3, q4, q5⟩ := b5 (ren σ ρ1) w1 fr ac1 cs k1 k2 g2 (fitE_env hE hN g3) hold2 (ren_glob hk hg g5)
  refine ⟨ρ2, w2, fr2, vv, g1.trans q1, q2, q3, q4, ⟨fun l hl => ?_, q5.hold, ?_, fun k hk' => ?_⟩⟩
  · rw [q5.agree l hl, ren_id ρ1 hk l hl, g4.agree l (by omega)]
  · exact g4.frame.trans q5.frame (fun x hx => g4.own x (hown2 x hx))
  · rcases q5.own k hk' with h | h
    · exact g4.own k (hown2 k h)
    · right; have := g4.frame.size; omega

theorem RunsTo.out {P : Program} {f : FuncId} {t : List Item} {e : List SV} {L : HF} {n n1 n' n2 : Nat} {σ : Sg} {v vc : SV} {H' Hc : List Ent} (a : RunsTo P f t e L n1 v (look H') n2) (hv : fitS σ vc v) (hH : fitH σ Hc H')
    (hk : keysIn n n' σ = true) (h1 : n ≤ n1) (h2 : n2 ≤ n') : RunsTo P f t e L n vc (look Hc) n' := by
  obtain ⟨b1, b5⟩ := a
  refine ⟨by omega, fun ρ w fr ac cs k1 k2 k3 k4 k5 k6 => ?_⟩
  obtain ⟨ρ2, w2, fr2, vv, q1, q2, q3, q4, q5⟩ := b5 ρ w fr ac cs k1 k2 k3 k4 k5 k6
  obtain ⟨hh, hown⟩ := fit_hold hH q5.hold
  refine ⟨ren σ ρ2, w2, fr2, vv, q1, q2, q3, fun hj => ?_, ⟨fun l hl => ?_, hh, q5.frame, fun k hk' => q5.own k (hown k hk')⟩⟩
  · obtain ⟨g1, g2⟩ := fitS_ok ρ2 hv hj
    rw [q4 g1, g2]
  · rw [ren_id ρ2 hk l hl, q5.agree l (by omega)]

end Go.Sx
