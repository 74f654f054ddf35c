/- The engine, part 37: contracts told by patterns; how a call's arguments and heap are matched against them. -/
import Derived.Test.YtankmgnjkcgpaaaDoorSyKit
set_option linter.unusedSimpArgs false
set_option linter.unusedVariables false
namespace Go.Sx

inductive Lf where
  | b (f : Ix → Bool)
  | i (f : Ix → Int)
  | s (f : Ix → List UInt8)
  | n (n : Nat)
  | m (f : Ix → Nat)
  | l (f : Nat → Nat)

abbrev PEnv := List (Nat × Lf)

def eFind : PEnv → Nat → Option Lf
  | [], _ => none
  | (k, v) :: r, i => match Nat.beq k i with | true => some v | false => eFind r i

def eB (e : PEnv) (i : Nat) : Ix → Bool := match eFind e i with | some (.b f) => f | _ => fun _ => false
def eI (e : PEnv) (i : Nat) : Ix → Int := match eFind e i with | some (.i f) => f | _ => fun _ => 0
def eS (e : PEnv) (i : Nat) : Ix → List UInt8 := match eFind e i with | some (.s f) => f | _ => fun _ => []
def eN (e : PEnv) (i : Nat) : Nat := match eFind e i with | some (.n n) => n | _ => 0
def eM (e : PEnv) (i : Nat) : Ix → Nat := match eFind e i with | some (.m f) => f | _ => fun _ => 0
def eL (e : PEnv) (i : Nat) : Nat → Nat := match eFind e i with | some (.l f) => f | _ => fun _ => 0

inductive PT where
  | vb (i : Nat)
  | vi (k : IntKind) (i : Nat)
  | vs (i : Nat)
  | vp (lab : Nat)
  | vp0
  | vl (lab sz i : Nat)
  | vm (lab sz i : Nat)
  | vf (lab sz i j : Nat)
  | va (lab sz i j k : Nat)
  | ve0
  | vl0
  | ve (t : Nat) (p : PT)
  | vc (f : Nat) (p : PT)
  | vx (t : Nat) (ls : List Nat) (i : Nat)
  | vq (f : Nat)
  | t0
  | tc (a b : PT)
  | ta (i : Nat) (p : PT)
  | tn (n : Nat) (p : PT)

def cst {α : Type} : Bool → (Ix → α) → Ix → α
  | false, f => fun _ => f []
  | true, f => f

def PT.inst (e : PEnv) : Bool → PT → Tr
  | d, .vb i => .vb (cst d (eB e i))
  | d, .vi k i => .vi k (cst d (eI e i))
  | d, .vs i => .vs (cst d (eS e i))
  | _, .vp lab => .vp lab (fun _ => 0) []
  | _, .vp0 => .vp0
  | _, .vl lab sz i => .vl lab (fun _ => 0) sz [] (fun _ => eN e i)
  | _, .vm lab sz i => .vl lab (fun _ => 0) sz [] (fun _ => eN e i)
  | d, .vf lab sz i j => .vl lab (cst d (eM e i)) sz [] (cst d (eM e j))
  | _, .va lab sz i j k => .va lab [] sz (eN e i) (eN e j) (eN e k)
  | _, .ve0 => .ve0
  | _, .vl0 => .vl0
  | d, .ve t p => .ve t (p.inst e d)
  | d, .vc t p => .vc t (p.inst e d)
  | d, .vx t ls i => .vx t ls (cst d (eM e i))
  | _, .vq f => .vr (.func (.func f) #[] #[])
  | _, .t0 => .t0
  | d, .tc a b => .tc (a.inst e d) (b.inst e d)
  | _, .ta i p => .ta (eN e i) (p.inst e true)
  | _, .tn n p => .ta n (p.inst e true)

structure MS where
  sg : Sg
  env : PEnv
  eqs : List (Nat × Nat)

def sgFind : Sg → Nat → Option Rn
  | [], _ => none
  | (k, r) :: s, l => match Nat.beq k l with | true => some r | false => sgFind s l

theorem sgFind_ok {l : Nat} {r : Rn} : ∀ {σ : Sg}, sgFind σ l = some r → sgOf σ l = r
  | (k, q) :: s, h => by
    simp only [sgFind] at h
    simp only [sgOf]
    cases hb : Nat.beq k l with
    | true => rw [hb] at h; simpa using h
    | false => rw [hb] at h; simp only [Bool.false_eq_true, if_false]; exact sgFind_ok h

structure MS.le (a b : MS) : Prop where
  sg : ∀ l r, sgFind a.sg l = some r → sgFind b.sg l = some r
  env : ∀ i v, eFind a.env i = some v → eFind b.env i = some v
  eqs : ∀ p ∈ a.eqs, p ∈ b.eqs

theorem MS.le_rfl (a : MS) : a.le a := ⟨fun _ _ h => h, fun _ _ h => h, fun _ h => h⟩
theorem MS.le.le_trans {a b c : MS} (h : a.le b) (g : b.le c) : a.le c := ⟨fun l r x => g.1 l r (h.1 l r x), fun i v x => g.2 i v (h.2 i v x), fun p x => g.3 p (h.3 p x)⟩

def MS.Fin (s : MS) (σ : Sg) (e : PEnv) : Prop := (∀ l r, sgFind s.sg l = some r → sgOf σ l = r) ∧ (∀ i v, eFind s.env i = some v → eFind e i = some v) ∧ ∀ p ∈ s.eqs, p.1 = p.2
theorem MS.Fin.le {a b : MS} {σ : Sg} {e : PEnv} (h : a.le b) (g : b.Fin σ e) : a.Fin σ e := ⟨fun l r x => g.1 l r (h.1 l r x), fun i v x => g.2.1 i v (h.2 i v x), fun p x => g.2.2 p (h.3 p x)⟩

def putS' (lab : Nat) (r : Rn) (s : MS) : Option MS :=
  match sgFind s.sg lab with
  | none => some { s with sg := (lab, r) :: s.sg }
  | some (.to b) => (match r with | .to a => (match Nat.beq a b with | true => some s | false => none) | _ => none)
  | some _ => none

theorem putS'_ok {lab : Nat} {r : Rn} {s s' : MS} (h : putS' lab r s = some s') : s.le s' ∧ sgFind s'.sg lab = some r := by
  unfold putS' at h
  split at h
  · rename_i hn
    simp only [Option.some.injEq] at h
    subst h
    refine ⟨⟨fun l q hq => ?_, fun _ _ h => h, fun _ h => h⟩, by simp only [sgFind, beqT rfl]⟩
    simp only [sgFind]
    by_cases hl : lab = l
    · subst hl; rw [hn] at hq; cases hq
    · rw [beqF hl]; exact hq
  · rename_i b hb
    split at h
    · rename_i a
      split at h
      · rename_i hab
        simp only [Option.some.injEq] at h
        subst h
        rw [Nat.eq_of_beq_eq_true hab]
        exact ⟨MS.le_rfl _, hb⟩
      · cases h
    · cases h
  · cases h

def bindL (i : Nat) (v : Lf) (s : MS) : Option MS :=
  match eFind s.env i with
  | none => some { s with env := (i, v) :: s.env }
  | some _ => none

theorem bindL_ok {i : Nat} {v : Lf} {s s' : MS} (h : bindL i v s = some s') : s.le s' ∧ eFind s'.env i = some v := by
  unfold bindL at h
  split at h
  · rename_i hn
    simp only [Option.some.injEq] at h
    subst h
    refine ⟨⟨fun _ _ h => h, fun j q hq => ?_, fun _ h => h⟩, by simp only [eFind, beqT rfl]⟩
    simp only [eFind]
    by_cases hl : i = j
    · subst hl; rw [hn] at hq; cases hq
    · rw [beqF hl]; exact hq
  · cases h

def putN (i n : Nat) (s : MS) : Option MS :=
  match eFind s.env i with
  | none => some { s with env := (i, .n n) :: s.env }
  | some (.n m) => some { s with eqs := (m, n) :: s.eqs }
  | some _ => none

theorem putN_ok {i n : Nat} {s s' : MS} (h : putN i n s = some s') : s.le s' ∧ ∀ σ e, s'.Fin σ e → eN e i = n := by
  unfold putN at h
  split at h
  · rename_i hn
    simp only [Option.some.injEq] at h
    subst h
    refine ⟨⟨fun _ _ h => h, fun j q hq => ?_, fun _ h => h⟩, fun σ e hf => ?_⟩
    · simp only [eFind]
      by_cases hl : i = j
      · subst hl; rw [hn] at hq; cases hq
      · rw [beqF hl]; exact hq
    · have := hf.2.1 i (.n n) (by simp only [eFind, beqT rfl])
      simp only [eN, this]
  · rename_i m hm
    simp only [Option.some.injEq] at h
    subst h
    refine ⟨⟨fun _ _ h => h, fun _ _ h => h, fun p hp => List.mem_cons_of_mem _ hp⟩, fun σ e hf => ?_⟩
    have h1 := hf.2.1 i (.n m) hm
    have h2 := hf.2.2 (m, n) (by simp)
    simp only [eN, h1]
    exact h2
  · cases h

def isFn (f : Nat) : Value → Bool
  | .func (.func g) ⟨[]⟩ ⟨[]⟩ => Nat.beq f g
  | _ => false
theorem isFn_ok {f : Nat} : ∀ {v : Value}, isFn f v = true → .func (.func f) #[] #[] = v
  | .func (.func g) ⟨[]⟩ ⟨[]⟩, h => by rw [Nat.eq_of_beq_eq_true h]

def putLs : List Nat → MS → Option MS
  | [], s => some s
  | l :: r, s => match putS' l (.to l) s with | some s1 => putLs r s1 | none => none
theorem putLs_ok : ∀ {ls : List Nat} {s s' : MS}, putLs ls s = some s' → s.le s' ∧ ∀ l ∈ ls, sgFind s'.sg l = some (.to l)
  | [], s, s', h => by
    simp only [putLs, Option.some.injEq] at h
    subst h
    exact ⟨MS.le_rfl _, fun l hl => by cases hl⟩
  | a :: r, s, s', h => by
    simp only [putLs] at h
    split at h
    · rename_i s1 h1
      obtain ⟨a1, a2⟩ := putS'_ok h1
      obtain ⟨b1, b2⟩ := putLs_ok h
      refine ⟨a1.le_trans b1, fun l hl => ?_⟩
      rcases List.mem_cons.1 hl with rfl | hl
      · exact b1.1 _ _ a2
      · exact b2 l hl
    · cases h
def idxL (l : Nat) : List Nat → Nat → Option Nat
  | [], _ => none
  | a :: r, k => match Nat.beq a l with | true => some k | false => idxL l r (k + 1)
theorem idxL_ok {l : Nat} : ∀ {ls : List Nat} {k j : Nat}, idxL l ls k = some j → ∃ i, j = k + i ∧ nthL ls i = some l
  | a :: r, k, j, h => by
    simp only [idxL] at h
    split at h
    · rename_i e
      simp only [Option.some.injEq] at h
      exact ⟨0, by omega, by simp only [nthL, Nat.eq_of_beq_eq_true e]⟩
    · obtain ⟨i, h1, h2⟩ := idxL_ok h
      exact ⟨i + 1, by omega, h2⟩

def matchT : Bool → PT → Tr → MS → Option MS
  | _, .vb i, .vb f, s => bindL i (.b f) s
  | _, .vi k i, .vi k' f, s => match sameK k k' with | true => bindL i (.i f) s | false => none
  | _, .vs i, .vs f, s => bindL i (.s f) s
  | false, .vp lab, .vp l m [], s => match Nat.beq (m []) 0 with | true => putS' lab (.to l) s | false => none
  | false, .vp0, .vp0, s => some s
  | false, .vl lab sz i, .vl l m sz' cuts len, s => match Nat.beq (m []) 0 with
    | true => (match Nat.beq sz sz' with
      | true => (match putS' lab (match cuts with | [] => .to l | _ => .cut l sz cuts) s with
        | some s1 => putN i (len []) s1
        | none => none)
      | false => none)
    | false => none
  | false, .vl lab sz i, .vl0, s => (match putS' lab (.nil sz) s with
    | some s1 => putN i 0 s1
    | none => none)
  | false, .vm lab sz i, .vl l m sz' [] len, s => match Nat.beq sz sz' with
    | true => (match putS' lab (.mem l (m [])) s with
      | some s1 => putN i (len []) s1
      | none => none)
    | false => none
  | _, .vf lab sz i j, .vl l m sz' [] len, s => match Nat.beq sz sz' with
    | true => (match putS' lab (.to l) s with
      | some s1 => (match bindL i (.m m) s1 with
        | some s2 => bindL j (.m len) s2
        | none => none)
      | none => none)
    | false => none
  | _, .vf lab sz i j, .vl0, s => (match putS' lab (.nil sz) s with
    | some s1 => (match bindL i (.m fun _ => 0) s1 with
      | some s2 => bindL j (.m fun _ => 0) s2
      | none => none)
    | none => none)
  | false, .va lab sz i j k, .va l [] sz' st len cap, s => match Nat.beq sz sz' with
    | true => (match putS' lab (.to l) s with
      | some s1 => (match putN i st s1 with
        | some s2 => (match putN j len s2 with
          | some s3 => putN k cap s3
          | none => none)
        | none => none)
      | none => none)
    | false => none
  | false, .ve0, .ve0, s => some s
  | false, .vl0, .vl0, s => some s
  | false, .ve t p, .ve t' u, s => match Nat.beq t t' with | true => matchT false p u s | false => none
  | false, .vc t p, .vc t' u, s => match Nat.beq t t' with | true => matchT false p u s | false => none
  | _, .vx t ls i, .vx t' ls' f, s => match Nat.beq t t' with
    | true => (match sameL ls ls' with
      | true => (match putLs ls s with
        | some s1 => bindL i (.m f) s1
        | none => none)
      | false => none)
    | false => none
  | false, .vx t ls i, .ve t' (.vp l m []), s => match Nat.beq t t' with
    | true => (match Nat.beq (m []) 0 with
      | true => (match idxL l ls 0 with
        | some k => (match putLs ls s with
          | some s1 => bindL i (.m fun _ => k) s1
          | none => none)
        | none => none)
      | false => none)
    | false => none
  | false, .vx _ ls i, .ve0, s => bindL i (.m fun _ => ls.length) s
  | _, .vq f, .vr v, s => match isFn f v with | true => some s | false => none
  | _, .t0, .t0, s => some s
  | d, .tc a b, .tc c e, s => match matchT d a c s with | some s1 => matchT d b e s1 | none => none
  | _, .ta i p, .ta n t, s => match putN i n s with | some s1 => matchT true p t s1 | none => none
  | _, .tn n p, .ta m t, s => match Nat.beq n m with | true => matchT true p t s | false => none
  | _, _, _, _ => none

theorem fit_tc {σ : Sg} {bs : List Nat} {a b c d : Tr} (h1 : fitT σ bs a c) (h2 : fitT σ bs b d) : fitT σ bs (.tc a b) (.tc c d) := by
  cases b <;> cases d <;> first | exact h1 | exact ⟨h1, h2⟩

theorem allB_intro : ∀ {bs : List Nat} {p : Ix → Prop}, (∀ is, p is) → allB bs p
  | [], p, h => h []
  | b :: r, p, h => fun i _ => allB_intro fun is => h (i :: is)

theorem matchT_ok : ∀ (p : PT) (d : Bool) (t : Tr) (s s' : MS), matchT d p t s = some s' → s.le s' ∧ ∀ σ e, s'.Fin σ e → ∀ bs, (d = false → bs = []) → fitT σ bs (p.inst e d) t := by
  have hcst : ∀ {α : Type} (d : Bool) (f : Ix → α) (bs : List Nat), (d = false → bs = []) → allB bs fun is => cst d f is = f is := by
    intro α d f bs h
    cases d with
    | false => rw [h rfl]; rfl
    | true => exact allB_intro fun _ => rfl
  intro p
  induction p with
  | vb i =>
    intro d t s s' h
    cases t <;> simp only [matchT] at h <;> try cases h
    obtain ⟨h1, h2⟩ := bindL_ok h
    refine ⟨h1, fun σ e hf bs hb => ?_⟩
    have := hf.2.1 _ _ h2
    simp only [PT.inst, fitT, eB, this]
    exact hcst d _ bs hb
  | vi k i =>
    intro d t s s' h
    cases t <;> simp only [matchT] at h <;> try cases h
    split at h
    · rename_i hk
      obtain ⟨h1, h2⟩ := bindL_ok h
      refine ⟨h1, fun σ e hf bs hb => ?_⟩
      have := hf.2.1 _ _ h2
      simp only [PT.inst, fitT, eI, this, hk, onB_true]
      exact hcst d _ bs hb
    · cases h
  | vs i =>
    intro d t s s' h
    cases t <;> simp only [matchT] at h <;> try cases h
    obtain ⟨h1, h2⟩ := bindL_ok h
    refine ⟨h1, fun σ e hf bs hb => ?_⟩
    have := hf.2.1 _ _ h2
    simp only [PT.inst, fitT, eS, this]
    exact hcst d _ bs hb
  | vp lab =>
    intro d t s s' h
    cases d with
    | true => cases t <;> simp only [matchT] at h <;> cases h
    | false =>
      cases t with
      | vp l m path =>
        cases path with
        | cons a r => simp only [matchT] at h; cases h
        | nil =>
          simp only [matchT] at h
          split at h
          · rename_i hm
            obtain ⟨h1, h2⟩ := putS'_ok h
            refine ⟨h1, fun σ e hf bs hb => ?_⟩
            rw [hb rfl]
            have := hf.1 _ _ h2
            simp only [PT.inst, fitT, fitP, this, offs, beqT rfl, onB_true, allB]
            exact (Nat.eq_of_beq_eq_true hm).symm
          · cases h
      | _ => simp only [matchT] at h; cases h
  | vp0 =>
    intro d t s s' h
    cases d with
    | true => cases t <;> simp only [matchT] at h <;> cases h
    | false =>
      cases t <;> simp only [matchT] at h <;> try cases h
      exact ⟨MS.le_rfl _, fun σ e hf bs hb => trivial⟩
  | vl lab sz i =>
    intro d t s s' h
    cases d with
    | true => cases t <;> simp only [matchT] at h <;> cases h
    | false =>
      cases t with
      | vl l m sz' cuts len =>
        simp only [matchT] at h
        split at h
        · rename_i hm
          split at h
          · rename_i hz
            split at h
            · rename_i s1 hs1
              obtain ⟨h1, h2⟩ := putS'_ok hs1
              obtain ⟨h3, h4⟩ := putN_ok h
              refine ⟨h1.le_trans h3, fun σ e hf bs hb => ?_⟩
              rw [hb rfl]
              have hg := (hf.le h3).1 _ _ h2
              have hm := Nat.eq_of_beq_eq_true hm
              have hz := Nat.eq_of_beq_eq_true hz
              subst hz
              have hn := h4 σ e hf
              simp only [PT.inst, fitT, beqT rfl, onB_true, allB, hn, and_true]
              cases cuts with
              | nil => simp only at hg; simp only [fitL, hg, beqT rfl, onB_true, cutsP, allB]; exact hm.symm
              | cons a r => simp only at hg; simp only [fitL, hg, beqT rfl, onB_true, cutsP, allB, List.isEmpty_nil, true_and]; exact hm.symm
            · cases h
          · cases h
        · cases h
      | vl0 =>
        simp only [matchT] at h
        split at h
        · rename_i s1 hs1
          obtain ⟨h1, h2⟩ := putS'_ok hs1
          obtain ⟨h3, h4⟩ := putN_ok h
          refine ⟨h1.le_trans h3, fun σ e hf bs hb => ?_⟩
          rw [hb rfl]
          have hg := (hf.le h3).1 _ _ h2
          have hn := h4 σ e hf
          simp only [PT.inst, fitT, hg, isNilR, onB_true, allB, hn]
        · cases h
      | _ => simp only [matchT] at h; cases h
  | vm lab sz i =>
    intro d t s s' h
    cases d with
    | true => cases t <;> simp only [matchT] at h <;> cases h
    | false =>
      cases t with
      | vl l m sz' cuts len =>
        cases cuts with
        | cons a r => simp only [matchT] at h; cases h
        | nil =>
          simp only [matchT] at h
          split at h
          · rename_i hz
            split at h
            · rename_i s1 hs1
              obtain ⟨h1, h2⟩ := putS'_ok hs1
              obtain ⟨h3, h4⟩ := putN_ok h
              refine ⟨h1.le_trans h3, fun σ e hf bs hb => ?_⟩
              rw [hb rfl]
              have hg := (hf.le h3).1 _ _ h2
              have hn := h4 σ e hf
              simp only [PT.inst, fitT, hz, onB_true, fitL, hg, beqT rfl, cutsP, allB, hn, and_true]
            · cases h
          · cases h
      | _ => simp only [matchT] at h; cases h
  | vf lab sz i j =>
    intro d t s s' h
    cases t with
    | vl l m sz' cuts len =>
      cases cuts with
      | cons a r => cases d <;> (simp only [matchT] at h; cases h)
      | nil =>
        have h : (match Nat.beq sz sz' with
          | true => (match putS' lab (.to l) s with
            | some s1 => (match bindL i (.m m) s1 with
              | some s2 => bindL j (.m len) s2
              | none => none)
            | none => none)
          | false => none) = some s' := by cases d <;> simpa only [matchT] using h
        split at h
        · rename_i hz
          split at h
          · rename_i s1 hs1
            split at h
            · rename_i s2 hs2
              obtain ⟨h1, h2⟩ := putS'_ok hs1
              obtain ⟨h3, h4⟩ := bindL_ok hs2
              obtain ⟨h5, h6⟩ := bindL_ok h
              refine ⟨h1.le_trans (h3.le_trans h5), fun σ e hf bs hb => ?_⟩
              have hg := (hf.le (h3.le_trans h5)).1 _ _ h2
              have e1 := (hf.le h5).2.1 _ _ h4
              have e2 := hf.2.1 _ _ h6
              simp only [PT.inst, fitT, hz, onB_true, fitL, hg, beqT rfl, cutsP, eM, e1, e2]
              exact ⟨hcst d _ bs hb, hcst d _ bs hb⟩
            · cases h
          · cases h
        · cases h
    | vl0 =>
      have h : (match putS' lab (.nil sz) s with
        | some s1 => (match bindL i (.m fun _ => 0) s1 with
          | some s2 => bindL j (.m fun _ => 0) s2
          | none => none)
        | none => none) = some s' := by cases d <;> simpa only [matchT] using h
      split at h
      · rename_i s1 hs1
        split at h
        · rename_i s2 hs2
          obtain ⟨h1, h2⟩ := putS'_ok hs1
          obtain ⟨h3, h4⟩ := bindL_ok hs2
          obtain ⟨h5, h6⟩ := bindL_ok h
          refine ⟨h1.le_trans (h3.le_trans h5), fun σ e hf bs hb => ?_⟩
          have hg := (hf.le (h3.le_trans h5)).1 _ _ h2
          have e2 := hf.2.1 _ _ h6
          simp only [PT.inst, fitT, hg, isNilR, onB_true, eM, e2]
          refine allB_intro fun is => ?_
          cases d <;> rfl
        · cases h
      · cases h
    | _ => cases d <;> (simp only [matchT] at h; cases h)
  | va lab sz i j k =>
    intro d t s s' h
    cases d with
    | true => cases t <;> simp only [matchT] at h <;> cases h
    | false =>
      cases t with
      | va l path sz' st len cap =>
        cases path with
        | cons a r => simp only [matchT] at h; cases h
        | nil =>
          simp only [matchT] at h
          split at h
          · rename_i hz
            split at h
            · rename_i s1 hs1
              split at h
              · rename_i s2 hs2
                split at h
                · rename_i s3 hs3
                  obtain ⟨h1, h2⟩ := putS'_ok hs1
                  obtain ⟨h3, h4⟩ := putN_ok hs2
                  obtain ⟨h5, h6⟩ := putN_ok hs3
                  obtain ⟨h7, h8⟩ := putN_ok h
                  refine ⟨h1.le_trans (h3.le_trans (h5.le_trans h7)), fun σ e hf bs hb => ?_⟩
                  have hg := (hf.le (h3.le_trans (h5.le_trans h7))).1 _ _ h2
                  have e1 := h4 σ e (hf.le (h5.le_trans h7))
                  have e2 := h6 σ e (hf.le h7)
                  have e3 := h8 σ e hf
                  simp only [PT.inst, fitT, hg, isToR, beqT rfl, onB_true, hz, e1, e2, e3, and_self]
                · cases h
              · cases h
            · cases h
          · cases h
      | _ => simp only [matchT] at h; cases h
  | ve0 =>
    intro d t s s' h
    cases d with
    | true => cases t <;> simp only [matchT] at h <;> cases h
    | false =>
      cases t <;> simp only [matchT] at h <;> try cases h
      exact ⟨MS.le_rfl _, fun σ e hf bs hb => trivial⟩
  | vl0 =>
    intro d t s s' h
    cases d with
    | true => cases t <;> simp only [matchT] at h <;> cases h
    | false =>
      cases t <;> simp only [matchT] at h <;> try cases h
      exact ⟨MS.le_rfl _, fun σ e hf bs hb => trivial⟩
  | ve t p ih =>
    intro d u s s' h
    cases d with
    | true => cases u <;> simp only [matchT] at h <;> cases h
    | false =>
      cases u <;> simp only [matchT] at h <;> try cases h
      split at h
      · rename_i ht
        obtain ⟨h1, h2⟩ := ih _ _ _ _ h
        refine ⟨h1, fun σ e hf bs hb => ?_⟩
        simp only [PT.inst, fitT, ht, onB_true]
        exact h2 σ e hf bs hb
      · cases h
  | vx t ls i =>
    have self : ∀ (σ : Sg) (l : List Nat), (∀ a ∈ l, sgOf σ a = .to a) → lsTo σ l l = true := by
      intro σ l
      induction l with
      | nil => intro _; rfl
      | cons a r ih =>
        intro h
        simp only [lsTo, h a (by simp), isToR, beqT rfl]
        exact ih fun b hb => h b (List.mem_cons_of_mem _ hb)
    have hvx : ∀ (d : Bool) (t' : Nat) (ls' : List Nat) (f : Ix → Nat) (s s' : MS), matchT d (.vx t ls i) (.vx t' ls' f) s = some s' → s.le s' ∧ ∀ σ e, s'.Fin σ e → ∀ bs, (d = false → bs = []) → fitT σ bs ((PT.vx t ls i).inst e d) (.vx t' ls' f) := by
      intro d t' ls' f s s' h
      simp only [matchT] at h
      split at h
      · rename_i ht
        split at h
        · rename_i hl
          split at h
          · rename_i s1 hs1
            obtain ⟨a1, a2⟩ := putLs_ok hs1
            obtain ⟨b1, b2⟩ := bindL_ok h
            refine ⟨a1.le_trans b1, fun σ e hf bs hb => ?_⟩
            have hl := sameL_ok hl
            subst hl
            have := hf.2.1 _ _ b2
            simp only [PT.inst, fitT, ht, onB_true, eM, this, self σ ls (fun a ha => (hf.le b1).1 _ _ (a2 a ha))]
            exact hcst d _ bs hb
          · cases h
        · cases h
      · cases h
    intro d u s s' h
    cases d with
    | true =>
      cases u with
      | vx t' ls' f => exact hvx true t' ls' f s s' h
      | _ => simp only [matchT] at h; cases h
    | false =>
      cases u with
      | vx t' ls' f => exact hvx false t' ls' f s s' h
      | ve0 =>
        simp only [matchT] at h
        obtain ⟨h1, h2⟩ := bindL_ok h
        refine ⟨h1, fun σ e hf bs hb => ?_⟩
        have := hf.2.1 _ _ h2
        rw [hb rfl]
        simp only [PT.inst, fitT, eM, this, cst, allB]
        exact nthL_none.2 (Nat.le_refl _)
      | ve t' v =>
        cases v with
        | vp l m path =>
          cases path with
          | cons a r => simp only [matchT] at h; cases h
          | nil =>
            simp only [matchT] at h
            split at h
            · rename_i ht
              split at h
              · rename_i hm
                split at h
                · rename_i k hk
                  split at h
                  · rename_i s1 hs1
                    obtain ⟨a1, a2⟩ := putLs_ok hs1
                    obtain ⟨b1, b2⟩ := bindL_ok h
                    refine ⟨a1.le_trans b1, fun σ e hf bs hb => ?_⟩
                    have := hf.2.1 _ _ b2
                    obtain ⟨j, hj, hn⟩ := idxL_ok hk
                    rw [hb rfl]
                    have hto : sgOf σ l = .to l := (hf.le b1).1 _ _ (a2 l (nthL_mem hn))
                    simp only [PT.inst, fitT, ht, onB_true, eM, this, cst, fitXV, offs, beqT rfl, allB]
                    refine ⟨Nat.eq_of_beq_eq_true hm, ?_⟩
                    rw [hj, Nat.zero_add, hn]
                    simp only [atO, hto, isToR, beqT rfl]
                  · cases h
                · cases h
              · cases h
            · cases h
        | _ => simp only [matchT] at h; cases h
      | _ => simp only [matchT] at h; cases h
  | vc t p ih =>
    intro d u s s' h
    cases d with
    | true => cases u <;> simp only [matchT] at h <;> cases h
    | false =>
      cases u <;> simp only [matchT] at h <;> try cases h
      split at h
      · rename_i ht
        obtain ⟨h1, h2⟩ := ih _ _ _ _ h
        refine ⟨h1, fun σ e hf bs hb => ?_⟩
        simp only [PT.inst, fitT, ht, onB_true]
        exact h2 σ e hf bs hb
      · cases h
  | vq f =>
    intro d t s s' h
    cases t with
    | vr v =>
      cases d <;>
      · simp only [matchT] at h
        split at h
        · rename_i hq
          simp only [Option.some.injEq] at h
          subst h
          exact ⟨MS.le_rfl _, fun σ e hf bs hb => isFn_ok hq⟩
        · cases h
    | _ => cases d <;> (simp only [matchT] at h; cases h)
  | t0 =>
    intro d t s s' h
    cases t <;> simp only [matchT] at h <;> try cases h
    exact ⟨MS.le_rfl _, fun σ e hf bs hb => trivial⟩
  | tc a b ih1 ih2 =>
    intro d t s s' h
    cases t with
    | tc c e' =>
      simp only [matchT] at h
      split at h
      · rename_i s1 hs1
        obtain ⟨h1, h2⟩ := ih1 _ _ _ _ hs1
        obtain ⟨h3, h4⟩ := ih2 _ _ _ _ h
        exact ⟨h1.le_trans h3, fun σ e hf bs hb => fit_tc (h2 σ e (hf.le h3) bs hb) (h4 σ e hf bs hb)⟩
      · cases h
    | _ => simp only [matchT] at h; cases h
  | ta i p ih =>
    intro d t s s' h
    cases t with
    | ta n u =>
      simp only [matchT] at h
      split at h
      · rename_i s1 hs1
        obtain ⟨h1, h2⟩ := putN_ok hs1
        obtain ⟨h3, h4⟩ := ih _ _ _ _ h
        refine ⟨h1.le_trans h3, fun σ e hf bs hb => ?_⟩
        exact ⟨h2 σ e (hf.le h3), h4 σ e hf _ (fun hd => by cases hd)⟩
      · cases h
    | _ => simp only [matchT] at h; cases h
  | tn n p ih =>
    intro d t s s' h
    cases t with
    | ta m u =>
      simp only [matchT] at h
      split at h
      · rename_i hn
        obtain ⟨h3, h4⟩ := ih _ _ _ _ h
        exact ⟨h3, fun σ e hf bs hb => ⟨Nat.eq_of_beq_eq_true hn, h4 σ e hf _ (fun hd => by cases hd)⟩⟩
      · cases h
    | _ => simp only [matchT] at h; cases h

inductive PA where
  | v (p : PT)
  | agg (p : PT)

def PA.inst (e : PEnv) : PA → SV
  | .v p => .v (p.inst e false)
  | .agg p => .agg (p.inst e false)

def matchA : PA → SV → MS → Option MS
  | .v p, .v t, s => matchT false p t s
  | .v (.vb i), .lb b, s => bindL i (.b fun _ => b) s
  | .agg p, .agg t, s => matchT false p t s
  | _, _, _ => none

theorem fitS_v {σ : Sg} {t u : Tr} (h : fitT σ [] t u) : fitS σ (.v t) (.v u) := by cases t <;> exact h

theorem matchA_ok {p : PA} {a : SV} {s s' : MS} (h : matchA p a s = some s') : s.le s' ∧ ∀ σ e, s'.Fin σ e → fitS σ (p.inst e) a := by
  unfold matchA at h
  split at h
  · obtain ⟨h1, h2⟩ := matchT_ok _ _ _ _ _ h
    exact ⟨h1, fun σ e hf => fitS_v (h2 σ e hf [] fun _ => rfl)⟩
  · obtain ⟨h1, h2⟩ := bindL_ok h
    refine ⟨h1, fun σ e hf => ?_⟩
    have := hf.2.1 _ _ h2
    simp only [PA.inst, PT.inst, fitS, eB, this, cst]
  · obtain ⟨h1, h2⟩ := matchT_ok _ _ _ _ _ h
    exact ⟨h1, fun σ e hf => h2 σ e hf [] fun _ => rfl⟩
  · cases h

def matchAs : List PA → List SV → MS → Option MS
  | [], [], s => some s
  | p :: r, a :: q, s => match matchA p a s with | some s1 => matchAs r q s1 | none => none
  | _, _, _ => none

theorem matchAs_ok : ∀ {ps : List PA} {as : List SV} {s s' : MS}, matchAs ps as s = some s' → s.le s' ∧ ∀ σ e, s'.Fin σ e → fitA σ (ps.map (PA.inst e)) as
  | [], [], s, s', h => by
    simp only [matchAs, Option.some.injEq] at h
    subst h
    exact ⟨MS.le_rfl _, fun _ _ _ => trivial⟩
  | p :: r, a :: q, s, s', h => by
    simp only [matchAs] at h
    split at h
    · rename_i s1 hs1
      obtain ⟨h1, h2⟩ := matchA_ok hs1
      obtain ⟨h3, h4⟩ := matchAs_ok h
      exact ⟨h1.le_trans h3, fun σ e hf => ⟨h2 σ e (hf.le h3), h4 σ e hf⟩⟩
    · cases h
  | [], _ :: _, s, s', h => by simp [matchAs] at h
  | _ :: _, [], s, s', h => by simp [matchAs] at h

structure PE where
  lab : Nat
  own : Bool
  wid : Nat
  t : PT

def PE.inst (e : PEnv) (p : PE) : Ent := ⟨p.lab, p.own, none, p.wid, p.t.inst e false⟩

def isN0 : Option Lf → Bool
  | some (.n 0) => true
  | _ => false

def matchE (H : List Ent) (nl : Nat) (p : PE) (s : MS) : Option MS :=
  match sgFind s.sg p.lab with
  | some (.to l) => (match look H l with
    | some x => (match sameB p.own x.own && (noFam x.fam && (widB p.wid x.wid && Nat.blt l nl)) with | true => matchT false p.t x.t s | false => none)
    | none => none)
  | some (.nil w) => (match Nat.beq p.wid w with
    | true => (match p.t with | .ta i q => (match isN0 (eFind s.env i) with | true => some s | false => none) | _ => none)
    | false => none)
  | some (.cut l sz cs) => (match look H l with
    | some x => (match sameB p.own x.own && (noFam x.fam && (Nat.beq p.wid sz && (Nat.beq (wd x.wid) sz && (Nat.blt 0 sz && Nat.blt l nl)))) with
      | true => (match p.t, x.t with
        | .ta i q, .ta m u => (match Nat.beq u.size sz with
          | true => (match eFind s.env i with
            | some (.n k) => matchT true q (u.shift (sum cs)) { s with eqs := (sum cs + k, m) :: s.eqs }
            | none => matchT true q (u.shift (sum cs)) { s with env := (i, .n (m - sum cs)) :: s.env, eqs := (sum cs + (m - sum cs), m) :: s.eqs }
            | _ => none)
          | false => none)
        | _, _ => none)
      | false => none)
    | none => none)
  | some (.mem l k) => (match look H l with
    | some x => (match x.fam with
      | some lc => (match sameB p.own false && (Nat.beq p.wid x.wid && Nat.blt l nl) with
        | true => (match p.t with
          | .ta i q => (match eFind s.env i with
            | some (.n c) => matchT true q (x.t.inst [k]) { s with eqs := (c, lc.2 k) :: (k + 1 + (lc.1 - (k + 1)), lc.1) :: s.eqs }
            | none => matchT true q (x.t.inst [k]) { s with env := (i, .n (lc.2 k)) :: s.env, eqs := (k + 1 + (lc.1 - (k + 1)), lc.1) :: s.eqs }
            | _ => none)
          | _ => none)
        | false => none)
      | none => none)
    | none => none)
  | _ => none

theorem matchE_ok {H : List Ent} {nl : Nat} {p : PE} {s s' : MS} (h : matchE H nl p s = some s') : s.le s' ∧ ∀ σ e, s'.Fin σ e → fitEnt σ H (p.inst e) := by
  unfold matchE at h
  split at h
  · rename_i l hl
    split at h
    · rename_i x hx
      split at h
      · rename_i hc
        simp only [Bool.and_eq_true] at hc
        obtain ⟨c1, c2, c3, c4⟩ := hc
        obtain ⟨h1, h2⟩ := matchT_ok _ _ _ _ _ h
        refine ⟨h1, fun σ e hf => ?_⟩
        have hg := (hf.le h1).1 _ _ hl
        simp only [fitEnt, PE.inst, hg, hx, c1, c3, onB_true, fitTo, noFam_ok c2]
        exact h2 σ e hf [] fun _ => rfl
      · cases h
    · cases h
  · rename_i w hw
    split at h
    · rename_i hb
      split at h
      · rename_i i q hq
        split at h
        · rename_i h0
          simp only [Option.some.injEq] at h
          subst h
          refine ⟨MS.le_rfl _, fun σ e hf => ?_⟩
          have hg := hf.1 _ _ hw
          have hz : eN e i = 0 := by
            cases hv : eFind s.env i with
            | none => rw [hv] at h0; cases h0
            | some v =>
              rw [hv] at h0
              have := hf.2.1 _ _ hv
              cases v with
              | n k => cases k with
                | zero => simp only [eN, this]
                | succ k => cases h0
              | _ => cases h0
          simp only [fitEnt, PE.inst, hg, hb, onB_true, fitNil, hq, PT.inst, hz]
        · cases h
      · cases h
    · cases h
  · rename_i l sz cs hl
    split at h
    · rename_i x hx
      split at h
      · rename_i hc
        simp only [Bool.and_eq_true] at hc
        obtain ⟨c1, c2, c3, c4, c5, c6⟩ := hc
        split at h
        · rename_i i q m u hq hu
          split at h
          · rename_i hz
            split at h
            · rename_i k hk
              obtain ⟨h1, h2⟩ := matchT_ok _ _ _ _ _ h
              have h0 : s.le { s with eqs := (sum cs + k, m) :: s.eqs } := ⟨fun _ _ h => h, fun _ _ h => h, fun p hp => List.mem_cons_of_mem _ hp⟩
              refine ⟨h0.le_trans h1, fun σ e hf => ?_⟩
              have hg := (hf.le (h0.le_trans h1)).1 _ _ hl
              have hn : eN e i = k := by
                have := (hf.le (h0.le_trans h1)).2.1 _ _ hk
                simp only [eN, this]
              have he := (hf.le h1).2.2 (sum cs + k, m) (by simp)
              simp only [fitEnt, PE.inst, hg, hx, c1, c3, c4, c5, onB_true, noFam_ok c2, noFam, fitCut, hq, hu, PT.inst, hz, hn]
              refine ⟨he, ?_⟩
              have := h2 σ e hf [k] (fun hd => by cases hd)
              exact this
            · rename_i hk
              obtain ⟨h1, h2⟩ := matchT_ok _ _ _ _ _ h
              have h0 : s.le { s with env := (i, .n (m - sum cs)) :: s.env, eqs := (sum cs + (m - sum cs), m) :: s.eqs } := by
                refine ⟨fun _ _ h => h, fun j q hq => ?_, fun p hp => List.mem_cons_of_mem _ hp⟩
                simp only [eFind]
                by_cases hj : i = j
                · subst hj; rw [hk] at hq; cases hq
                · rw [beqF hj]; exact hq
              refine ⟨h0.le_trans h1, fun σ e hf => ?_⟩
              have hg := (hf.le (h0.le_trans h1)).1 _ _ hl
              have hn : eN e i = m - sum cs := by
                have := (hf.le h1).2.1 i (.n (m - sum cs)) (by simp only [eFind, beqT rfl])
                simp only [eN, this]
              have he := (hf.le h1).2.2 (sum cs + (m - sum cs), m) (by simp)
              simp only [fitEnt, PE.inst, hg, hx, c1, c3, c4, c5, onB_true, noFam_ok c2, noFam, fitCut, hq, hu, PT.inst, hz, hn]
              refine ⟨he, ?_⟩
              have := h2 σ e hf [m - sum cs] (fun hd => by cases hd)
              exact this
            · cases h
          · cases h
        · cases h
      · cases h
    · cases h
  · rename_i l k hl
    split at h
    · rename_i x hx
      split at h
      · rename_i lc hlc
        split at h
        · rename_i hc
          simp only [Bool.and_eq_true] at hc
          obtain ⟨c1, c2, c3⟩ := hc
          split at h
          · rename_i i q hq
            split at h
            · rename_i c hk
              obtain ⟨h1, h2⟩ := matchT_ok _ _ _ _ _ h
              have h0 : s.le { s with eqs := (c, lc.2 k) :: (k + 1 + (lc.1 - (k + 1)), lc.1) :: s.eqs } := ⟨fun _ _ h => h, fun _ _ h => h, fun p hp => List.mem_cons_of_mem _ (List.mem_cons_of_mem _ hp)⟩
              refine ⟨h0.le_trans h1, fun σ e hf => ?_⟩
              have hg := (hf.le (h0.le_trans h1)).1 _ _ hl
              have hn : eN e i = c := by
                have := (hf.le (h0.le_trans h1)).2.1 _ _ hk
                simp only [eN, this]
              have he1 := (hf.le h1).2.2 (c, lc.2 k) (by simp)
              have he2 := (hf.le h1).2.2 (k + 1 + (lc.1 - (k + 1)), lc.1) (by simp)
              simp only at he1 he2
              simp only [fitEnt, PE.inst, hg, hx, c1, c2, onB_true, noFam, fitMem, hlc, hq, PT.inst, hn]
              exact ⟨by omega, he1, h2 σ e hf [c] (fun hd => by cases hd)⟩
            · rename_i hk
              obtain ⟨h1, h2⟩ := matchT_ok _ _ _ _ _ h
              have h0 : s.le { s with env := (i, .n (lc.2 k)) :: s.env, eqs := (k + 1 + (lc.1 - (k + 1)), lc.1) :: s.eqs } := by
                refine ⟨fun _ _ h => h, fun j q hq => ?_, fun p hp => List.mem_cons_of_mem _ hp⟩
                simp only [eFind]
                by_cases hj : i = j
                · subst hj; rw [hk] at hq; cases hq
                · rw [beqF hj]; exact hq
              refine ⟨h0.le_trans h1, fun σ e hf => ?_⟩
              have hg := (hf.le (h0.le_trans h1)).1 _ _ hl
              have hn : eN e i = lc.2 k := by
                have := (hf.le h1).2.1 i (.n (lc.2 k)) (by simp only [eFind, beqT rfl])
                simp only [eN, this]
              have he2 := (hf.le h1).2.2 (k + 1 + (lc.1 - (k + 1)), lc.1) (by simp)
              simp only at he2
              simp only [fitEnt, PE.inst, hg, hx, c1, c2, onB_true, noFam, fitMem, hlc, hq, PT.inst, hn]
              exact ⟨by omega, trivial, h2 σ e hf [lc.2 k] (fun hd => by cases hd)⟩
            · cases h
          · cases h
        · cases h
      · cases h
    · cases h
  · cases h

def matchEs (H : List Ent) (nl : Nat) : List PE → MS → Option MS
  | [], s => some s
  | p :: r, s => match matchE H nl p s with | some s1 => matchEs H nl r s1 | none => none

theorem matchEs_ok {H : List Ent} {nl : Nat} : ∀ {ps : List PE} {s s' : MS}, matchEs H nl ps s = some s' → s.le s' ∧ ∀ σ e, s'.Fin σ e → ∀ p ∈ ps, fitEnt σ H (p.inst e)
  | [], s, s', h => by
    simp only [matchEs, Option.some.injEq] at h
    subst h
    exact ⟨MS.le_rfl _, fun _ _ _ p hp => by cases hp⟩
  | p :: r, s, s', h => by
    simp only [matchEs] at h
    split at h
    · rename_i s1 hs1
      obtain ⟨h1, h2⟩ := matchE_ok hs1
      obtain ⟨h3, h4⟩ := matchEs_ok h
      refine ⟨h1.le_trans h3, fun σ e hf q hq => ?_⟩
      rcases List.mem_cons.1 hq with rfl | hq
      · exact h2 σ e (hf.le h3)
      · exact h4 σ e hf q hq
    · cases h

structure PF where
  lab : Nat
  own : Bool
  wid : Nat
  cnt : Nat
  lens : Nat
  t : PT

def PF.inst (e : PEnv) (p : PF) : Ent := ⟨p.lab, p.own, some (eN e p.cnt, eL e p.lens), p.wid, p.t.inst e true⟩

def matchF (H : List Ent) (nl : Nat) (p : PF) (s : MS) : Option MS :=
  match sgFind s.sg p.lab with
  | some (.to l) => (match look H l with
    | some x => (match x.fam with
      | some lc => (match sameB p.own x.own && (widB p.wid x.wid && Nat.blt l nl) with
        | true => (match putN p.cnt lc.1 s with
          | some s1 => (match bindL p.lens (.l lc.2) s1 with
            | some s2 => matchT true p.t x.t s2
            | none => none)
          | none => none)
        | false => none)
      | none => none)
    | none => none)
  | some (.nil w) => (match Nat.beq p.wid w with
    | true => (match isN0 (eFind s.env p.cnt) with | true => some s | false => none)
    | false => none)
  | _ => none

theorem fitT_inst {σ : Sg} : ∀ (u t : Tr) (b : Nat) (bs : List Nat), fitT σ (b :: bs) u t → ∀ m, m < b → fitT σ bs (u.inst [m]) (t.inst [m]) := by
  intro u
  induction u with
  | vb f => intro t b bs h m hm; cases t <;> simp only [fitT, Tr.inst] at h ⊢ <;> exact h m hm
  | vi k f =>
    intro t b bs h m hm; cases t <;> simp only [fitT, Tr.inst] at h ⊢ <;> try exact h
    obtain ⟨h1, h2⟩ := onB_ok h
    rw [h1, onB_true]; exact h2 m hm
  | vs f => intro t b bs h m hm; cases t <;> simp only [fitT, Tr.inst] at h ⊢ <;> exact h m hm
  | vp lab mem path =>
    intro t b bs h m hm; cases t <;> simp only [fitT, Tr.inst] at h ⊢ <;> try exact h
    obtain ⟨h1, h2⟩ := onB_ok h
    rw [h1, onB_true]
    unfold fitP at *
    split at h2
    · obtain ⟨g1, g2⟩ := onB_ok h2
      rename_i hs
      simp only [g1, onB_true]; exact g2 m hm
    · obtain ⟨g1, g2⟩ := onB_ok h2
      rename_i hs
      simp only [g1, onB_true]; exact g2 m hm
    · exact h2.elim
  | vp0 => intro t b bs h m hm; cases t <;> simp only [fitT, Tr.inst] at h ⊢
  | vl lab mem sz cuts len =>
    intro t b bs h m hm; cases t <;> simp only [fitT, Tr.inst] at h ⊢ <;> try exact h
    · obtain ⟨h1, h2, h3⟩ := onB_ok h
      rw [h1, onB_true]
      refine ⟨?_, h3 m hm⟩
      unfold fitL at *
      split at h2
      · rename_i hs
        obtain ⟨g1, g2⟩ := onB_ok h2
        obtain ⟨g3, g4⟩ := cutsP_ok g2
        simp only [g1, onB_true]
        subst g3
        cases cuts with
        | nil => exact g4 m hm
        | cons a r => exact ⟨rfl, g4 m hm⟩
      · rename_i hs
        obtain ⟨g1, g2⟩ := onB_ok h2
        obtain ⟨g3, g4⟩ := cutsP_ok g2
        simp only [g1, onB_true]
        subst g3
        cases cuts with
        | nil => exact g4 m hm
        | cons a r => exact ⟨rfl, g4 m hm⟩
      · rename_i l1 s1 cs hs
        obtain ⟨g1, h2⟩ := onB_ok h2
        obtain ⟨g2, h2⟩ := onB_ok h2
        obtain ⟨g3, h2⟩ := onB_ok h2
        obtain ⟨g4, g5⟩ := cutsP_ok h2
        simp only [g1, g2, g3, onB_true]
        subst g4
        cases cs with
        | nil => exact g5 m hm
        | cons a r => exact ⟨rfl, g5 m hm⟩
      · exact h2.elim
    · obtain ⟨h1, h2⟩ := onB_ok h
      rw [h1, onB_true]; exact h2 m hm
  | va lab path sz st len cap => intro t b bs h m hm; cases t <;> simp only [fitT, Tr.inst] at h ⊢ <;> exact h
  | vl0 => intro t b bs h m hm; cases t <;> simp only [fitT, Tr.inst] at h ⊢
  | ve t' v ih =>
    intro t b bs h m hm; cases t <;> simp only [fitT, Tr.inst] at h ⊢ <;> try exact h
    · obtain ⟨h1, h2⟩ := onB_ok h
      rw [h1, onB_true]; exact ih _ _ _ h2 m hm
    · obtain ⟨h1, h2⟩ := onB_ok h
      rw [h1, onB_true]
      clear ih h
      cases v with
      | vp l mm p =>
        simp only [fitVX, Tr.inst] at h2 ⊢
        obtain ⟨h3, h4⟩ := onB_ok h2
        rw [h3, onB_true]
        exact h4 m hm
      | _ => exact h2.elim
  | vx t' ls f =>
    intro t b bs h m hm; cases t <;> simp only [fitT, Tr.inst] at h ⊢ <;> try exact h
    · rename_i t2 v2
      obtain ⟨h1, h2⟩ := onB_ok h
      rw [h1, onB_true]
      unfold fitXV at h2
      split at h2
      · obtain ⟨h3, h4⟩ := onB_ok h2
        simp only [Tr.inst, fitXV, h3, onB_true]
        exact h4 m hm
      · exact h2.elim
    · exact h m hm
    · obtain ⟨h1, h2⟩ := onB_ok h
      obtain ⟨h3, h4⟩ := onB_ok h2
      rw [h1, onB_true, h3, onB_true]
      exact h4 m hm
  | vc t' v ih =>
    intro t b bs h m hm; cases t <;> simp only [fitT, Tr.inst] at h ⊢ <;> try exact h
    obtain ⟨h1, h2⟩ := onB_ok h
    rw [h1, onB_true]; exact ih _ _ _ h2 m hm
  | ve0 => intro t b bs h m hm; cases t <;> simp only [fitT, Tr.inst] at h ⊢ <;> try exact h m hm
  | vr v => intro t b bs h m hm; cases t <;> simp only [fitT, Tr.inst] at h ⊢ <;> exact h
  | t0 => intro t b bs h m hm; cases t <;> simp only [fitT, Tr.inst] at h ⊢
  | tc a c iha ihc =>
    intro t b bs h m hm
    cases t with
    | tc d e =>
      have h := fitT_tc h
      exact fit_tc (iha _ _ _ h.1 m hm) (ihc _ _ _ h.2 m hm)
    | _ => cases c <;> exact h.elim
  | ta n t' ih =>
    intro t b bs h m hm; cases t <;> simp only [fitT, Tr.inst] at h ⊢ <;> try exact h
    exact ⟨h.1, ih _ _ _ h.2 m hm⟩

theorem matchF_ok {H : List Ent} {nl : Nat} {p : PF} {s s' : MS} (h : matchF H nl p s = some s') : s.le s' ∧ ∀ σ e, s'.Fin σ e → fitEnt σ H (p.inst e) := by
  unfold matchF at h
  split at h
  · rename_i l hl
    split at h
    · rename_i x hx
      split at h
      · rename_i lc hlc
        split at h
        · rename_i hc
          simp only [Bool.and_eq_true] at hc
          obtain ⟨c1, c3, c4⟩ := hc
          split at h
          · rename_i s1 hs1
            split at h
            · rename_i s2 hs2
              obtain ⟨a1, a2⟩ := putN_ok hs1
              obtain ⟨b1, b2⟩ := bindL_ok hs2
              obtain ⟨h1, h2⟩ := matchT_ok _ _ _ _ _ h
              refine ⟨a1.le_trans (b1.le_trans h1), fun σ e hf => ?_⟩
              have hg := (hf.le (a1.le_trans (b1.le_trans h1))).1 _ _ hl
              have e1 := a2 σ e (hf.le (b1.le_trans h1))
              have e2 := (hf.le h1).2.1 _ _ b2
              simp only [fitEnt, PF.inst, hg, hx, c1, c3, onB_true, fitTo, hlc, e1, eL, e2, true_and]
              exact fun m hm => fitT_inst _ _ lc.1 [lc.2 m] (h2 σ e hf [lc.1, lc.2 m] (fun hd => by cases hd)) m hm
            · cases h
          · cases h
        · cases h
      · cases h
    · cases h
  · rename_i w hw
    split at h
    · rename_i hb
      split at h
      · rename_i h0
        simp only [Option.some.injEq] at h
        subst h
        refine ⟨MS.le_rfl _, fun σ e hf => ?_⟩
        have hg := hf.1 _ _ hw
        have hz : eN e p.cnt = 0 := by
          cases hv : eFind s.env p.cnt with
          | none => rw [hv] at h0; cases h0
          | some v =>
            rw [hv] at h0
            have := hf.2.1 _ _ hv
            cases v with
            | n k => cases k with
              | zero => simp only [eN, this]
              | succ k => cases h0
            | _ => cases h0
        simp only [fitEnt, PF.inst, hg, hb, onB_true, fitNil, hz]
      · cases h
    · cases h
  · cases h

def matchFs (H : List Ent) (nl : Nat) : List PF → MS → Option MS
  | [], s => some s
  | p :: r, s => match matchF H nl p s with | some s1 => matchFs H nl r s1 | none => none

theorem matchFs_ok {H : List Ent} {nl : Nat} : ∀ {ps : List PF} {s s' : MS}, matchFs H nl ps s = some s' → s.le s' ∧ ∀ σ e, s'.Fin σ e → ∀ p ∈ ps, fitEnt σ H (p.inst e)
  | [], s, s', h => by
    simp only [matchFs, Option.some.injEq] at h
    subst h
    exact ⟨MS.le_rfl _, fun _ _ _ p hp => by cases hp⟩
  | p :: r, s, s', h => by
    simp only [matchFs] at h
    split at h
    · rename_i s1 hs1
      obtain ⟨h1, h2⟩ := matchF_ok hs1
      obtain ⟨h3, h4⟩ := matchFs_ok h
      refine ⟨h1.le_trans h3, fun σ e hf q hq => ?_⟩
      rcases List.mem_cons.1 hq with rfl | hq
      · exact h2 σ e (hf.le h3)
      · exact h4 σ e hf q hq
    · cases h

def matchG (H : List Ent) (p : PE) (s : MS) : Option MS :=
  match look H p.lab with
  | some x => (match sameB p.own x.own && (noFam x.fam && widB p.wid x.wid) with | true => matchT false p.t x.t s | false => none)
  | none => none

theorem matchG_ok {H : List Ent} {p : PE} {s s' : MS} (h : matchG H p s = some s') : s.le s' ∧ ∀ σ e, s'.Fin σ e → sgOf σ p.lab = .to p.lab → fitEnt σ H (p.inst e) := by
  unfold matchG at h
  split at h
  · rename_i x hx
    split at h
    · rename_i hc
      simp only [Bool.and_eq_true] at hc
      obtain ⟨c1, c2, c3⟩ := hc
      obtain ⟨h1, h2⟩ := matchT_ok _ _ _ _ _ h
      refine ⟨h1, fun σ e hf hg => ?_⟩
      simp only [fitEnt, PE.inst, hg, hx, c1, c3, onB_true, fitTo, noFam_ok c2]
      exact h2 σ e hf [] fun _ => rfl
    · cases h
  · cases h

def matchGs (H : List Ent) : List PE → MS → Option MS
  | [], s => some s
  | p :: r, s => match matchG H p s with | some s1 => matchGs H r s1 | none => none

theorem matchGs_ok {H : List Ent} : ∀ {ps : List PE} {s s' : MS}, matchGs H ps s = some s' → s.le s' ∧ ∀ σ e, s'.Fin σ e → (∀ p ∈ ps, sgOf σ p.lab = .to p.lab) → ∀ p ∈ ps, fitEnt σ H (p.inst e)
  | [], s, s', h => by
    simp only [matchGs, Option.some.injEq] at h
    subst h
    exact ⟨MS.le_rfl _, fun σ e _ _ p hp => by cases hp⟩
  | p :: r, s, s', h => by
    simp only [matchGs] at h
    split at h
    · rename_i s1 h1
      obtain ⟨a1, a2⟩ := matchG_ok h1
      obtain ⟨b1, b2⟩ := matchGs_ok h
      refine ⟨a1.le_trans b1, fun σ e hf hl q hq => ?_⟩
      rcases List.mem_cons.1 hq with rfl | hq
      · exact a2 σ e (hf.le b1) (hl _ (by simp))
      · exact b2 σ e hf (fun x hx => hl x (List.mem_cons_of_mem _ hx)) q hq
    · cases h

def tabsLow (G : Nat) : List PE → Bool
  | [] => true
  | p :: r => Nat.blt p.lab G && tabsLow G r

theorem tabsLow_ok {G : Nat} : ∀ {ps : List PE}, tabsLow G ps = true → ∀ p ∈ ps, p.lab < G
  | q :: r, h, p, hp => by
    simp only [tabsLow, Bool.and_eq_true, Nat.blt_eq] at h
    rcases List.mem_cons.1 hp with rfl | hp
    · exact h.1
    · exact tabsLow_ok h.2 p hp

structure PC where
  args : List PA
  heap : List PE
  fams : List PF := []
  tabs : List PE := []
  gs : List Nat
  G : Nat
  tp : Nat
  n : Nat
  n' : Nat
  cond : PEnv → Bool
  v : PEnv → SV
  post : PEnv → List Ent

def PC.pre (c : PC) (e : PEnv) (H : List Ent) : List Ent := sentEnts c.G c.tp (textsIn c.G H c.gs) ++ (c.heap.map (PE.inst e) ++ (c.fams.map (PF.inst e) ++ c.tabs.map (PE.inst e)))
def PC.cargs (c : PC) (e : PEnv) : List SV := c.args.map (PA.inst e)

def needAll : List (Nat × Nat) → M Unit
  | [] => pure ()
  | (a, b) :: r => do
    need (Nat.beq a b)
    needAll r

def PC.summ (c : PC) (gt : Nat) : Summ := fun args H => do
  let nl ← nlOf
  let s0 ← opt (matchAs c.args args ⟨[], [], []⟩)
  let s1 ← opt (matchEs H nl c.heap s0)
  let s2 ← opt (matchFs H nl c.fams s1)
  let s ← opt (matchGs H c.tabs s2)
  chk (tabsLow c.G c.tabs)
  chk (errsIn c.G c.tp H c.gs)
  needAll s.eqs
  need (c.cond s.env)
  chk (entsBelow c.n (c.pre s.env H))
  chk (nodupB ((c.post s.env).map (·.lab)))
  chk (sepH s.sg (c.pre s.env H))
  chk (keysGe gt s.sg)
  chk (keysGe (c.G + c.G) s.sg)
  chk (okEnts s.sg c.n c.n' nl (ownOf (c.post s.env)))
  chk (okLabs s.sg c.n c.n' nl (c.v s.env).labs)
  chk (stayTo s.sg (ownOf (c.post s.env)) (ownOf (c.pre s.env H)))
  bump (c.n' - c.n)
  pure (effC s.sg (c.pre s.env H) (c.post s.env) c.n nl (c.v s.env))

theorem needAll_ok : ∀ {l : List (Nat × Nat)} {x y : Aux} {u : Unit} {d : Conds}, needAll l x = .ok u d y → OkL d → y.nl = x.nl ∧ ∀ p ∈ l, p.1 = p.2
  | [], x, y, u, d, h, hd => by
    obtain ⟨rfl, rfl, rfl⟩ := pure_ok h
    exact ⟨rfl, fun p hp => by cases hp⟩
  | (a, b) :: r, x, y, u, d, h, hd => by
    simp only [needAll] at h
    obtain ⟨_, c1, y1, c2, h1, h2, rfl⟩ := bind_ok h
    simp only [OkL_append] at hd
    obtain ⟨g1, g2⟩ := need_ok h1
    obtain ⟨g3, g4⟩ := needAll_ok h2 hd.2
    refine ⟨by rw [g3, g2], fun p hp => ?_⟩
    rcases List.mem_cons.1 hp with rfl | hp
    · exact Nat.eq_of_beq_eq_true (g1 hd.1)
    · exact g4 p hp

theorem fitEnt_part {σ : Sg} {H : List Ent} {e : Ent} {ls : List Nat} (h : fitEnt σ H e) (hs : ∀ l, srcL σ e.lab = some l → l ∈ ls) : fitEnt σ (partL H ls) e := by
  unfold fitEnt at *
  unfold srcL at hs
  cases hg : sgOf σ e.lab with
  | to l =>
    simp only [hg] at h hs ⊢
    rw [look_partL, if_pos (hs l rfl)]; exact h
  | nil w => simp only [hg] at h ⊢; exact h
  | cut l sz cs =>
    simp only [hg] at h hs ⊢
    rw [look_partL, if_pos (hs l rfl)]; exact h
  | mem l k =>
    simp only [hg] at h hs ⊢
    rw [look_partL, if_pos (hs l rfl)]; exact h

theorem fitEs_of {σ : Sg} {H : List Ent} : ∀ {l : List Ent}, (∀ e ∈ l, fitEnt σ H e) → fitEs σ H l
  | [], _ => trivial
  | e :: r, h => fitEs_cons (h e (by simp)) (fitEs_of fun x hx => h x (List.mem_cons_of_mem _ hx))

theorem fitEnt_low {σ : Sg} {H : List Ent} {e : Ent} (h : fitEnt [] H e) (h1 : sgOf σ e.lab = .to e.lab) (h2 : ∀ x, fitTo [] e x → fitTo σ e x) : fitEnt σ H e := by
  unfold fitEnt at *
  simp only [h1]
  simp only [sgOf] at h
  cases hx : look H e.lab with
  | none => simp only [hx] at h
  | some x =>
    simp only [hx] at h ⊢
    obtain ⟨a, h⟩ := onB_ok h
    obtain ⟨b, h⟩ := onB_ok h
    rw [a, b, onB_true, onB_true]
    exact h2 x h

theorem sent_fit {G tp : Nat} {σ : Sg} {H H0 : List Ent} (hk : ∀ l, l < G + G → sgOf σ l = .to l) : ∀ {gs : List Nat}, errsIn G tp H gs = true → (∀ g ∈ gs, g < G) → (∀ g ∈ gs, look H0 g = look H g ∧ look H0 (G + g) = look H (G + g)) →
    ∀ e ∈ sentEnts G tp (textsIn G H gs), fitEnt σ H0 e := by
  intro gs
  induction gs with
  | nil => intro _ _ _ e he; cases he
  | cons g r ih =>
    intro h hlt hl e he
    simp only [errsIn] at h
    split at h
    · rename_i a b ha hb
      split at h
      · rename_i h1
        split at h
        · rename_i h2
          obtain ⟨l1, l2⟩ := hl g (by simp)
          have hg := hlt g (by simp)
          simp only [textsIn, sentEnts, List.mem_cons] at he
          rcases he with rfl | rfl | he
          · refine fitEnt_low (isVar_fit h1 (l1.trans ha)) (hk _ (by simp only; omega)) (fun x hx => ?_)
            unfold fitTo at *
            cases hf : x.fam with
            | none =>
              simp only [hf] at hx ⊢
              cases hxt : x.t with
              | ve t v =>
                rw [hxt] at hx
                simp only [fitT] at hx ⊢
                obtain ⟨q1, hx⟩ := onB_ok hx
                rw [q1, onB_true]
                cases v with
                | vp l m p =>
                  simp only [fitT] at hx ⊢
                  obtain ⟨q2, hx⟩ := onB_ok hx
                  rw [q2, onB_true]
                  simp only [fitP, sgOf] at hx
                  simp only [fitP, hk (G + g) (by omega)]
                  exact hx
                | _ => exact hx.elim
              | vx t ls f =>
                rw [hxt] at hx
                simp only [fitT] at hx ⊢
                obtain ⟨q1, q2⟩ := onB_ok hx
                rw [q1, onB_true]
                simp only [fitVX] at q2 ⊢
                obtain ⟨q3, q4⟩ := onB_ok q2
                rw [q3, onB_true]
                simp only [allB] at q4 ⊢
                refine ⟨q4.1, ?_⟩
                have q5 := q4.2
                cases hn : nthL ls (f []) with
                | none => rw [hn] at q5; cases q5
                | some b => rw [hn] at q5; simp only [atO', sgOf] at q5; simp only [atO', hk (G + g) (by omega)]; exact q5
              | _ => rw [hxt] at hx; exact hx.elim
            | some lc => simp only [hf] at hx
          · rw [hb]
            refine fitEnt_low (isObj_fit h2 (l2.trans hb)) (hk _ (by simp only; omega)) (fun x hx => ?_)
            unfold fitTo at *
            cases hf : x.fam with
            | none =>
              simp only [hf] at hx ⊢
              cases hxt : x.t with
              | tc u v =>
                rw [hxt] at hx
                cases v with
                | t0 => cases u <;> first | exact hx | exact hx.elim
                | _ => exact hx.2.elim
              | _ => rw [hxt] at hx; exact hx.elim
            | some lc => simp only [hf] at hx
          · exact ih h (fun q hq => hlt q (List.mem_cons_of_mem _ hq)) (fun q hq => hl q (List.mem_cons_of_mem _ hq)) e he
        · cases h
      · cases h
    · cases h

end Go.Sx
