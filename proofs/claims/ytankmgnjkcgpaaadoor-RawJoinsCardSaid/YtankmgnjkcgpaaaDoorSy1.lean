/- The engine, part 1: trees of cells, how they read, how a part of them is got and set. -/
import Derived.WalkKit
set_option linter.unusedSimpArgs false
set_option linter.unusedVariables false
namespace Go.Sx

abbrev Ix := List Nat

inductive Stp where
  | f (o k : Nat)
  | x (sz i : Nat)

def Stp.off : Stp → Nat
  | .f o _ => o
  | .x sz i => i * sz

def offs : List Stp → Nat
  | [] => 0
  | s :: r => s.off + offs r

theorem offs_append (p q : List Stp) : offs (p ++ q) = offs p + offs q := by
  induction p with
  | nil => simp [offs]
  | cons s r ih => simp [offs, ih, Nat.add_assoc]

structure Loc where
  blk : Nat
  base : Nat
  room : Nat
  wid : Nat
  isNil : Bool
  adr : Option Addr
  thw : Bool

abbrev Con := Nat → Nat → Loc

inductive Tr where
  | vb (f : Ix → Bool)
  | vi (k : IntKind) (f : Ix → Int)
  | vs (f : Ix → List UInt8)
  | vp (lab : Nat) (mem : Ix → Nat) (path : List Stp)
  | vp0
  | vl (lab : Nat) (mem : Ix → Nat) (sz : Nat) (cuts : List Nat) (len : Ix → Nat)
  | va (lab : Nat) (path : List Stp) (sz st len cap : Nat)
  | vl0
  | ve (t : Nat) (v : Tr)
  | ve0
  | vc (f : FuncId) (v : Tr)
    | vx (t : Nat) (ls : List Nat) (f : Ix → Nat)
  | vr (v : Value)
  | t0
  | tc (h t : Tr)
  | ta (n : Nat) (t : Tr)

def nthL : List Nat → Nat → Option Nat
  | [], _ => none
  | a :: _, 0 => some a
  | _ :: r, n + 1 => nthL r n

def rsOf (room : Nat) : List Nat → Nat → Nat
  | [], _ => 0
  | l :: r, st => (if room - st = l then 0 else l) + rsOf room r (st + l)

def sum : List Nat → Nat
  | [] => 0
  | l :: r => l + sum r

theorem rsOf_sum (room : Nat) : ∀ (cuts : List Nat) (st : Nat), st + sum cuts < room → rsOf room cuts st = sum cuts
  | [], _, _ => rfl
  | l :: r, st, h => by
    simp only [sum] at h
    have := rsOf_sum room r (st + l) (by omega)
    simp only [rsOf, sum, this]
    rw [if_neg (by omega)]

def Tr.val (ρ : Con) : Tr → Ix → Value
  | .vb f, is => .bool (f is)
  | .vi k f, is => .int k (f is)
  | .vs f, is => .string ⟨(f is).toArray⟩
  | .vp lab mem path, is => .pointer (some ⟨(ρ lab (mem is)).blk, (ρ lab (mem is)).base + offs path, none⟩)
  | .vp0, _ => .pointer none
  | .vl lab mem sz cuts len, is =>
    if (ρ lab (mem is)).isNil then .slice (ρ lab (mem is)).adr (len is) 0
    else .slice (some ⟨(ρ lab (mem is)).blk, (ρ lab (mem is)).base + rsOf (ρ lab (mem is)).room cuts 0 * sz, none⟩) (len is) ((ρ lab (mem is)).room - sum cuts)
  | .va lab path sz st len cap, _ => .slice (some ⟨(ρ lab 0).blk, (ρ lab 0).base + offs path + st * sz, none⟩) len cap
  | .vl0, _ => .slice none 0 0
  | .ve t v, is => .iface t (v.val ρ is)
  | .ve0, _ => .nilIface
  | .vc f v, is => .func (.func f) #[] #[v.val ρ is]
  | .vx t ls f, is => match nthL ls (f is) with | some l => .iface t (.pointer (some ⟨(ρ l 0).blk, (ρ l 0).base, none⟩)) | none => .nilIface
  | .vr v, _ => v
  | .t0, _ => undef
  | .tc _ _, _ => undef
  | .ta _ _, _ => undef

def Tr.leaf : Tr → Bool
  | .t0 | .tc _ _ | .ta _ _ => false
  | _ => true

def Tr.cells (ρ : Con) : Tr → Ix → List Value
  | .t0, _ => []
  | .tc h t, is => h.cells ρ is ++ t.cells ρ is
  | .ta n t, is => (List.range n).flatMap fun i => t.cells ρ (is ++ [i])
  | t, is => [t.val ρ is]

def Tr.size : Tr → Nat
  | .t0 => 0
  | .tc h t => h.size + t.size
  | .ta n t => n * t.size
  | _ => 1

theorem flatMap_congr {α β : Type} {l : List α} {f g : α → List β} (h : ∀ x ∈ l, f x = g x) : l.flatMap f = l.flatMap g := by
  induction l with
  | nil => rfl
  | cons x r ih => simp only [List.flatMap_cons]; rw [h x (by simp), ih (fun y hy => h y (by simp [hy]))]

theorem range_split (n i : Nat) (h : i < n) : List.range n = List.range i ++ i :: List.range' (i + 1) (n - (i + 1)) := by
  have e1 : List.range n = List.range' 0 i ++ List.range' (0 + i) (n - i) := by
    rw [List.range_eq_range', List.range'_append_1]; congr 1; omega
  obtain ⟨d, hd⟩ : ∃ d, n - i = d + 1 := ⟨n - i - 1, by omega⟩
  have e2 : n - (i + 1) = d := by omega
  rw [e1, hd, List.range'_succ, e2, List.range_eq_range', Nat.zero_add]

theorem flatMap_length {α β : Type} (l : List α) (g : α → List β) (m : Nat) (h : ∀ x ∈ l, (g x).length = m) : (l.flatMap g).length = l.length * m := by
  induction l with
  | nil => simp
  | cons x r ih =>
    simp only [List.flatMap_cons, List.length_append, List.length_cons]
    rw [h x (by simp), ih (fun y hy => h y (by simp [hy]))]
    rw [Nat.succ_mul, Nat.add_comm]

theorem Tr.cells_leaf (ρ : Con) {t : Tr} (h : t.leaf = true) (is : Ix) : t.cells ρ is = [t.val ρ is] := by
  cases t <;> first | rfl | (simp [Tr.leaf] at h)

theorem Tr.cells_length (ρ : Con) : ∀ (t : Tr) (is : Ix), (t.cells ρ is).length = t.size
  | .t0, _ => rfl
  | .tc h t, is => by simp only [Tr.cells, Tr.size, List.length_append, cells_length ρ h, cells_length ρ t]
  | .ta n t, is => by
    simp only [Tr.cells, Tr.size]
    rw [flatMap_length _ _ t.size (fun i _ => cells_length ρ t _)]
    simp
  | .vb _, _ => rfl
  | .vi _ _, _ => rfl
  | .vs _, _ => rfl
  | .vp _ _ _, _ => rfl
  | .vp0, _ => rfl
  | .vl _ _ _ _ _, _ => rfl
  | .va _ _ _ _ _ _, _ => rfl
  | .vl0, _ => rfl
  | .ve _ _, _ => rfl
  | .vc _ _, _ => rfl
  | .vx _ _ _, _ => rfl
  | .ve0, _ => rfl
  | .vr _, _ => rfl

theorem flatMap_range_split {β : Type} (n i : Nat) (h : i < n) (g : Nat → List β) (m : Nat) (hm : ∀ x, (g x).length = m) :
    ∃ pre post, (List.range n).flatMap g = pre ++ g i ++ post ∧ pre.length = i * m ∧
      ∀ g' : Nat → List β, (∀ x, x ≠ i → g' x = g x) → (List.range n).flatMap g' = pre ++ g' i ++ post := by
  refine ⟨(List.range i).flatMap g, (List.range' (i + 1) (n - (i + 1))).flatMap g, ?_, ?_, ?_⟩
  · rw [range_split n i h]; simp
  · rw [flatMap_length _ _ m (fun x _ => hm x)]; simp
  · intro g' hg
    rw [range_split n i h]
    simp only [List.flatMap_append, List.flatMap_cons]
    have e1 : (List.range i).flatMap g' = (List.range i).flatMap g := by
      apply flatMap_congr; intro x hx; exact hg x (by simp at hx; omega)
    have e2 : (List.range' (i + 1) (n - (i + 1))).flatMap g' = (List.range' (i + 1) (n - (i + 1))).flatMap g := by
      apply flatMap_congr; intro x hx; exact hg x (by simp [List.mem_range'_1] at hx; omega)
    rw [e1, e2]; simp

def Tr.fld : Tr → Nat → Option (Nat × Tr)
  | .tc h _, 0 => some (0, h)
  | .tc h t, k + 1 => match t.fld k with | some (o, u) => some (h.size + o, u) | none => none
  | _, _ => none

def Tr.get : List Stp → Tr → Ix → Option (Tr × Ix × List (Nat × Nat))
  | [], t, is => some (t, is, [])
  | .f o k :: r, t, is =>
    match t.fld k with
    | some (o', u) => if Nat.beq o o' then Tr.get r u is else none
    | none => none
  | .x sz i :: r, .ta n t, is =>
    if Nat.beq sz t.size then
      match Tr.get r t (is ++ [i]) with
      | some (u, js, cs) => some (u, js, (i, n) :: cs)
      | none => none
    else none
  | .x sz i :: r, .tc h t, is =>
    match (Tr.tc h t).fld i with
    | some (o', u) => if Nat.beq (i * sz) o' then Tr.get r u is else none
    | none => none
  | .x _ _ :: _, _, _ => none

theorem Tr.fld_cells (ρ : Con) : ∀ (t : Tr) (k o : Nat) (u : Tr), t.fld k = some (o, u) → ∀ is, ∃ pre post, t.cells ρ is = pre ++ u.cells ρ is ++ post ∧ pre.length = o
  | .tc h t, 0, o, u, e, is => by
    simp only [Tr.fld, Option.some.injEq, Prod.mk.injEq] at e
    obtain ⟨rfl, rfl⟩ := e
    exact ⟨[], t.cells ρ is, by simp [Tr.cells], rfl⟩
  | .tc h t, k + 1, o, u, e, is => by
    simp only [Tr.fld] at e
    cases h' : t.fld k with
    | none => simp [h'] at e
    | some q =>
      obtain ⟨o', u'⟩ := q
      simp only [h', Option.some.injEq, Prod.mk.injEq] at e
      obtain ⟨rfl, rfl⟩ := e
      obtain ⟨pre, post, h1, h2⟩ := fld_cells ρ t k o' u' h' is
      exact ⟨h.cells ρ is ++ pre, post, by simp [Tr.cells, h1], by simp [Tr.cells_length, h2]⟩
  | .t0, _, _, _, e, _ => by simp [Tr.fld] at e
  | .ta _ _, _, _, _, e, _ => by simp [Tr.fld] at e
  | .vb _, _, _, _, e, _ => by simp [Tr.fld] at e
  | .vi _ _, _, _, _, e, _ => by simp [Tr.fld] at e
  | .vs _, _, _, _, e, _ => by simp [Tr.fld] at e
  | .vp _ _ _, _, _, _, e, _ => by simp [Tr.fld] at e
  | .vp0, _, _, _, e, _ => by simp [Tr.fld] at e
  | .vl _ _ _ _ _, _, _, _, e, _ => by simp [Tr.fld] at e
  | .va _ _ _ _ _ _, _, _, _, e, _ => by simp [Tr.fld] at e
  | .vl0, _, _, _, e, _ => by simp [Tr.fld] at e
  | .ve _ _, _, _, _, e, _ => by simp [Tr.fld] at e
  | .vc _ _, _, _, _, e, _ => by simp [Tr.fld] at e
  | .vx _ _ _, _, _, _, e, _ => by simp [Tr.fld] at e
  | .ve0, _, _, _, e, _ => by simp [Tr.fld] at e
  | .vr _, _, _, _, e, _ => by simp [Tr.fld] at e

theorem Tr.get_cells (ρ : Con) : ∀ (path : List Stp) (t : Tr) (is : Ix) (u : Tr) (js : Ix) (cs : List (Nat × Nat)),
    Tr.get path t is = some (u, js, cs) → (∀ c ∈ cs, c.1 < c.2) →
    ∃ pre post, t.cells ρ is = pre ++ u.cells ρ js ++ post ∧ pre.length = offs path
  | [], t, is, u, js, cs, e, _ => by
    simp only [Tr.get, Option.some.injEq, Prod.mk.injEq] at e
    obtain ⟨rfl, rfl, rfl⟩ := e
    exact ⟨[], [], by simp, rfl⟩
  | .f o k :: r, t, is, u, js, cs, e, hc => by
    simp only [Tr.get] at e
    split at e
    · rename_i o' u' hf
      split at e
      · rename_i ho
        have ho := Nat.eq_of_beq_eq_true ho
        subst ho
        obtain ⟨pre, post, h1, h2⟩ := Tr.fld_cells ρ t k o u' hf is
        obtain ⟨pre', post', h3, h4⟩ := get_cells ρ r u' is u js cs e hc
        exact ⟨pre ++ pre', post' ++ post, by simp [h1, h3], by simp [h2, h4, offs, Stp.off]⟩
      · simp at e
    · simp at e
  | .x sz i :: r, .ta n t, is, u, js, cs, e, hc => by
    simp only [Tr.get] at e
    split at e
    · rename_i ho
      have ho := Nat.eq_of_beq_eq_true ho
      subst ho
      split at e
      · rename_i u' js' cs' hg
        simp only [Option.some.injEq, Prod.mk.injEq] at e
        obtain ⟨rfl, rfl, rfl⟩ := e
        obtain ⟨pre', post', h3, h4⟩ := get_cells ρ r t (is ++ [i]) _ _ _ hg (fun c h => hc c (by simp [h]))
        obtain ⟨pre, post, h1, h2, _⟩ := flatMap_range_split n i (hc (i, n) (by simp)) (fun i => t.cells ρ (is ++ [i])) t.size (fun x => Tr.cells_length ρ t _)
        exact ⟨pre ++ pre', post' ++ post, by simp [Tr.cells, h1, h3], by simp [h2, h4, offs, Stp.off]⟩
      · simp at e
    · simp at e
  | .x sz i :: r, .t0, is, u, js, cs, e, hc => by simp [Tr.get] at e
  | .x sz i :: r, .tc a b, is, u, js, cs, e, hc => by
    simp only [Tr.get] at e
    split at e
    · rename_i o' u' hf
      split at e
      · rename_i ho
        have ho := Nat.eq_of_beq_eq_true ho
        subst ho
        obtain ⟨pre, post, h1, h2⟩ := Tr.fld_cells ρ (.tc a b) i _ u' hf is
        obtain ⟨pre', post', h3, h4⟩ := get_cells ρ r u' is u js cs e hc
        exact ⟨pre ++ pre', post' ++ post, by simp [h1, h3], by simp [h2, h4, offs, Stp.off]⟩
      · simp at e
    · simp at e
  | .x sz i :: r, .vb _, is, u, js, cs, e, hc => by simp [Tr.get] at e
  | .x sz i :: r, .vi _ _, is, u, js, cs, e, hc => by simp [Tr.get] at e
  | .x sz i :: r, .vs _, is, u, js, cs, e, hc => by simp [Tr.get] at e
  | .x sz i :: r, .vp _ _ _, is, u, js, cs, e, hc => by simp [Tr.get] at e
  | .x sz i :: r, .vp0, is, u, js, cs, e, hc => by simp [Tr.get] at e
  | .x sz i :: r, .vl _ _ _ _ _, is, u, js, cs, e, hc => by simp [Tr.get] at e
  | .x sz i :: r, .va _ _ _ _ _ _, is, u, js, cs, e, hc => by simp [Tr.get] at e
  | .x sz i :: r, .vl0, is, u, js, cs, e, hc => by simp [Tr.get] at e
  | .x sz i :: r, .ve _ _, is, u, js, cs, e, hc => by simp [Tr.get] at e
  | .x sz i :: r, .vc _ _, is, u, js, cs, e, hc => by simp [Tr.get] at e
  | .x sz i :: r, .vx _ _ _, is, u, js, cs, e, hc => by simp [Tr.get] at e
  | .x sz i :: r, .ve0, is, u, js, cs, e, hc => by simp [Tr.get] at e
  | .x sz i :: r, .vr _, is, u, js, cs, e, hc => by simp [Tr.get] at e

def upd {α : Type} (f : Ix → α) (is : Ix) (v : α) : Ix → α := fun js => if js = is then v else f js

def Tr.mix (js : Ix) : Tr → Tr → Option Tr
  | .vb f, .vb g => some (.vb (upd f js (g [])))
  | .vi k f, .vi k' g => if k = k' then some (.vi k (upd f js (g []))) else none
  | .vs f, .vs g => some (.vs (upd f js (g [])))
  | .vl lab mem sz cuts len, .vl lab' mem' sz' cuts' len' =>
    if Nat.beq lab lab' && Nat.beq sz sz' && cuts.isEmpty && cuts'.isEmpty then some (.vl lab (upd mem js (mem' [])) sz [] (upd len js (len' []))) else none
  | .t0, .t0 => some .t0
  | .tc h t, .tc h' t' =>
    match Tr.mix js h h', Tr.mix js t t' with
    | some a, some b => some (.tc a b)
    | _, _ => none
  | _, _ => none

theorem upd_same {α : Type} (f : Ix → α) (is : Ix) (v : α) : upd f is v is = v := by simp [upd]
theorem upd_other {α : Type} (f : Ix → α) {is js : Ix} (v : α) (h : js ≠ is) : upd f is v js = f js := by simp [upd, h]

theorem Tr.mix_cells (ρ : Con) (js : Ix) : ∀ (u u' v : Tr), Tr.mix js u u' = some v →
    v.cells ρ js = u'.cells ρ [] ∧ v.size = u.size ∧ ∀ ks, ks ≠ js → v.cells ρ ks = u.cells ρ ks := by
  intro u
  induction u with
  | vb f => intro u' v h; cases u' <;> simp [Tr.mix] at h; subst h; exact ⟨by simp [Tr.cells, Tr.val, upd_same], rfl, fun ks hk => by simp [Tr.cells, Tr.val, upd_other _ _ hk]⟩
  | vi k f =>
    intro u' v h; cases u' <;> simp [Tr.mix] at h
    obtain ⟨rfl, h⟩ := h; subst h
    exact ⟨by simp [Tr.cells, Tr.val, upd_same], rfl, fun ks hk => by simp [Tr.cells, Tr.val, upd_other _ _ hk]⟩
  | vs f => intro u' v h; cases u' <;> simp [Tr.mix] at h; subst h; exact ⟨by simp [Tr.cells, Tr.val, upd_same], rfl, fun ks hk => by simp [Tr.cells, Tr.val, upd_other _ _ hk]⟩
  | vl lab mem sz cuts len =>
    intro u' v h; cases u' <;> simp [Tr.mix] at h
    obtain ⟨⟨⟨⟨h1, h2⟩, rfl⟩, rfl⟩, h⟩ := h
    subst h1; subst h2; subst h
    exact ⟨by simp [Tr.cells, Tr.val, upd_same], rfl, fun ks hk => by simp [Tr.cells, Tr.val, upd_other _ _ hk]⟩
  | t0 => intro u' v h; cases u' <;> simp [Tr.mix] at h; subst h; exact ⟨rfl, rfl, fun _ _ => rfl⟩
  | tc a b iha ihb =>
    intro u' v h; cases u' <;> simp only [Tr.mix] at h <;> try (simp at h)
    rename_i a' b'
    split at h
    · rename_i x y hx hy
      obtain ⟨a1, a2, a3⟩ := iha _ _ hx
      obtain ⟨b1, b2, b3⟩ := ihb _ _ hy
      simp at h; subst h
      exact ⟨by simp [Tr.cells, a1, b1], by simp [Tr.size, a2, b2], fun ks hk => by simp [Tr.cells, a3 ks hk, b3 ks hk]⟩
    · simp at h
  | _ => intro u' v h; cases u' <;> simp [Tr.mix] at h

def Tr.setFld : Tr → Nat → Tr → Option Tr
  | .tc _ t, 0, u => some (.tc u t)
  | .tc h t, k + 1, u => match t.setFld k u with | some t' => some (.tc h t') | none => none
  | _, _, _ => none

def Tr.set : List Stp → Tr → Ix → Tr → Option Tr
  | [], t, [], u => if Nat.beq t.size u.size then some u else none
  | [], t, i :: is, u => Tr.mix (i :: is) t u
  | .f _ k :: r, t, is, u =>
    match t.fld k with
    | some (_, x) => match Tr.set r x is u with
      | some x' => t.setFld k x'
      | none => none
    | none => none
  | .x _ i :: r, .ta n t, is, u => match Tr.set r t (is ++ [i]) u with | some t' => some (.ta n t') | none => none
  | .x _ i :: r, .tc h t, is, u =>
    match (Tr.tc h t).fld i with
    | some (_, x) => match Tr.set r x is u with
      | some x' => (Tr.tc h t).setFld i x'
      | none => none
    | none => none
  | .x _ _ :: _, _, _, _ => none

theorem Tr.setFld_cells (ρ : Con) : ∀ (t : Tr) (k o : Nat) (u x t' : Tr), t.fld k = some (o, u) → t.setFld k x = some t' → x.size = u.size →
    t'.size = t.size ∧ (∀ is, ∃ pre post, t.cells ρ is = pre ++ u.cells ρ is ++ post ∧ pre.length = o ∧ t'.cells ρ is = pre ++ x.cells ρ is ++ post)
  | .tc h t, 0, o, u, x, t', e, e', hs => by
    simp only [Tr.fld, Option.some.injEq, Prod.mk.injEq] at e
    obtain ⟨rfl, rfl⟩ := e
    simp only [Tr.setFld, Option.some.injEq] at e'
    subst e'
    exact ⟨by simp [Tr.size, hs], fun is => ⟨[], t.cells ρ is, by simp [Tr.cells], rfl, by simp [Tr.cells]⟩⟩
  | .tc h t, k + 1, o, u, x, t', e, e', hs => by
    simp only [Tr.fld] at e
    simp only [Tr.setFld] at e'
    cases h' : t.fld k with
    | none => simp [h'] at e
    | some q =>
      obtain ⟨o', u'⟩ := q
      simp only [h', Option.some.injEq, Prod.mk.injEq] at e
      obtain ⟨rfl, rfl⟩ := e
      cases h'' : t.setFld k x with
      | none => simp [h''] at e'
      | some t'' =>
        simp only [h'', Option.some.injEq] at e'
        subst e'
        obtain ⟨hz, hcc⟩ := setFld_cells ρ t k o' u' x t'' h' h'' hs
        refine ⟨by simp [Tr.size, hz], fun is => ?_⟩
        obtain ⟨pre, post, h1, h2, h3⟩ := hcc is
        exact ⟨h.cells ρ is ++ pre, post, by simp [Tr.cells, h1], by simp [Tr.cells_length, h2], by simp [Tr.cells, h3]⟩
  | .t0, _, _, _, _, _, e, _, _ => by simp [Tr.fld] at e
  | .ta _ _, _, _, _, _, _, e, _, _ => by simp [Tr.fld] at e
  | .vb _, _, _, _, _, _, e, _, _ => by simp [Tr.fld] at e
  | .vi _ _, _, _, _, _, _, e, _, _ => by simp [Tr.fld] at e
  | .vs _, _, _, _, _, _, e, _, _ => by simp [Tr.fld] at e
  | .vp _ _ _, _, _, _, _, _, e, _, _ => by simp [Tr.fld] at e
  | .vp0, _, _, _, _, _, e, _, _ => by simp [Tr.fld] at e
  | .vl _ _ _ _ _, _, _, _, _, _, e, _, _ => by simp [Tr.fld] at e
  | .va _ _ _ _ _ _, _, _, _, _, _, e, _, _ => by simp [Tr.fld] at e
  | .vl0, _, _, _, _, _, e, _, _ => by simp [Tr.fld] at e
  | .ve _ _, _, _, _, _, _, e, _, _ => by simp [Tr.fld] at e
  | .vc _ _, _, _, _, _, _, e, _, _ => by simp [Tr.fld] at e
  | .vx _ _ _, _, _, _, _, _, e, _, _ => by simp [Tr.fld] at e
  | .ve0, _, _, _, _, _, e, _, _ => by simp [Tr.fld] at e
  | .vr _, _, _, _, _, _, e, _, _ => by simp [Tr.fld] at e

theorem Tr.set_cells (ρ : Con) : ∀ (path : List Stp) (t : Tr) (is : Ix) (u : Tr) (js : Ix) (cs : List (Nat × Nat)) (v t' : Tr),
    Tr.get path t is = some (u, js, cs) → Tr.set path t is v = some t' → (∀ c ∈ cs, c.1 < c.2) →
    t'.size = t.size ∧ (∃ pre post, t.cells ρ is = pre ++ u.cells ρ js ++ post ∧ pre.length = offs path ∧ t'.cells ρ is = pre ++ v.cells ρ [] ++ post) ∧
      (is ≠ [] → ∀ ks, ks ≠ is → ks.length = is.length → t'.cells ρ ks = t.cells ρ ks)
  | [], t, is, u, js, cs, v, t', e, e', _ => by
    simp only [Tr.get, Option.some.injEq, Prod.mk.injEq] at e
    obtain ⟨rfl, rfl, rfl⟩ := e
    cases is with
    | nil =>
      simp only [Tr.set] at e'
      split at e'
      · rename_i hs
        have hs := Nat.eq_of_beq_eq_true hs
        simp only [Option.some.injEq] at e'
        subst e'
        exact ⟨hs.symm, ⟨[], [], by simp, rfl, by simp⟩, fun h => absurd rfl h⟩
      · simp at e'
    | cons a r =>
      simp only [Tr.set] at e'
      obtain ⟨h1, h2, h3⟩ := Tr.mix_cells ρ (a :: r) _ _ _ e'
      exact ⟨h2, ⟨[], [], by simp, rfl, by simp [h1]⟩, fun _ ks hk _ => h3 ks hk⟩
  | .f o k :: r, t, is, u, js, cs, v, t', e, e', hc => by
    simp only [Tr.get] at e
    simp only [Tr.set] at e'
    cases hf : t.fld k with
    | none => simp [hf] at e
    | some q =>
      obtain ⟨o', x⟩ := q
      simp only [hf] at e e'
      split at e
      · rename_i ho
        have ho := Nat.eq_of_beq_eq_true ho
        subst ho
        cases hx : Tr.set r x is v with
        | none => simp [hx] at e'
        | some x' =>
          simp only [hx] at e'
          obtain ⟨hz, ⟨pre', post', h3, h4, h5⟩, h6⟩ := set_cells ρ r x is u js cs v x' e hx hc
          obtain ⟨hz2, hcc⟩ := Tr.setFld_cells ρ t k o x x' t' hf e' hz
          obtain ⟨pre, post, h1, h2, h7⟩ := hcc is
          refine ⟨hz2, ⟨pre ++ pre', post' ++ post, by simp [h1, h3], by simp [h2, h4, offs, Stp.off], by simp [h7, h5]⟩, fun hne ks hk hl => ?_⟩
          obtain ⟨pre2, post2, g1, _, g7⟩ := hcc ks
          rw [g7, g1, h6 hne ks hk hl]
      · simp at e
  | .x sz i :: r, .ta n t, is, u, js, cs, v, t', e, e', hc => by
    simp only [Tr.get] at e
    simp only [Tr.set] at e'
    split at e
    · rename_i ho
      have ho := Nat.eq_of_beq_eq_true ho
      subst ho
      split at e
      · rename_i u' js' cs' hg
        simp only [Option.some.injEq, Prod.mk.injEq] at e
        obtain ⟨rfl, rfl, rfl⟩ := e
        cases hx : Tr.set r t (is ++ [i]) v with
        | none => simp [hx] at e'
        | some t1 =>
          simp only [hx, Option.some.injEq] at e'
          subst e'
          obtain ⟨hz, ⟨pre', post', h3, h4, h5⟩, h6⟩ := set_cells ρ r t (is ++ [i]) u' js' cs' v t1 hg hx (fun c h => hc c (by simp [h]))
          have h6' := h6 (by simp)
          obtain ⟨pre, post, h1, h2, h7⟩ := flatMap_range_split n i (hc (i, n) (by simp)) (fun i => t.cells ρ (is ++ [i])) t.size (fun x => Tr.cells_length ρ t _)
          have h8 := h7 (fun i => t1.cells ρ (is ++ [i])) (fun x hx => h6' _ (by simp [hx]) (by simp))
          refine ⟨by simp [Tr.size, hz], ⟨pre ++ pre', post' ++ post, by simp [Tr.cells, h1, h3], by simp [h2, h4, offs, Stp.off], by simp [Tr.cells, h8, h5]⟩, fun hne ks hk hl => ?_⟩
          simp only [Tr.cells]
          apply flatMap_congr
          intro x _
          exact h6' _ (by intro h; exact hk (List.append_inj_left h (by simpa using hl))) (by simp [hl])
      · simp at e
    · simp at e
  | .x sz i :: r, .t0, is, u, js, cs, v, t', e, _, hc => by simp [Tr.get] at e
  | .x sz i :: r, .tc a b, is, u, js, cs, v, t', e, e', hc => by
    simp only [Tr.get] at e
    simp only [Tr.set] at e'
    cases hf : (Tr.tc a b).fld i with
    | none => simp [hf] at e
    | some q =>
      obtain ⟨o', x⟩ := q
      simp only [hf] at e e'
      split at e
      · rename_i ho
        have ho := Nat.eq_of_beq_eq_true ho
        subst ho
        cases hx : Tr.set r x is v with
        | none => simp [hx] at e'
        | some x' =>
          simp only [hx] at e'
          obtain ⟨hz, ⟨pre', post', h3, h4, h5⟩, h6⟩ := set_cells ρ r x is u js cs v x' e hx hc
          obtain ⟨hz2, hcc⟩ := Tr.setFld_cells ρ (.tc a b) i _ x x' t' hf e' hz
          obtain ⟨pre, post, h1, h2, h7⟩ := hcc is
          refine ⟨hz2, ⟨pre ++ pre', post' ++ post, by simp [h1, h3], by simp [h2, h4, offs, Stp.off], by simp [h7, h5]⟩, fun hne ks hk hl => ?_⟩
          obtain ⟨pre2, post2, g1, _, g7⟩ := hcc ks
          rw [g7, g1, h6 hne ks hk hl]
      · simp at e
  | .x sz i :: r, .vb _, is, u, js, cs, v, t', e, _, hc => by simp [Tr.get] at e
  | .x sz i :: r, .vi _ _, is, u, js, cs, v, t', e, _, hc => by simp [Tr.get] at e
  | .x sz i :: r, .vs _, is, u, js, cs, v, t', e, _, hc => by simp [Tr.get] at e
  | .x sz i :: r, .vp _ _ _, is, u, js, cs, v, t', e, _, hc => by simp [Tr.get] at e
  | .x sz i :: r, .vp0, is, u, js, cs, v, t', e, _, hc => by simp [Tr.get] at e
  | .x sz i :: r, .vl _ _ _ _ _, is, u, js, cs, v, t', e, _, hc => by simp [Tr.get] at e
  | .x sz i :: r, .va _ _ _ _ _ _, is, u, js, cs, v, t', e, _, hc => by simp [Tr.get] at e
  | .x sz i :: r, .vl0, is, u, js, cs, v, t', e, _, hc => by simp [Tr.get] at e
  | .x sz i :: r, .ve _ _, is, u, js, cs, v, t', e, _, hc => by simp [Tr.get] at e
  | .x sz i :: r, .vc _ _, is, u, js, cs, v, t', e, _, hc => by simp [Tr.get] at e
  | .x sz i :: r, .vx _ _ _, is, u, js, cs, v, t', e, _, hc => by simp [Tr.get] at e
  | .x sz i :: r, .ve0, is, u, js, cs, v, t', e, _, hc => by simp [Tr.get] at e
  | .x sz i :: r, .vr _, is, u, js, cs, v, t', e, _, hc => by simp [Tr.get] at e

def Tr.cnt (sz : Nat) : Tr → Option Nat
  | .t0 => some 0
  | .tc h t => if Nat.beq h.size sz then (match t.cnt sz with | some n => some (n + 1) | none => none) else none
  | _ => none
def Tr.rows (sz : Nat) : Tr → Option Nat
  | .ta n t => if Nat.beq t.size sz then some n else none
  | t => t.cnt sz

theorem Tr.cnt_size {sz : Nat} : ∀ {t : Tr} {n : Nat}, t.cnt sz = some n → t.size = n * sz := by
  intro t
  induction t with
  | t0 => intro n h; simp only [Tr.cnt, Option.some.injEq] at h; subst h; simp [Tr.size]
  | tc a b iha ihb =>
    intro n h
    simp only [Tr.cnt] at h
    split at h
    · rename_i hs
      have hs := Nat.eq_of_beq_eq_true hs
      split at h
      · rename_i m hm
        simp only [Option.some.injEq] at h
        subst h
        simp only [Tr.size, hs, ihb hm, Nat.succ_mul]; omega
      · simp at h
    · simp at h
  | _ => intro n h; simp [Tr.cnt] at h

theorem Tr.rows_size {sz : Nat} {t : Tr} {n : Nat} (h : t.rows sz = some n) : t.size = n * sz := by
  cases t with
  | ta k t =>
    simp only [Tr.rows] at h
    split at h
    · rename_i hs
      have hs := Nat.eq_of_beq_eq_true hs
      simp only [Option.some.injEq] at h
      subst h
      simp [Tr.size, hs]
    · simp at h
  | _ => simp only [Tr.rows] at h; exact Tr.cnt_size h

def repC (z : Tr) : Nat → Tr
  | 0 => .t0
  | n + 1 => .tc z (repC z n)

theorem repC_size (z : Tr) : ∀ n, (repC z n).size = n * z.size
  | 0 => by simp [repC, Tr.size]
  | n + 1 => by simp only [repC, Tr.size, repC_size z n, Nat.succ_mul]; omega

def Tr.inst (is : Ix) : Tr → Tr
  | .vb f => .vb fun js => f (is ++ js)
  | .vi k f => .vi k fun js => f (is ++ js)
  | .vs f => .vs fun js => f (is ++ js)
  | .vp lab mem path => .vp lab (fun js => mem (is ++ js)) path
  | .vl lab mem sz cuts len => .vl lab (fun js => mem (is ++ js)) sz cuts (fun js => len (is ++ js))
  | .ve t v => .ve t (v.inst is)
  | .vc f v => .vc f (v.inst is)
  | .vx t ls f => .vx t ls fun js => f (is ++ js)
  | .tc h t => .tc (h.inst is) (t.inst is)
  | .ta n t => .ta n (t.inst is)
  | t => t

theorem Tr.inst_val (ρ : Con) (is : Ix) : ∀ (t : Tr) (js : Ix), (t.inst is).val ρ js = t.val ρ (is ++ js) := by
  intro t
  induction t with
  | ve t v ih => intro js; simp [Tr.inst, Tr.val, ih]
  | vc t v ih => intro js; simp [Tr.inst, Tr.val, ih]
  | _ => intro js; simp [Tr.inst, Tr.val]

theorem Tr.inst_cells (ρ : Con) (is : Ix) : ∀ (t : Tr) (js : Ix), (t.inst is).cells ρ js = t.cells ρ (is ++ js) := by
  intro t
  induction t with
  | tc h t ih1 ih2 => intro js; simp [Tr.inst, Tr.cells, ih1, ih2]
  | ta n t ih => intro js; simp [Tr.inst, Tr.cells, ih]
  | ve t v ih => intro js; simp [Tr.inst, Tr.cells, Tr.val, Tr.inst_val]
  | vc t v ih => intro js; simp [Tr.inst, Tr.cells, Tr.val, Tr.inst_val]
  | _ => intro js; simp [Tr.inst, Tr.cells, Tr.val]

theorem Tr.inst_size (is : Ix) : ∀ (t : Tr), (t.inst is).size = t.size := by
  intro t
  induction t with
  | tc h t ih1 ih2 => simp [Tr.inst, Tr.size, ih1, ih2]
  | ta n t ih => simp [Tr.inst, Tr.size, ih]
  | _ => simp [Tr.inst, Tr.size]

theorem Tr.inst_leaf (is : Ix) (t : Tr) : (t.inst is).leaf = t.leaf := by
  cases t <;> rfl

def Tr.labs : Tr → List Nat
  | .vp lab _ _ => [lab]
  | .vl lab _ _ _ _ => [lab]
  | .va lab _ _ _ _ _ => [lab]
  | .ve _ v => v.labs
  | .vc _ v => v.labs
  | .vx _ ls _ => ls
  | .tc h t => h.labs ++ t.labs
  | .ta _ t => t.labs
  | _ => []

theorem nthL_mem : ∀ {ls : List Nat} {k l : Nat}, nthL ls k = some l → l ∈ ls
  | a :: r, 0, l, h => by simp only [nthL, Option.some.injEq] at h; rw [h]; simp
  | a :: r, k + 1, l, h => List.mem_cons_of_mem _ (nthL_mem (ls := r) h)
theorem nthL_none : ∀ {ls : List Nat} {k : Nat}, nthL ls k = none ↔ ls.length ≤ k
  | [], k => by simp [nthL]
  | a :: r, 0 => by simp [nthL]
  | a :: r, k + 1 => by simp only [nthL, List.length_cons]; rw [nthL_none]; omega

theorem Tr.val_agree {ρ ρ' : Con} : ∀ (t : Tr) (is : Ix), (∀ l ∈ t.labs, ρ' l = ρ l) → t.val ρ' is = t.val ρ is := by
  intro t
  induction t with
  | ve t v ih => intro is h; simp only [Tr.val]; rw [ih is (by simpa [Tr.labs] using h)]
  | vc t v ih => intro is h; simp only [Tr.val]; rw [ih is (by simpa [Tr.labs] using h)]
  | vp lab mem path => intro is h; simp only [Tr.val]; rw [h lab (by simp [Tr.labs])]
  | vl lab mem sz cuts len => intro is h; simp only [Tr.val]; rw [h lab (by simp [Tr.labs])]
  | va lab path sz st len cap => intro is h; simp only [Tr.val]; rw [h lab (by simp [Tr.labs])]
  | vx t ls f =>
    intro is h
    simp only [Tr.val]
    cases hk : nthL ls (f is) with
    | none => rfl
    | some l => simp only; rw [h l (nthL_mem hk)]
  | _ => intro is h; simp [Tr.val]

theorem Tr.cells_agree {ρ ρ' : Con} : ∀ (t : Tr) (is : Ix), (∀ l ∈ t.labs, ρ' l = ρ l) → t.cells ρ' is = t.cells ρ is := by
  intro t
  induction t with
  | tc a b ih1 ih2 => intro is h; simp only [Tr.cells]; rw [ih1 is (fun l hl => h l (by simp [Tr.labs, hl])), ih2 is (fun l hl => h l (by simp [Tr.labs, hl]))]
  | ta n t ih => intro is h; simp only [Tr.cells]; apply flatMap_congr; intro x _; exact ih _ (by simpa [Tr.labs] using h)
  | t0 => intro is h; rfl
  | _ => intro is h; simp only [Tr.cells]; rw [Tr.val_agree _ is h]

end Go.Sx
