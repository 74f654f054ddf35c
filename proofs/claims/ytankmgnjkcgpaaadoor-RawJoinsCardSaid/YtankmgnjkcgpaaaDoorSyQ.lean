/- The engine, part 26: a state told in other labels. -/
import Derived.Test.YtankmgnjkcgpaaaDoorSyP
set_option linter.unusedSimpArgs false
set_option linter.unusedVariables false
namespace Go.Sx

inductive Rn where
  | to (l : Nat)
  | nil (wid : Nat)
  | cut (l sz : Nat) (cuts : List Nat)
  | mem (l m : Nat)

abbrev Sg := List (Nat × Rn)

def sgOf : Sg → Nat → Rn
  | [], l => .to l
  | (k, r) :: s, l => if Nat.beq k l then r else sgOf s l

def locCut (L : Loc) (sz : Nat) (cuts : List Nat) : Loc :=
  if L.isNil then L else ⟨L.blk, L.base + rsOf L.room cuts 0 * sz, L.room - sum cuts, sz, false, none, false⟩

def rnLoc (ρ : Con) : Rn → Nat → Loc
  | .to l, m => ρ l m
  | .nil w, _ => ⟨0, 0, 0, w, true, none, false⟩
  | .cut l sz cuts, m => locCut (ρ l m) sz cuts
  | .mem l k, _ => ρ l k

def ren (σ : Sg) (ρ : Con) : Con := fun l m => rnLoc ρ (sgOf σ l) m

def allB : List Nat → (Ix → Prop) → Prop
  | [], p => p []
  | b :: r, p => ∀ i, i < b → allB r fun is => p (i :: is)

def inB : List Nat → Ix → Prop
  | [], [] => True
  | b :: r, i :: is => i < b ∧ inB r is
  | _, _ => False

theorem allB_elim : ∀ {bs : List Nat} {p : Ix → Prop}, allB bs p → ∀ {is : Ix}, inB bs is → p is
  | [], p, h, [], _ => h
  | b :: r, p, h, i :: is, hi => allB_elim (h i hi.1) hi.2
  | [], p, h, _ :: _, hi => hi.elim
  | _ :: _, p, h, [], hi => hi.elim

theorem inB_snoc {n i : Nat} (hi : i < n) : ∀ {bs : List Nat} {is : Ix}, inB bs is → inB (bs ++ [n]) (is ++ [i])
  | [], [], _ => ⟨hi, trivial⟩
  | b :: r, j :: is, h => ⟨h.1, inB_snoc hi h.2⟩
  | [], _ :: _, h => h.elim
  | _ :: _, [], h => h.elim

def onB : Bool → Prop → Prop
  | true, p => p
  | false, _ => False

theorem onB_ok {b : Bool} {p : Prop} (h : onB b p) : b = true ∧ p := by
  cases b
  · exact h.elim
  · exact ⟨rfl, h⟩

def cutsP : List Nat → List Nat → Prop → Prop
  | [], [], p => p
  | a, b, p => a = b ∧ p

theorem cutsP_ok {a b : List Nat} {p : Prop} (h : cutsP a b p) : a = b ∧ p := by
  cases a <;> cases b
  · exact ⟨rfl, h⟩
  · exact h
  · exact h
  · exact h

def fitP (σ : Sg) (bs : List Nat) (lab lab' : Nat) (mem mem' : Ix → Nat) : Prop :=
  match sgOf σ lab with
  | .to l => onB (Nat.beq l lab') (allB bs fun is => mem is = mem' is)
  | .mem l k => onB (Nat.beq l lab') (allB bs fun is => mem' is = k)
  | _ => False

def fitL (σ : Sg) (bs : List Nat) (lab lab' : Nat) (mem mem' : Ix → Nat) (sz : Nat) (cuts cuts' : List Nat) : Prop :=
  match sgOf σ lab with
  | .to l => onB (Nat.beq l lab') (cutsP cuts cuts' (allB bs fun is => mem is = mem' is))
  | .mem l k => onB (Nat.beq l lab') (cutsP cuts cuts' (allB bs fun is => mem' is = k))
  | .cut l s cs => onB (Nat.beq l lab') (onB (Nat.beq s sz) (onB cuts.isEmpty (cutsP cs cuts' (allB bs fun is => mem is = mem' is))))
  | .nil _ => False

def isNilR : Rn → Bool
  | .nil _ => true
  | _ => false

def isToR (l : Nat) : Rn → Bool
  | .to k => Nat.beq k l
  | _ => false

def lsTo (σ : Sg) : List Nat → List Nat → Bool
  | [], [] => true
  | a :: r, b :: s => match isToR b (sgOf σ a) with | true => lsTo σ r s | false => false
  | _, _ => false
def atO (σ : Sg) (l : Nat) : Option Nat → Bool
  | some a => isToR l (sgOf σ a)
  | none => false
def atO' (σ : Sg) (l : Nat) : Option Nat → Bool
  | some b => isToR b (sgOf σ l)
  | none => false
def fitXV (σ : Sg) (bs : List Nat) (ls : List Nat) (f : Ix → Nat) : Tr → Prop
  | .vp l m p => onB (Nat.beq (offs p) 0) (allB bs fun is => m is = 0 ∧ atO σ l (nthL ls (f is)) = true)
  | _ => False
def fitVX (σ : Sg) (bs : List Nat) (ls : List Nat) (f : Ix → Nat) : Tr → Prop
  | .vp l m p => onB (Nat.beq (offs p) 0) (allB bs fun is => m is = 0 ∧ atO' σ l (nthL ls (f is)) = true)
  | _ => False

def fitT (σ : Sg) : List Nat → Tr → Tr → Prop
  | bs, .vb f, .vb g => allB bs fun is => f is = g is
  | bs, .vi k f, .vi k' g => onB (sameK k k') (allB bs fun is => f is = g is)
  | bs, .vs f, .vs g => allB bs fun is => f is = g is
  | bs, .vp lab mem path, .vp lab' mem' path' => onB (Nat.beq (offs path) (offs path')) (fitP σ bs lab lab' mem mem')
  | _, .vp0, .vp0 => True
  | bs, .vl lab mem sz cuts len, .vl lab' mem' sz' cuts' len' => onB (Nat.beq sz sz') (fitL σ bs lab lab' mem mem' sz cuts cuts' ∧ allB bs fun is => len is = len' is)
  | bs, .vl lab mem sz cuts len, .vl0 => onB (isNilR (sgOf σ lab)) (allB bs fun is => len is = 0)
  | _, .va lab path sz st len cap, .va lab' path' sz' st' len' cap' => onB (isToR lab' (sgOf σ lab)) (onB (Nat.beq (offs path) (offs path')) (onB (Nat.beq sz sz') (st = st' ∧ len = len' ∧ cap = cap')))
  | _, .vl0, .vl0 => True
  | bs, .ve t v, .ve t' v' => onB (Nat.beq t t') (fitT σ bs v v')
  | bs, .vc t v, .vc t' v' => onB (Nat.beq t t') (fitT σ bs v v')
  | bs, .vx t ls f, .vx t' ls' g => onB (Nat.beq t t') (onB (lsTo σ ls ls') (allB bs fun is => f is = g is))
  | bs, .vx t ls f, .ve t' v => onB (Nat.beq t t') (fitXV σ bs ls f v)
  | bs, .vx _ ls f, .ve0 => allB bs fun is => nthL ls (f is) = none
  | bs, .ve t v, .vx t' ls f => onB (Nat.beq t t') (fitVX σ bs ls f v)
  | bs, .ve0, .vx _ ls f => allB bs fun is => nthL ls (f is) = none
  | _, .ve0, .ve0 => True
  | _, .vr v, .vr v' => v = v'
  | _, .t0, .t0 => True
  | bs, .tc a .t0, .tc c .t0 => fitT σ bs a c
  | bs, .tc a b, .tc c d => fitT σ bs a c ∧ fitT σ bs b d
  | bs, .ta n t, .ta m u => n = m ∧ fitT σ (bs ++ [n]) t u
  | _, _, _ => False

theorem fitP_ok {σ : Sg} {bs : List Nat} {lab lab' : Nat} {mem mem' : Ix → Nat} (h : fitP σ bs lab lab' mem mem') (ρ : Con) {is : Ix} (hi : inB bs is) : ren σ ρ lab (mem is) = ρ lab' (mem' is) := by
  unfold fitP at h
  unfold ren
  split at h
  · rename_i l e
    have h := onB_ok h
    rw [e, Nat.eq_of_beq_eq_true h.1, allB_elim h.2 hi]; rfl
  · rename_i l k e
    have h := onB_ok h
    rw [e, Nat.eq_of_beq_eq_true h.1, allB_elim h.2 hi]; rfl
  · exact h.elim

theorem fitL_ok {σ : Sg} {bs : List Nat} {lab lab' : Nat} {mem mem' : Ix → Nat} {sz : Nat} {cuts cuts' : List Nat} (h : fitL σ bs lab lab' mem mem' sz cuts cuts') (ρ : Con) {is : Ix} (hi : inB bs is) :
    (ren σ ρ lab (mem is)).isNil = (ρ lab' (mem' is)).isNil ∧ ((ρ lab' (mem' is)).isNil = true → (ren σ ρ lab (mem is)).adr = (ρ lab' (mem' is)).adr) ∧ ((ρ lab' (mem' is)).isNil = false → (ren σ ρ lab (mem is)).blk = (ρ lab' (mem' is)).blk ∧
      (ren σ ρ lab (mem is)).base + rsOf (ren σ ρ lab (mem is)).room cuts 0 * sz = (ρ lab' (mem' is)).base + rsOf (ρ lab' (mem' is)).room cuts' 0 * sz ∧
      (ren σ ρ lab (mem is)).room - sum cuts = (ρ lab' (mem' is)).room - sum cuts') := by
  unfold fitL at h
  unfold ren
  split at h
  · rename_i l e
    have h := onB_ok h
    have h2 := cutsP_ok h.2
    rw [e, Nat.eq_of_beq_eq_true h.1, h2.1, allB_elim h2.2 hi]; exact ⟨rfl, fun _ => rfl, fun _ => ⟨rfl, rfl, rfl⟩⟩
  · rename_i l k e
    have h := onB_ok h
    have h2 := cutsP_ok h.2
    rw [e, Nat.eq_of_beq_eq_true h.1, h2.1, allB_elim h2.2 hi]; exact ⟨rfl, fun _ => rfl, fun _ => ⟨rfl, rfl, rfl⟩⟩
  · rename_i l s cs e
    obtain ⟨h1, h⟩ := onB_ok h
    obtain ⟨h2, h⟩ := onB_ok h
    obtain ⟨h3, h⟩ := onB_ok h
    obtain ⟨h4, h5⟩ := cutsP_ok h
    have h3 : cuts = [] := List.isEmpty_iff.1 h3
    rw [e, Nat.eq_of_beq_eq_true h1, Nat.eq_of_beq_eq_true h2, allB_elim h5 hi, h3, h4]
    simp only [rnLoc, locCut]
    by_cases hn : (ρ lab' (mem' is)).isNil = true
    · rw [if_pos hn]; exact ⟨rfl, fun _ => rfl, fun h => by rw [hn] at h; cases h⟩
    · rw [if_neg hn]
      refine ⟨by simpa using hn, fun h => absurd h hn, fun _ => ⟨rfl, ?_, ?_⟩⟩
      · simp [rsOf]
      · simp [sum]
  · exact h.elim

theorem sameK_ok {k k' : IntKind} (h : sameK k k' = true) : k = k' := by
  cases k <;> cases k' <;> first | rfl | (simp [sameK] at h)

theorem isToR_ok {l : Nat} {r : Rn} (h : isToR l r = true) : r = .to l := by
  cases r <;> simp [isToR] at h
  rw [h]

theorem isNilR_ok {r : Rn} (h : isNilR r = true) : ∃ w, r = .nil w := by
  cases r <;> simp [isNilR] at h
  exact ⟨_, rfl⟩

theorem fitT_tc {σ : Sg} {bs : List Nat} {a b c d : Tr} (h : fitT σ bs (.tc a b) (.tc c d)) : fitT σ bs a c ∧ fitT σ bs b d := by
  cases b <;> cases d <;> first | exact ⟨h, trivial⟩ | exact h

theorem lsTo_ok {σ : Sg} (ρ : Con) : ∀ {ls ls' : List Nat}, lsTo σ ls ls' = true → ∀ k, (nthL ls k = none ∧ nthL ls' k = none) ∨ ∃ a b, nthL ls k = some a ∧ nthL ls' k = some b ∧ ren σ ρ a 0 = ρ b 0
  | [], [], _, k => .inl ⟨rfl, rfl⟩
  | a :: r, b :: s, h, k => by
    simp only [lsTo] at h
    split at h
    · rename_i e
      cases k with
      | zero => exact .inr ⟨a, b, rfl, rfl, by simp only [ren, isToR_ok e, rnLoc]⟩
      | succ k => exact lsTo_ok ρ h k
    · cases h

theorem fitT_ok {σ : Sg} (ρ : Con) : ∀ (u u' : Tr) (bs : List Nat), fitT σ bs u u' → u.size = u'.size ∧ ∀ is, inB bs is → u.val (ren σ ρ) is = u'.val ρ is ∧ u.cells (ren σ ρ) is = u'.cells ρ is := by
  intro u
  induction u with
  | vb f => intro u' bs h; cases u' <;> simp only [fitT] at h; exact ⟨rfl, fun is hi => by simp only [Tr.cells, Tr.val]; rw [allB_elim h hi]; exact ⟨rfl, rfl⟩⟩
  | vi k f => intro u' bs h; cases u' <;> simp only [fitT] at h; obtain ⟨h1, h⟩ := onB_ok h; exact ⟨rfl, fun is hi => by simp only [Tr.cells, Tr.val]; rw [allB_elim h hi, sameK_ok h1]; exact ⟨rfl, rfl⟩⟩
  | vs f => intro u' bs h; cases u' <;> simp only [fitT] at h; exact ⟨rfl, fun is hi => by simp only [Tr.cells, Tr.val]; rw [allB_elim h hi]; exact ⟨rfl, rfl⟩⟩
  | vp lab mem path => intro u' bs h; cases u' <;> simp only [fitT] at h; obtain ⟨h1, h⟩ := onB_ok h; exact ⟨rfl, fun is hi => by simp only [Tr.cells, Tr.val]; rw [fitP_ok h ρ hi, Nat.eq_of_beq_eq_true h1]; exact ⟨rfl, rfl⟩⟩
  | vp0 => intro u' bs h; cases u' <;> simp only [fitT] at h; exact ⟨rfl, fun is hi => ⟨rfl, rfl⟩⟩
  | vl lab mem sz cuts len =>
    intro u' bs h; cases u' <;> simp only [fitT] at h
    · obtain ⟨h1, h2, h3⟩ := onB_ok h
      refine ⟨rfl, fun is hi => ?_⟩
      have e1 := Nat.eq_of_beq_eq_true h1
      subst e1
      have e3 := allB_elim h3 hi
      have : ∀ cuts' lab' mem' len', fitL σ bs lab lab' mem mem' sz cuts cuts' → len is = len' is → (Tr.vl lab mem sz cuts len).val (ren σ ρ) is = (Tr.vl lab' mem' sz cuts' len').val ρ is := by
        intro cuts' lab' mem' len' h2 e3
        obtain ⟨g1, g0, g2⟩ := fitL_ok h2 ρ hi
        simp only [Tr.val]; rw [g1, e3]
        split
        · rename_i hn; rw [g0 hn]
        · rename_i hn
          obtain ⟨k1, k2, k3⟩ := g2 (by simpa using hn)
          rw [k1, k2, k3]
      have := this _ _ _ _ h2 e3
      simp only [Tr.cells]
      rw [this]
      exact ⟨rfl, rfl⟩
    · obtain ⟨h1, h3⟩ := onB_ok h
      refine ⟨rfl, fun is hi => ?_⟩
      obtain ⟨w, e⟩ := isNilR_ok h1
      have e3 := allB_elim h3 hi
      have : (Tr.vl lab mem sz cuts len).val (ren σ ρ) is = Tr.vl0.val ρ is := by simp only [Tr.val, ren, e, rnLoc, if_true, e3]
      simp only [Tr.cells]
      rw [this]
      exact ⟨rfl, rfl⟩
  | va lab path sz st len cap =>
    intro u' bs h; cases u' <;> simp only [fitT] at h
    obtain ⟨h1, h⟩ := onB_ok h
    obtain ⟨h2, h⟩ := onB_ok h
    obtain ⟨h3, h⟩ := onB_ok h
    obtain ⟨rfl, rfl, rfl⟩ := h
    exact ⟨rfl, fun is hi => by simp only [Tr.cells, Tr.val, ren, isToR_ok h1, rnLoc, Nat.eq_of_beq_eq_true h2, Nat.eq_of_beq_eq_true h3, and_self]⟩
  | vl0 => intro u' bs h; cases u' <;> simp only [fitT] at h; exact ⟨rfl, fun is hi => ⟨rfl, rfl⟩⟩
  | ve t v ih =>
    intro u' bs h; cases u' <;> simp only [fitT] at h
    · obtain ⟨h1, h⟩ := onB_ok h
      exact ⟨rfl, fun is hi => by simp only [Tr.cells, Tr.val]; rw [((ih _ _ h).2 is hi).1, Nat.eq_of_beq_eq_true h1]; exact ⟨rfl, rfl⟩⟩
    · rename_i t' ls f
      obtain ⟨h1, h2⟩ := onB_ok h
      clear h
      have h1 := Nat.eq_of_beq_eq_true h1
      subst h1
      cases v with
      | vp l m p =>
        simp only [fitVX] at h2
        obtain ⟨h3, h4⟩ := onB_ok h2
        refine ⟨rfl, fun is hi => ?_⟩
        obtain ⟨h5, h6⟩ := allB_elim h4 hi
        have h3 := Nat.eq_of_beq_eq_true h3
        have : (Tr.ve t (.vp l m p)).val (ren σ ρ) is = (Tr.vx t ls f).val ρ is := by
          unfold atO' at h6
          simp only [Tr.val, h3, h5]
          split at h6
          · rename_i b hb
            simp only [hb, ren, isToR_ok h6, rnLoc]
            rfl
          · cases h6
        simp only [Tr.cells]
        rw [this]
        exact ⟨rfl, rfl⟩
      | _ => exact h2.elim
  | vx t ls f =>
    intro u' bs h; cases u' <;> simp only [fitT] at h
    · rename_i t' v
      obtain ⟨h1, h2⟩ := onB_ok h
      clear h
      have h1 := Nat.eq_of_beq_eq_true h1
      subst h1
      cases v with
      | vp l m p =>
        simp only [fitXV] at h2
        obtain ⟨h3, h4⟩ := onB_ok h2
        refine ⟨rfl, fun is hi => ?_⟩
        obtain ⟨h5, h6⟩ := allB_elim h4 hi
        have h3 := Nat.eq_of_beq_eq_true h3
        have : (Tr.vx t ls f).val (ren σ ρ) is = (Tr.ve t (.vp l m p)).val ρ is := by
          unfold atO at h6
          simp only [Tr.val, h3, h5]
          split at h6
          · rename_i b hb
            simp only [hb, ren, isToR_ok h6, rnLoc]
            rfl
          · cases h6
        simp only [Tr.cells]
        rw [this]
        exact ⟨rfl, rfl⟩
      | _ => exact h2.elim
    · refine ⟨rfl, fun is hi => ?_⟩
      have := allB_elim h hi
      simp only [Tr.cells, Tr.val, this]
      exact ⟨trivial, trivial⟩
    · rename_i t' ls' g
      obtain ⟨h1, h2⟩ := onB_ok h
      obtain ⟨h3, h4⟩ := onB_ok h2
      clear h h2
      have h1 := Nat.eq_of_beq_eq_true h1
      subst h1
      refine ⟨rfl, fun is hi => ?_⟩
      have h5 := allB_elim h4 hi
      have : (Tr.vx t ls f).val (ren σ ρ) is = (Tr.vx t ls' g).val ρ is := by
        simp only [Tr.val, h5]
        rcases lsTo_ok ρ h3 (g is) with ⟨a1, a2⟩ | ⟨a, b, a1, a2, a3⟩
        · rw [a1, a2]
        · rw [a1, a2]; simp only [a3]
      simp only [Tr.cells]
      rw [this]
      exact ⟨rfl, rfl⟩
  | vc t v ih =>
    intro u' bs h; cases u' <;> simp only [fitT] at h
    obtain ⟨h1, h⟩ := onB_ok h
    exact ⟨rfl, fun is hi => by simp only [Tr.cells, Tr.val]; rw [((ih _ _ h).2 is hi).1, Nat.eq_of_beq_eq_true h1]; exact ⟨rfl, rfl⟩⟩
  | ve0 =>
    intro u' bs h; cases u' <;> simp only [fitT] at h
    · exact ⟨rfl, fun is hi => ⟨rfl, rfl⟩⟩
    · refine ⟨rfl, fun is hi => ?_⟩
      have := allB_elim h hi
      simp only [Tr.cells, Tr.val, this]
      exact ⟨trivial, trivial⟩
  | vr v => intro u' bs h; cases u' <;> simp only [fitT] at h; subst h; exact ⟨rfl, fun is hi => ⟨rfl, rfl⟩⟩
  | t0 => intro u' bs h; cases u' <;> simp only [fitT] at h; exact ⟨rfl, fun is hi => ⟨rfl, rfl⟩⟩
  | tc a b iha ihb =>
    intro u' bs h
    cases u' with
    | tc c d =>
      have h := fitT_tc h
      obtain ⟨a1, a2⟩ := iha _ _ h.1
      obtain ⟨b1, b2⟩ := ihb _ _ h.2
      exact ⟨by simp only [Tr.size, a1, b1], fun is hi => ⟨rfl, by simp only [Tr.cells, (a2 is hi).2, (b2 is hi).2]⟩⟩
    | _ => cases b <;> exact h.elim
  | ta n t ih =>
    intro u' bs h; cases u' <;> simp only [fitT] at h
    obtain ⟨rfl, h⟩ := h
    obtain ⟨a1, a2⟩ := ih _ _ h
    refine ⟨by simp only [Tr.size, a1], fun is hi => ⟨rfl, ?_⟩⟩
    simp only [Tr.cells]
    exact flatMap_congr fun i hm => (a2 _ (inB_snoc (by simpa using hm) hi)).2

end Go.Sx
