/- The engine, part 35: a table of errors, as it stands in a caller's heap. -/
import Derived.Test.YtankmgnjkcgpaaaDoorSyY
set_option linter.unusedSimpArgs false
set_option linter.unusedVariables false
namespace Go.Sx

def isVar (G tp g : Nat) (e : Ent) : Bool :=
  !e.own && noFam e.fam && Nat.beq e.wid 1 && (match e.t with | .ve t (.vp l m p) => Nat.beq t tp && Nat.beq l (G + g) && Nat.beq (m []) 0 && p.isEmpty | _ => false)

def isObj (e : Ent) : Bool :=
  !e.own && noFam e.fam && Nat.beq e.wid 1 && (match e.t with | .tc (.vs _) .t0 => true | _ => false)

def objText (e : Ent) : List UInt8 := match e.t with | .tc (.vs f) .t0 => f [] | _ => []

def errsIn (G tp : Nat) (H : List Ent) : List Nat → Bool
  | [] => true
  | g :: r => match look H g, look H (G + g) with
    | some a, some b => if isVar G tp g a then (if isObj b then errsIn G tp H r else false) else false
    | _, _ => false

def textsIn (G : Nat) (H : List Ent) : List Nat → List (Nat × List UInt8)
  | [] => []
  | g :: r => (g, match look H (G + g) with | some b => objText b | none => []) :: textsIn G H r

theorem isVar_fit {G tp g : Nat} {H : List Ent} {a : Ent} (h : isVar G tp g a = true) (hl : look H g = some a) : fitEnt [] H ⟨g, false, none, 1, .ve tp (.vp (G + g) (fun _ => 0) [])⟩ := by
  unfold isVar at h
  simp only [Bool.and_eq_true, Bool.not_eq_true'] at h
  obtain ⟨⟨⟨h1, h2⟩, h3⟩, h4⟩ := h
  split at h4
  · rename_i t l m p ht
    simp only [Bool.and_eq_true] at h4
    obtain ⟨⟨⟨k1, k2⟩, k3⟩, k4⟩ := h4
    have k1 := Nat.eq_of_beq_eq_true k1
    have k2 := Nat.eq_of_beq_eq_true k2
    have k3 := Nat.eq_of_beq_eq_true k3
    have k4 := List.isEmpty_iff.1 k4
    have h2 := noFam_ok h2
    have h3 := Nat.eq_of_beq_eq_true h3
    subst k1; subst k2; subst k4
    simp only [fitEnt, sgOf, hl, h1, h3, sameB, beqT rfl, show widB 1 1 = true from rfl, fitTo, h2, ht, fitT, fitP, allB, k3, onB_true]
  · cases h4

theorem isObj_fit {G g : Nat} {H : List Ent} {b : Ent} (h : isObj b = true) (hl : look H (G + g) = some b) : fitEnt [] H ⟨G + g, false, none, 1, .tc (.vs fun _ => objText b) .t0⟩ := by
  unfold isObj at h
  simp only [Bool.and_eq_true, Bool.not_eq_true'] at h
  obtain ⟨⟨⟨h1, h2⟩, h3⟩, h4⟩ := h
  split at h4
  · rename_i f ht
    have h2 := noFam_ok h2
    have h3 := Nat.eq_of_beq_eq_true h3
    have hx : objText b = f [] := by simp only [objText, ht]
    simp only [fitEnt, sgOf, hl, h1, h3, sameB, beqT rfl, show widB 1 1 = true from rfl, fitTo, h2, ht, fitT, allB, onB_true, hx]
  · cases h4

theorem fitEs_cons {σ : Sg} {H : List Ent} {e : Ent} {r : List Ent} (h1 : fitEnt σ H e) (h2 : fitEs σ H r) : fitEs σ H (e :: r) := by
  cases r with
  | nil => exact h1
  | cons x r => exact ⟨h1, h2⟩

theorem errsIn_fit {G tp : Nat} {H H0 : List Ent} : ∀ {gs : List Nat}, errsIn G tp H gs = true → (∀ g ∈ gs, look H0 g = look H g ∧ look H0 (G + g) = look H (G + g)) → fitEs [] H0 (sentEnts G tp (textsIn G H gs))
  | [], _, _ => trivial
  | g :: r, h, hl => by
    simp only [errsIn] at h
    split at h
    · rename_i a b ha hb
      split at h
      · rename_i h1
        split at h
        · rename_i h2
          obtain ⟨l1, l2⟩ := hl g (by simp)
          simp only [textsIn, sentEnts]
          refine fitEs_cons (isVar_fit h1 (l1.trans ha)) (fitEs_cons ?_ (errsIn_fit h (fun q hq => hl q (List.mem_cons_of_mem _ hq))))
          rw [hb]
          exact isObj_fit h2 (l2.trans hb)
        · cases h
      · cases h
    · cases h

def errLabs (G : Nat) : List Nat → List Nat
  | [] => []
  | g :: r => g :: (G + g) :: errLabs G r

theorem mem_errLabs {G g : Nat} : ∀ {gs : List Nat}, g ∈ gs → g ∈ errLabs G gs ∧ G + g ∈ errLabs G gs
  | x :: r, h => by
    simp only [errLabs]
    rcases List.mem_cons.1 h with rfl | h
    · simp
    · have := mem_errLabs (G := G) h; simp [this.1, this.2]

theorem srcs_sent {G tp : Nat} {H : List Ent} : ∀ (gs : List Nat), srcsOf [] (sentEnts G tp (textsIn G H gs)) = errLabs G gs
  | [] => rfl
  | g :: r => by
    simp only [textsIn, sentEnts, srcsOf, srcL, sgOf, errLabs]
    rw [srcs_sent r]

theorem sepFrom_shared {σ : Sg} {e : Ent} (ho : e.own = false) : ∀ {l : List Ent}, (∀ x ∈ l, x.own = false) → sepFrom σ e l = true
  | [], _ => rfl
  | x :: r, h => by
    simp only [sepFrom, ho, h x (by simp), Bool.or_self, Bool.not_false, Bool.true_or, if_true]
    exact sepFrom_shared ho (fun y hy => h y (List.mem_cons_of_mem _ hy))

theorem sepH_shared {σ : Sg} : ∀ {l : List Ent}, (∀ x ∈ l, x.own = false) → sepH σ l = true
  | [], _ => rfl
  | x :: r, h => by
    simp only [sepH, sepFrom_shared (h x (by simp)) (fun y hy => h y (List.mem_cons_of_mem _ hy)), if_true]
    exact sepH_shared (fun y hy => h y (List.mem_cons_of_mem _ hy))

theorem sent_shared {G tp : Nat} {gs : List (Nat × List UInt8)} : ∀ x ∈ sentEnts G tp gs, x.own = false := fun x hx => by
  obtain ⟨_, _, h | h⟩ := sentEnts_mem hx <;> rw [h]

theorem errs_fitH {G tp : Nat} {H : List Ent} {gs : List Nat} (h : errsIn G tp H gs = true) : fitH [] (sentEnts G tp (textsIn G H gs)) (partL H (srcsOf [] (sentEnts G tp (textsIn G H gs)))) := by
  unfold fitH
  rw [sepH_shared sent_shared, onB_true, srcs_sent]
  refine errsIn_fit h (fun g hg => ?_)
  obtain ⟨h1, h2⟩ := mem_errLabs (G := G) hg
  rw [look_partL, look_partL, if_pos h1, if_pos h2]
  exact ⟨rfl, rfl⟩

end Go.Sx
