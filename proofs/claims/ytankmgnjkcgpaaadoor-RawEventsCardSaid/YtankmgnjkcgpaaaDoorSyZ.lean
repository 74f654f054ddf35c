/- The engine, part 35: a table of errors, as it stands in a caller's heap. -/
import Derived.Test.YtankmgnjkcgpaaaDoorSyY
set_option linter.unusedSimpArgs false
set_option linter.unusedVariables false
namespace Go.Sx

def isVar (G tp g : Nat) (e : Ent) : Bool :=
  !e.own && noFam e.fam && Nat.beq e.wid 1 && (match e.t with | .ve t (.vp l m p) => Nat.beq t tp && Nat.beq l (G + g) && Nat.beq (m []) 0 && p.isEmpty | _ => false)

def isObj (e : Ent) : Bool :=
  !e.own && noFam e.fam && Nat.beq e.wid 1 && (match e.t with | .tc (.vs _) .t0 => true | _ => false)

def objText (e : Ent) : List UInt8 := match e.t with | .tc (.vs f) .t0 => f [] | _ => []

def errsIn (G tp : Nat) (H : List Ent) : List Nat → Bool
  | [] => true
  | g :: r => match look H g, look H (G + g) with
    | some a, some b => if isVar G tp g a then (if isObj b then errsIn G tp H r else false) else false
    | _, _ => false

def textsIn (G : Nat) (H : List Ent) : List Nat → List (Nat × List UInt8)
  | [] => []
  | g :: r => (g, match look H (G + g) with | some b => objText b | none => []) :: textsIn G H r

theorem isVar_fit {G tp g : Nat} {H : List Ent} {a : Ent} (h : isVar G tp g a = true) (hl : look H g = some a) : fitEnt [] H ⟨g, false, none, 1, .ve tp (.vp (G + g) (fun _ => 0) [])⟩ := by
  unfold isVar at h
  simp only [Bool.and_eq_true, Bool.not_eq_true'] at h
  obtain ⟨⟨⟨h1, h2⟩, h3⟩, h4⟩ := h
  split at h4
  · rename_i t l m p ht
    simp only [Bool.and_eq_true] at h4
    obtain ⟨⟨⟨k1, k2⟩, k3⟩, k4⟩ := h4
    have k1 := Nat.eq_of_beq_eq_true k1
    have k2 := Nat.eq_of_beq_eq_true k2
    have k3 := Nat.eq_of_beq_eq_true k3
    have k4 := List.isEmpty_iff.1 k4
    have h2 := noFam_ok h2
    have h3 := Nat.eq_of_beq_eq_true h3
    subst k1; subst k2; subst k4
    simp only [fitEnt, sgOf, hl, h1, h3, sameB, beqT rfl, show widB 1 1 = true from rfl, fitTo, h2, ht, fitT, fitP, allB, k3, onB_true]
  · cases h4

theorem isObj_fit {G g : Nat} {H : List Ent} {b : Ent} (h : isObj b = true) (hl : look H (G + g) = some b) : fitEnt [] H ⟨G + g, false, none, 1, .tc (.vs fun _ => objText b) .t0⟩ := by
  unfold isObj at h
  simp only [Bool.and_eq_true, Bool.not_eq_true'] at h
  obtain ⟨⟨⟨h1, h2⟩, h3⟩, h4⟩ := h
  split at h4
  · rename_i f ht
    have h2 := noFam_ok h2
    have h3 := Nat.eq_of_beq_eq_true h3
    have hx : objText b = f [] := by simp only [objText, ht]
    simp only [fitEnt, sgOf, hl, h1, h3, sameB, beqT rfl, show widB 1 1 = true from rfl, fitTo, h2, ht, fitT, allB, onB_true, hx]
  · cases h4

theorem fitEs_cons {σ : Sg} {H : List Ent} {e : Ent} {r : List Ent} (h1 : fitEnt σ H e) (h2 : fitEs σ H r) : fitEs σ H (e :: r) := by
  cases r with
  | nil => exact h1
  | cons x r => exact ⟨h1, h2⟩

def errLabs (G : Nat) : List Nat → List Nat
  | [] => []
  | g :: r => g :: (G + g) :: errLabs G r

theorem mem_errLabs {G g : Nat} : ∀ {gs : List Nat}, g ∈ gs → g ∈ errLabs G gs ∧ G + g ∈ errLabs G gs
  | x :: r, h => by
    simp only [errLabs]
    rcases List.mem_cons.1 h with rfl | h
    · simp
    · have := mem_errLabs (G := G) h; simp [this.1, this.2]

end Go.Sx
