/- The engine: a row without elements may be told with any element. -/
import Derived.Test.YtankmgnjkcgpaaaDoorSyBd
set_option linter.unusedSimpArgs false
set_option linter.unusedVariables false
namespace Go.Sx

structure SameC (a b : Ent) : Prop where
  lab : a.lab = b.lab
  own : a.own = b.own
  fa : a.fam = none
  fb : b.fam = none
  wid : a.wid = b.wid
  cells : ∀ ρ, a.t.cells ρ [] = b.t.cells ρ []

theorem SameC.symm {a b : Ent} (h : SameC a b) : SameC b a := ⟨h.lab.symm, h.own.symm, h.fb, h.fa, h.wid.symm, fun ρ => (h.cells ρ).symm⟩
theorem SameC.size {a b : Ent} (h : SameC a b) : a.t.size = b.t.size := by
  have := congrArg List.length (h.cells con0)
  rwa [Tr.cells_length, Tr.cells_length] at this

theorem SameC.holds {a b : Ent} (h : SameC a b) {ρ : Con} {w : World} (k : a.holds ρ w) : b.holds ρ w := by
  unfold Ent.holds at *
  simp only [h.fa] at k
  simp only [h.fb]
  rw [← h.lab, ← h.own, ← h.wid, ← h.cells ρ]
  exact k

theorem SameC.occ {a b : Ent} (h : SameC a b) {ρ : Con} {k : Nat} (q : a.occ ρ k) : b.occ ρ k := by
  obtain ⟨m, h1, h2, h3, h4⟩ := q
  simp only [h.fa] at h1
  subst h1
  refine ⟨0, by simp only [h.fb], by rw [← h.lab]; exact h2, ?_, by rw [← h.lab]; exact h4⟩
  simp only [Ent.tr, h.fa] at h3
  simp only [Ent.tr, h.fb]
  rw [← h.own, ← h.size]; exact h3

def OSim : Option Ent → Option Ent → Prop
  | none, none => True
  | some a, some b => a = b ∨ SameC a b
  | _, _ => False

theorem OSim.refl (a : Option Ent) : OSim a a := by cases a <;> simp [OSim]
theorem OSim.symm {a b : Option Ent} (h : OSim a b) : OSim b a := by
  cases a <;> cases b <;> simp only [OSim] at * <;> try exact h
  rcases h with h | h
  · exact .inl h.symm
  · exact .inr h.symm

end Go.Sx
