/- The engine: lists in rows. -/
import Derived.Test.YtankmgnjkcgpaaaDoorSyPc
set_option linter.unusedSimpArgs false
set_option linter.unusedVariables false
namespace Go.Sx

theorem app_get {α β : Type} (f : α → β) (d : α) (a b : List α) (g : Ix → β) (hg : ∀ j, j < b.length → g [j] = f (b.getD j d)) :
    ∀ k, k < (a ++ b).length → f ((a ++ b).getD k d) = appF a.length 0 (fun is => f (a.getD (is.headD 0) d)) g [k] := by
  intro k hk
  simp only [appF, Nat.zero_add, List.headD_cons]
  by_cases h : k < a.length
  · rw [if_pos h]
    simp only [List.getD, List.getElem?_append_left h]
  · rw [if_neg h, hg (k - a.length) (by simp at hk; omega)]
    simp only [List.getD, List.getElem?_append_right (Nat.le_of_not_lt h)]

theorem app_byte (a : List UInt8) (c : UInt8) (g : Ix → Int) (hg : g [0] = (c.toNat : Int)) :
    ∀ k, k < (a ++ [c]).length → (((a ++ [c]).getD k 0).toNat : Int) = appF a.length 0 (fun is => ((a.getD (is.headD 0) 0).toNat : Int)) g [k] :=
  app_get (fun c : UInt8 => (c.toNat : Int)) 0 a [c] g fun j hj => by
    have : j = 0 := by simp at hj; omega
    subst this
    exact hg

def bndB (B : Ix → Int) (n : Nat) : Bool := (List.range n).all fun i => decide (0 ≤ B [i] ∧ B [i] < 256)
theorem bndB_ok {B : Ix → Int} {n : Nat} (h : bndB B n = true) {i : Nat} (hi : i < n) : 0 ≤ B [i] ∧ B [i] < 256 := by
  have := List.all_eq_true.1 h i (by simpa using hi)
  simpa using this
theorem u8id {x : Int} (h : 0 ≤ x ∧ x < 256) : IntKind.u8.wrap x = x := by
  simp only [IntKind.wrap, IntKind.bits, IntKind.signed]
  simp
  omega
theorem u8nat (c : UInt8) : 0 ≤ (c.toNat : Int) ∧ (c.toNat : Int) < 256 := by have := c.toNat_lt; omega
end Go.Sx
