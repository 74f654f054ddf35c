/- The engine: lists in rows. -/
import Derived.Test.YtaleenklamognaaDoorSyPc
set_option linter.unusedSimpArgs false
set_option linter.unusedVariables false
namespace Go.Sx

theorem app_get {α β : Type} (f : α → β) (d : α) (a b : List α) (g : Ix → β) (hg : ∀ j, j < b.length → g [j] = f (b.getD j d)) :
    ∀ k, k < (a ++ b).length → f ((a ++ b).getD k d) = appF a.length 0 (fun is => f (a.getD (is.headD 0) d)) g [k] := by
  intro k hk
  simp only [appF, Nat.zero_add, List.headD_cons]
  by_cases h : k < a.length
  · rw [if_pos h]
    simp only [List.getD, List.getElem?_append_left h]
  · rw [if_neg h, hg (k - a.length) (by simp at hk; omega)]
    simp only [List.getD, List.getElem?_append_right (Nat.le_of_not_lt h)]

theorem app_byte (a : List UInt8) (c : UInt8) (g : Ix → Int) (hg : g [0] = (c.toNat : Int)) :
    ∀ k, k < (a ++ [c]).length → (((a ++ [c]).getD k 0).toNat : Int) = appF a.length 0 (fun is => ((a.getD (is.headD 0) 0).toNat : Int)) g [k] :=
  app_get (fun c : UInt8 => (c.toNat : Int)) 0 a [c] g fun j hj => by
    have : j = 0 := by simp at hj; omega
    subst this
    exact hg

theorem app_bytes (a b : List UInt8) (g : Ix → Int) (hg : ∀ j, j < b.length → g [j] = ((b.getD j 0).toNat : Int)) :
    ∀ k, k < (a ++ b).length → (((a ++ b).getD k 0).toNat : Int) = appF a.length 0 (fun is => ((a.getD (is.headD 0) 0).toNat : Int)) g [k] :=
  app_get (fun c : UInt8 => (c.toNat : Int)) 0 a b g hg

theorem u8nat (c : UInt8) : 0 ≤ (c.toNat : Int) ∧ (c.toNat : Int) < 256 := by have := c.toNat_lt; omega
end Go.Sx
