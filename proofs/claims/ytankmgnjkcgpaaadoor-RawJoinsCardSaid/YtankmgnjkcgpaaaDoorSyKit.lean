/- The engine: small facts for the leaves of a run's tree of cases. -/
import Derived.Test.YtankmgnjkcgpaaaDoorSyZ
set_option linter.unusedSimpArgs false
set_option linter.unusedVariables false
namespace Go.Sx

theorem okn : OkL [] := fun p hp => by cases hp
theorem okc {c b : Bool} {d : Conds} (h : c = b) (hd : OkL d) : OkL ((c, b) :: d) := fun p hp => by
  rcases List.mem_cons.1 hp with rfl | hp
  · exact h
  · exact hd p hp

theorem bcase {c : Bool} {P : Prop} (h1 : c = false → P) (h2 : c = true → P) : P := by
  cases h : c with
  | false => exact h1 h
  | true => exact h2 h

theorem wr64 {x : Int} (h : -9223372036854775808 ≤ x ∧ x < 9223372036854775808) : IntKind.i64.wrap x = x := by
  simp only [IntKind.wrap, IntKind.bits, IntKind.signed]
  simp
  omega
theorem wr64s {x : Int} (h1 : -9223372036854775808 ≤ x) (h2 : x < 9223372036854775808) : IntKind.i64.wrap x = x := wr64 ⟨h1, h2⟩

theorem dT {p : Prop} [Decidable p] : (decide p = true) = p := by simp
theorem dF {p : Prop} [Decidable p] : (decide p = false) = ¬ p := by simp
theorem nltT {a b : Nat} : (Nat.blt a b = true) = (a < b) := by rw [Nat.blt_eq]
theorem nltF {a b : Nat} : (Nat.blt a b = false) = (b ≤ a) := by
  rw [← Bool.not_eq_true, Nat.blt_eq]; simp
theorem nleT {a b : Nat} : (Nat.ble a b = true) = (a ≤ b) := by rw [Nat.ble_eq]
theorem nleF {a b : Nat} : (Nat.ble a b = false) = (b < a) := by
  rw [← Bool.not_eq_true, Nat.ble_eq]; simp
theorem neqT {a b : Nat} : (Nat.beq a b = true) = (a = b) := by rw [Nat.beq_eq]
theorem neqF {a b : Nat} : (Nat.beq a b = false) = (a ≠ b) := by
  rw [← Bool.not_eq_true, Nat.beq_eq]
theorem ieqT {α : Type} [BEq α] [LawfulBEq α] {a b : α} : ((a == b) = true) = (a = b) := by simp
theorem ieqF {α : Type} [BEq α] [LawfulBEq α] {a b : α} : ((a == b) = false) = (a ≠ b) := by simp
theorem ineT {α : Type} [BEq α] [LawfulBEq α] {a b : α} : ((a != b) = true) = (a ≠ b) := by simp
theorem ineF {α : Type} [BEq α] [LawfulBEq α] {a b : α} : ((a != b) = false) = (a = b) := by simp
theorem notT {a : Bool} : ((!a) = true) = (a = false) := by simp
theorem notF {a : Bool} : ((!a) = false) = (a = true) := by simp
theorem andT {a b : Bool} : ((a && b) = true) = (a = true ∧ b = true) := by simp
theorem andF {a b : Bool} : ((a && b) = false) = (a = false ∨ b = false) := by cases a <;> cases b <;> simp
theorem orT {a b : Bool} : ((a || b) = true) = (a = true ∨ b = true) := by simp
theorem orF {a b : Bool} : ((a || b) = false) = (a = false ∧ b = false) := by cases a <;> cases b <;> simp

theorem SS : (∀ {p : Prop} [Decidable p], (decide p = true) = p) ∧ (∀ {p : Prop} [Decidable p], (decide p = false) = ¬ p) ∧
    (∀ {a b : Nat}, (Nat.blt a b = true) = (a < b)) ∧ (∀ {a b : Nat}, (Nat.blt a b = false) = (b ≤ a)) ∧ (∀ {a b : Nat}, (Nat.ble a b = true) = (a ≤ b)) ∧ (∀ {a b : Nat}, (Nat.ble a b = false) = (b < a)) ∧
    (∀ {a b : Nat}, (Nat.beq a b = true) = (a = b)) ∧ (∀ {a b : Nat}, (Nat.beq a b = false) = (a ≠ b)) ∧
    (∀ {α : Type} [BEq α] [LawfulBEq α] {a b : α}, ((a == b) = true) = (a = b)) ∧ (∀ {α : Type} [BEq α] [LawfulBEq α] {a b : α}, ((a == b) = false) = (a ≠ b)) ∧
    (∀ {α : Type} [BEq α] [LawfulBEq α] {a b : α}, ((a != b) = true) = (a ≠ b)) ∧ (∀ {α : Type} [BEq α] [LawfulBEq α] {a b : α}, ((a != b) = false) = (a = b)) ∧
    (∀ {a : Bool}, ((!a) = true) = (a = false)) ∧ (∀ {a : Bool}, ((!a) = false) = (a = true)) ∧ (∀ {a b : Bool}, ((a && b) = true) = (a = true ∧ b = true)) ∧ (∀ {a b : Bool}, ((a && b) = false) = (a = false ∨ b = false)) ∧
    (∀ {a b : Bool}, ((a || b) = true) = (a = true ∨ b = true)) ∧ (∀ {a b : Bool}, ((a || b) = false) = (a = false ∧ b = false)) ∧
    (∀ {x : Int}, -9223372036854775808 ≤ x → x < 9223372036854775808 → IntKind.i64.wrap x = x) ∧ (∀ (n : Nat), ((n : Int)).toNat = n) ∧ (∀ (n : Nat), 0 + n = n) ∧ (∀ (n : Nat), n + 0 = n) :=
  ⟨dT, dF, nltT, nltF, nleT, nleF, neqT, neqF, ieqT, ieqF, ineT, ineF, notT, notF, andT, andF, orT, orF, wr64s, Int.toNat_natCast, Nat.zero_add, Nat.add_zero⟩

end Go.Sx
