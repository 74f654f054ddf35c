/- The engine: lists in rows. -/
import Derived.Test.YtaleenklamognaaDoorSyPc
set_option linter.unusedSimpArgs false
set_option linter.unusedVariables false
namespace Go.Sx

theorem app_get {α β : Type} (f : α → β) (d : α) (a b : List α) (g : Ix → β) (hg : ∀ j, j < b.length → g [j] = f (b.getD j d)) :
    ∀ k, k < (a ++ b).length → f ((a ++ b).getD k d) = appF a.length 0 (fun is => f (a.getD (is.headD 0) d)) g [k] := by
  intro k hk
  simp only [appF, Nat.zero_add, List.headD_cons]
  by_cases h : k < a.length
  · rw [if_pos h]
    simp only [List.getD, List.getElem?_append_left h]
  · rw [if_neg h, hg (k - a.length) (by simp at hk; omega)]
    simp only [List.getD, List.getElem?_append_right (Nat.le_of_not_lt h)]

theorem app_byte (a : List UInt8) (c : UInt8) (g : Ix → Int) (hg : g [0] = (c.toNat : Int)) :
    ∀ k, k < (a ++ [c]).length → (((a ++ [c]).getD k 0).toNat : Int) = appF a.length 0 (fun is => ((a.getD (is.headD 0) 0).toNat : Int)) g [k] :=
  app_get (fun c : UInt8 => (c.toNat : Int)) 0 a [c] g fun j hj => by
    have : j = 0 := by simp at hj; omega
    subst this
    exact hg

theorem app_byte1 (a : List UInt8) (c : UInt8) (g : Ix → Int) (hg : g [0] = (c.toNat : Int)) :
    ∀ k, k < a.length + 1 → (((a ++ [c]).getD k 0).toNat : Int) = appF a.length 0 (fun is => ((a.getD (is.headD 0) 0).toNat : Int)) g [k] :=
  fun k hk => app_byte a c g hg k (by simpa using hk)

theorem app_bytes (a b : List UInt8) (g : Ix → Int) (hg : ∀ j, j < b.length → g [j] = ((b.getD j 0).toNat : Int)) :
    ∀ k, k < (a ++ b).length → (((a ++ b).getD k 0).toNat : Int) = appF a.length 0 (fun is => ((a.getD (is.headD 0) 0).toNat : Int)) g [k] :=
  app_get (fun c : UInt8 => (c.toNat : Int)) 0 a b g hg

def bndB (B : Ix → Int) (n : Nat) : Bool := (List.range n).all fun i => decide (0 ≤ B [i] ∧ B [i] < 256)
theorem bndB_ok {B : Ix → Int} {n : Nat} (h : bndB B n = true) {i : Nat} (hi : i < n) : 0 ≤ B [i] ∧ B [i] < 256 := by
  have := List.all_eq_true.1 h i (by simpa using hi)
  simpa using this
theorem bndB_of {B : Ix → Int} {n : Nat} (h : ∀ i, i < n → 0 ≤ B [i] ∧ B [i] < 256) : bndB B n = true :=
  List.all_eq_true.2 fun i hi => by simpa using h i (by simpa using hi)
theorem bndB_str (s : List UInt8) (n : Nat) : bndB (fun is => ((s.getD (is.headD 0) 0).toNat : Int)) n = true :=
  bndB_of fun i _ => by have := (s.getD i 0).toNat_lt; simp only [List.headD_cons]; omega

theorem u8w {n : Nat} (h : n < 256) : IntKind.u8.wrap (n : Int) = ((UInt8.ofNat n).toNat : Int) := by
  simp only [IntKind.wrap, IntKind.bits, IntKind.signed]
  simp
theorem u8id {x : Int} (h : 0 ≤ x ∧ x < 256) : IntKind.u8.wrap x = x := by
  simp only [IntKind.wrap, IntKind.bits, IntKind.signed]
  simp
  omega
theorem u8of {x : Int} (h : 0 ≤ x ∧ x < 256) : ((UInt8.ofNat x.toNat).toNat : Int) = x := by
  simp
  omega
theorem u8nat (c : UInt8) : 0 ≤ (c.toNat : Int) ∧ (c.toNat : Int) < 256 := by have := c.toNat_lt; omega
theorem wr1 {i : Nat} (h : i < 9223372036854775807) : IntKind.i64.wrap ((i : Int) + 1) = ((i + 1 : Nat) : Int) := by rw [wr64 (by omega)]; rfl

theorem bytesOf_len (B : Ix → Int) (is : Ix) (st n : Nat) : (bytesOf B is st n).length = n := by simp [bytesOf]
theorem bytesOf_get {B : Ix → Int} {is : Ix} {st n k : Nat} (hk : k < n) : (bytesOf B is st n).getD k 0 = UInt8.ofNat (B (is ++ [st + k])).toNat := by
  simp [bytesOf, List.getD, List.getElem?_map, hk]
theorem bytesOf_nat {B : Ix → Int} {is : Ix} {st n k : Nat} (hk : k < n) (hb : 0 ≤ B (is ++ [st + k]) ∧ B (is ++ [st + k]) < 256) : ((((bytesOf B is st n).getD k 0).toNat : Nat) : Int) = B (is ++ [st + k]) := by
  rw [bytesOf_get hk]; exact u8of hb
theorem bytesOf_list (a : List UInt8) (n : Nat) (h : n ≤ a.length) : bytesOf (fun is => ((a.getD (is.headD 0) 0).toNat : Int)) [] 0 n = a.take n := by
  apply List.ext_getElem?
  intro k
  simp only [bytesOf, List.nil_append, Nat.zero_add, List.headD_cons, List.getElem?_map]
  by_cases hk : k < n
  · rw [List.getElem?_range hk, List.getElem?_take_of_lt hk, List.getElem?_eq_getElem (by omega)]
    simp [List.getD, List.getElem?_eq_getElem (show k < a.length by omega)]
  · rw [List.getElem?_eq_none (by simp; omega), List.getElem?_eq_none (by simp; omega)]
    rfl
theorem bytesOf_full (a : List UInt8) : bytesOf (fun is => ((a.getD (is.headD 0) 0).toNat : Int)) [] 0 a.length = a := by
  rw [bytesOf_list a _ (Nat.le_refl _), List.take_length]

abbrev rE (l : Nat) (a : List UInt8) : List Ent := [⟨l, true, none, 1, .ta a.length (strEl a)⟩]
abbrev rS (l : Nat) (a : List UInt8) : SV := .v (.vl l (fun _ => 0) 1 [] (fun _ => a.length))

theorem allEq_of {f g : Ix → Int} {n : Nat} (h : ∀ i, i < n → f [i] = g [i]) : allEq f g n = true :=
  List.all_eq_true.2 fun i hi => by rw [h i (by simpa using hi)]; simp
theorem allEq_iff {f g : Ix → Int} {n : Nat} : allEq f g n = true ↔ ∀ i, i < n → f [i] = g [i] :=
  ⟨fun h i hi => by have := List.all_eq_true.1 h i (by simpa using hi); simpa using this, allEq_of⟩

theorem ta_u8 {W : World} {n : Nat} {cs : List Value} (h : (Sh.ta n (.ki .u8)).Is W cs) : ∀ i, i < n → 0 ≤ Sx.intOf (cs.getD i undef) ∧ Sx.intOf (cs.getD i undef) < 256 := by
  obtain ⟨f, hc, hf⟩ := h
  intro i hi
  have e1 : ∀ x, x < n → ∃ k : Int, f x = [.int .u8 k] ∧ 0 ≤ k ∧ k < 256 := by
    intro x hx
    obtain ⟨k, hk, hw⟩ := (hf x hx).2
    exact ⟨k, hk, bnd_u8 hw⟩
  have hl : ∀ m, m ≤ n → ((List.range m).flatMap f).length = m := by
    intro m
    induction m with
    | zero => intro _; rfl
    | succ m ih =>
      intro hm
      obtain ⟨k, hk, _⟩ := e1 m (by omega)
      rw [List.range_succ, List.flatMap_append, List.length_append, ih (by omega)]
      simp [hk]
  obtain ⟨k, hk, hb⟩ := e1 i hi
  have : cs.getD i undef = .int .u8 k := by
    rw [hc, range_split n i hi, List.flatMap_append, List.flatMap_cons, hk]
    simp only [List.getD]
    rw [List.getElem?_append_right (by rw [hl i (by omega)]; exact Nat.le_refl _), hl i (by omega)]
    simp
  rw [this]
  exact hb
theorem ki_u8 {W : World} {cs : List Value} (h : (Sh.ki .u8).Is W cs) : 0 ≤ Sx.intOf (cs.getD 0 undef) ∧ Sx.intOf (cs.getD 0 undef) < 256 := by
  obtain ⟨k, rfl, hw⟩ := h
  exact bnd_u8 hw
theorem getD_left {α : Type} {a b : List α} {i : Nat} (h : i < a.length) (d : α) : (a ++ b).getD i d = a.getD i d := by simp [List.getD, List.getElem?_append_left h]
theorem getD_right {α : Type} {a b : List α} {i k : Nat} (h : a.length = k) (d : α) : (a ++ b).getD (k + i) d = b.getD i d := by subst h; simp [List.getD, List.getElem?_append_right]

end Go.Sx
