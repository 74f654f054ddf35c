/- The engine, part 30: the trees and entries of what is read. -/
import Derived.Test.YtankmgnjkcgpaaaDoorSyT
set_option linter.unusedSimpArgs false
set_option linter.unusedVariables false
namespace Go.Sx

abbrev Rd := Ix → Nat → Value

def trOf : Sh → Nat → Rd → Nat → Tr
  | .kb, _, g, o => .vb fun is => boolOf (g is o)
  | .ki k, _, g, o => .vi k fun is => intOf (g is o)
  | .ks, _, g, o => .vs fun is => strOf (g is o)
  | .sl e, lab, g, o => .vl lab (fun is => is.headD 0) e.size [] (fun is => lenOf (g is o))
  | .t0, _, _, _ => .t0
  | .tc h t, lab, g, o => .tc (trOf h lab g o) (trOf t (lab + h.slots) g (o + h.size))
  | .ta n e, lab, g, o => .ta n (trOf e lab (fun is j => g is.dropLast (o + is.getLastD 0 * e.size + j)) 0)

def rdOf (w : World) (sz : Nat) (g : Rd) (o : Nat) : Rd := fun is j => (rowsOf w sz (g is.dropLast o) (is.getLastD 0)).getD j undef

def LabAt (ρ : Con) : Sh → Nat → Rd → Nat → Ix → Prop
  | .sl e, lab, g, o, is => ρ lab (is.headD 0) = locOf e.size (g is o)
  | .tc h t, lab, g, o, is => LabAt ρ h lab g o is ∧ LabAt ρ t (lab + h.slots) g (o + h.size) is
  | _, _, _, _, _ => True

theorem labAt_flat {ρ : Con} : ∀ {sh : Sh} {lab : Nat} {g : Rd} {o : Nat} {is : Ix}, sh.flat = true → LabAt ρ sh lab g o is := by
  intro sh
  induction sh with
  | sl e _ => intro lab g o is h; cases h
  | tc h t iha ihb =>
    intro lab g o is hf
    simp only [Sh.flat] at hf
    split at hf
    · rename_i h1; exact ⟨iha h1, ihb hf⟩
    · cases hf
  | _ => intro lab g o is _; trivial

def Sh.good : Sh → Bool
  | .sl e => e.good
  | .tc h t => if h.good then t.good else false
  | .ta _ e => e.flat
  | _ => true

theorem flat_good : ∀ {sh : Sh}, sh.flat = true → sh.good = true := by
  intro sh
  induction sh with
  | sl e _ => intro h; cases h
  | tc h t iha ihb =>
    intro hf
    simp only [Sh.flat] at hf
    split at hf
    · rename_i h1; simp only [Sh.good, iha h1, if_true, ihb hf]
    · cases hf
  | ta n e _ => intro h; exact h
  | _ => intro _; rfl

theorem getLastD_snoc (is : Ix) (i d : Nat) : (is ++ [i]).getLastD d = i := by simp
theorem dropLast_snoc (is : Ix) (i : Nat) : (is ++ [i]).dropLast = is := by simp

theorem trOf_cells {w : World} {ρ : Con} : ∀ {sh : Sh} {lab : Nat} {g : Rd} {o : Nat} {is : Ix} {cs : List Value}, sh.good = true → sh.Is w cs → (∀ j, j < sh.size → g is (o + j) = cs.getD j undef) → LabAt ρ sh lab g o is →
    (trOf sh lab g o).cells ρ is = cs := by
  intro sh
  induction sh with
  | kb =>
    intro lab g o is cs _ h hg _
    obtain ⟨x, rfl⟩ := h
    have := hg 0 (Nat.zero_lt_one)
    simp only [Nat.add_zero] at this
    simp [trOf, Tr.cells, Tr.val, this, boolOf]
  | ki k =>
    intro lab g o is cs _ h hg _
    obtain ⟨x, rfl, _⟩ := h
    have := hg 0 (Nat.zero_lt_one)
    simp only [Nat.add_zero] at this
    simp [trOf, Tr.cells, Tr.val, this, intOf]
  | ks =>
    intro lab g o is cs _ h hg _
    obtain ⟨⟨x⟩, rfl, _⟩ := h
    have := hg 0 (Nat.zero_lt_one)
    simp only [Nat.add_zero] at this
    simp [trOf, Tr.cells, Tr.val, this, strOf]
  | sl e _ =>
    intro lab g o is cs _ h hg hl
    obtain ⟨v, rfl, hv, _⟩ := h
    have := hg 0 (by simp [Sh.size])
    simp only [Nat.add_zero] at this
    have hgv : g is o = v := by simpa using this
    simp only [LabAt, hgv] at hl
    simp only [trOf, Tr.cells, Tr.val, hl, hgv]
    rw [show ([v] : List Value) = [slVal (locOf e.size v) (lenOf v)] by rw [← hv]]
    simp [slVal, rsOf, sum]
  | t0 =>
    intro lab g o is cs _ h _ _
    simp only [Sh.Is] at h
    subst h
    rfl
  | tc h t iha ihb =>
    intro lab g o is cs hgood hh hg hl
    obtain ⟨x, y, rfl, hxl, hx, hy⟩ := hh
    simp only [Sh.good] at hgood
    split at hgood
    · rename_i g1
      have hyl := is_len hy
      simp only [trOf, Tr.cells]
      rw [iha g1 hx (fun j hj => by
          rw [hg j (by simp only [Sh.size]; omega)]
          simp only [List.getD_eq_getElem?_getD]
          rw [List.getElem?_append_left (by omega)]) hl.1,
        ihb hgood hy (fun j hj => by
          have := hg (h.size + j) (by simp only [Sh.size]; omega)
          rw [← Nat.add_assoc] at this
          rw [this]
          simp only [List.getD_eq_getElem?_getD]
          rw [List.getElem?_append_right (by omega)]
          congr 2; omega) hl.2]
    · cases hgood
  | ta n e ih =>
    intro lab g o is cs hgood h hg _
    obtain ⟨f, rfl, hf⟩ := h
    simp only [trOf, Tr.cells]
    apply flatMap_congr
    intro i hi
    have hi : i < n := by simpa using hi
    refine ih (flat_good hgood) (hf i hi).2 (fun j hj => ?_) (labAt_flat hgood)
    simp only [dropLast_snoc, getLastD_snoc, Nat.zero_add]
    have hlt : i * e.size + j < n * e.size := by
      have : (i + 1) * e.size ≤ n * e.size := Nat.mul_le_mul_right _ hi
      rw [Nat.succ_mul] at this
      omega
    have := hg (i * e.size + j) hlt
    rw [← Nat.add_assoc] at this
    rw [this]
    -- the j-th of the i-th row
    have hall : ∀ m, m ≤ n → ((List.range m).flatMap f).length = m * e.size := by
      intro m
      induction m with
      | zero => simp
      | succ m ihm =>
        intro hm
        rw [List.range_succ, List.flatMap_append, List.length_append, ihm (by omega)]
        simp only [List.flatMap_cons, List.flatMap_nil, List.append_nil, (hf m (by omega)).1, Nat.succ_mul]
    have hsp : (List.range n).flatMap f = (List.range i).flatMap f ++ (f i ++ (List.range' (i + 1) (n - (i + 1))).flatMap f) := by
      rw [range_split n i hi]; simp
    simp only [List.getD_eq_getElem?_getD]
    rw [hsp, List.getElem?_append_right (by rw [hall i (by omega)]; omega), hall i (by omega), Nat.add_sub_cancel_left, List.getElem?_append_left (by rw [(hf i hi).1]; exact hj)]

def entsOf (w : World) : Sh → Option Nat → Nat → Rd → Nat → List Ent
  | .sl e, none, lab, g, o => ⟨lab, false, none, e.size, .ta (lenOf (g [] o)) (trOf e (lab + 1) (rdOf w e.size g o) 0)⟩ :: entsOf w e (some (lenOf (g [] o))) (lab + 1) (rdOf w e.size g o) 0
  | .sl e, some n, lab, g, o => [⟨lab, false, some (n, fun i => lenOf (g [i] o)), e.size, trOf e (lab + 1) (rdOf w e.size g o) 0⟩]
  | .tc h t, c, lab, g, o => entsOf w h c lab g o ++ entsOf w t c (lab + h.slots) g (o + h.size)
  | _, _, _, _, _ => []

def Sh.deep : Sh → Nat → Bool
  | .sl _, 0 => false
  | .sl e, n + 1 => e.deep n
  | .tc h t, n => if h.deep n then t.deep n else false
  | .ta _ e, _ => e.flat
  | _, _ => true

theorem deep0 : ∀ {sh : Sh}, sh.deep 0 = true → sh.flat = true := by
  intro sh
  induction sh with
  | sl e _ => intro h; cases h
  | tc h t iha ihb =>
    intro hf
    simp only [Sh.deep] at hf
    split at hf
    · rename_i h1; simp only [Sh.flat, iha h1, if_true, ihb hf]
    · cases hf
  | ta n e _ => intro h; exact h
  | _ => intro _; rfl

theorem deep_good : ∀ {sh : Sh} {n : Nat}, sh.deep n = true → sh.good = true := by
  intro sh
  induction sh with
  | sl e ih =>
    intro n h
    cases n with
    | zero => cases h
    | succ n => exact ih h
  | tc h t iha ihb =>
    intro n hf
    simp only [Sh.deep] at hf
    split at hf
    · rename_i h1; simp only [Sh.good, iha h1, if_true, ihb hf]
    · cases hf
  | ta n e _ => intro n h; exact h
  | _ => intro n _; rfl

def LOK (w : World) (ρ : Con) : Sh → Option Nat → Nat → Rd → Nat → Prop
  | .sl e, none, lab, g, o => (∀ m, ρ lab m = locOf e.size (g [] o)) ∧ LOK w ρ e (some 0) (lab + 1) (rdOf w e.size g o) 0
  | .sl e, some _, lab, g, o => ∀ m, ρ lab m = locOf e.size (g [m] o)
  | .tc h t, c, lab, g, o => LOK w ρ h c lab g o ∧ LOK w ρ t c (lab + h.slots) g (o + h.size)
  | _, _, _, _, _ => True

def setC (ρ : Con) (l : Nat) (f : Nat → Loc) : Con := fun k => if k = l then f else ρ k

def conOf (w : World) : Sh → Option Nat → Nat → Rd → Nat → Con → Con
  | .sl e, none, lab, g, o, ρ => setC (conOf w e (some 0) (lab + 1) (rdOf w e.size g o) 0 ρ) lab (fun _ => locOf e.size (g [] o))
  | .sl e, some _, lab, g, o, ρ => setC ρ lab (fun m => locOf e.size (g [m] o))
  | .tc h t, c, lab, g, o, ρ => conOf w h c lab g o (conOf w t c (lab + h.slots) g (o + h.size) ρ)
  | _, _, _, _, _, ρ => ρ

theorem conOf_out {w : World} : ∀ {sh : Sh} {c : Option Nat} {lab : Nat} {g : Rd} {o : Nat} {ρ : Con} {l : Nat}, (l < lab ∨ lab + sh.slots ≤ l) → conOf w sh c lab g o ρ l = ρ l := by
  intro sh
  induction sh with
  | sl e ih =>
    intro c lab g o ρ l hl
    simp only [Sh.slots] at hl
    cases c with
    | none => simp only [conOf, setC]; rw [if_neg (by omega), ih (by omega)]
    | some n => simp only [conOf, setC]; rw [if_neg (by omega)]
  | tc h t iha ihb =>
    intro c lab g o ρ l hl
    simp only [Sh.slots] at hl
    simp only [conOf]
    rw [iha (by omega), ihb (by omega)]
  | _ => intro c lab g o ρ l _; rfl

theorem LOK.agree {w : World} {ρ ρ' : Con} : ∀ {sh : Sh} {c : Option Nat} {lab : Nat} {g : Rd} {o : Nat}, (∀ l, lab ≤ l → l < lab + sh.slots → ρ' l = ρ l) → LOK w ρ sh c lab g o → LOK w ρ' sh c lab g o := by
  intro sh
  induction sh with
  | sl e ih =>
    intro c lab g o h hl
    simp only [Sh.slots] at h
    cases c with
    | none => exact ⟨fun m => by rw [h lab (by omega) (by omega)]; exact hl.1 m, ih (fun l h1 h2 => h l (by omega) (by omega)) hl.2⟩
    | some n => exact fun m => by rw [h lab (by omega) (by omega)]; exact hl m
  | tc a b iha ihb =>
    intro c lab g o h hl
    simp only [Sh.slots] at h
    exact ⟨iha (fun l h1 h2 => h l (by omega) (by omega)) hl.1, ihb (fun l h1 h2 => h l (by omega) (by omega)) hl.2⟩
  | _ => intro c lab g o _ _; trivial

theorem conOf_ok {w : World} : ∀ {sh : Sh} {c : Option Nat} {lab : Nat} {g : Rd} {o : Nat} {ρ : Con}, LOK w (conOf w sh c lab g o ρ) sh c lab g o := by
  intro sh
  induction sh with
  | sl e ih =>
    intro c lab g o ρ
    cases c with
    | none =>
      refine ⟨fun m => by simp [conOf, setC], ?_⟩
      refine LOK.agree (ρ := conOf w e (some 0) (lab + 1) (rdOf w e.size g o) 0 ρ) (fun l h1 h2 => ?_) ih
      simp only [conOf, setC]
      rw [if_neg (by omega)]
    | some n => intro m; simp [conOf, setC]
  | tc a b iha ihb =>
    intro c lab g o ρ
    refine ⟨iha, LOK.agree (fun l h1 h2 => ?_) (ihb (ρ := ρ))⟩
    simp only [conOf]
    exact conOf_out (by omega)
  | _ => intro c lab g o ρ; trivial

theorem LOK.top {w : World} {ρ : Con} : ∀ {sh : Sh} {lab : Nat} {g : Rd} {o : Nat}, LOK w ρ sh none lab g o → LabAt ρ sh lab g o [] := by
  intro sh
  induction sh with
  | sl e _ => intro lab g o h; exact h.1 0
  | tc a b iha ihb => intro lab g o h; exact ⟨iha h.1, ihb h.2⟩
  | _ => intro lab g o _; trivial

theorem LOK.row {w : World} {ρ : Con} {n : Nat} : ∀ {sh : Sh} {lab : Nat} {g : Rd} {o : Nat} (i : Nat), LOK w ρ sh (some n) lab g o → LabAt ρ sh lab g o [i] := by
  intro sh
  induction sh with
  | sl e _ => intro lab g o i h; exact h i
  | tc a b iha ihb => intro lab g o i h; exact ⟨iha i h.1, ihb i h.2⟩
  | _ => intro lab g o i _; trivial

theorem LOK.any {w : World} {ρ : Con} {n m : Nat} : ∀ {sh : Sh} {lab : Nat} {g : Rd} {o : Nat}, LOK w ρ sh (some n) lab g o → LOK w ρ sh (some m) lab g o := by
  intro sh
  induction sh with
  | sl e _ => intro lab g o h; exact h
  | tc a b iha ihb => intro lab g o h; exact ⟨iha h.1, ihb h.2⟩
  | _ => intro lab g o _; trivial

theorem rows_hold {w : World} {ρ : Con} {n : Nat} : ∀ {sh : Sh} {lab : Nat} {g : Rd} {o : Nat} {cs : Nat → List Value}, sh.deep 1 = true → (∀ i, i < n → sh.Is w (cs i)) → (∀ i, i < n → ∀ j, j < sh.size → g [i] (o + j) = (cs i).getD j undef) →
    LOK w ρ sh (some n) lab g o → ∀ e ∈ entsOf w sh (some n) lab g o, e.holds ρ w := by
  intro sh
  induction sh with
  | sl e _ =>
    intro lab g o cs hd h hg hl x hx
    simp only [entsOf, List.mem_singleton] at hx
    subst hx
    have hef := deep0 (sh := e) hd
    unfold Ent.holds
    intro m hm
    obtain ⟨v, hv, hv2, hmax, hpos, hlies, hrows⟩ := h m hm
    have hgv : g [m] o = v := by
      have := hg m hm 0 (by simp [Sh.size])
      rw [hv] at this
      simpa using this
    simp only [hl m, hgv]
    have hcells : (Tr.ta (lenOf v) (trOf e (lab + 1) (rdOf w e.size g o) 0)).cells ρ [m] = (List.range (lenOf v)).flatMap (rowsOf w e.size v) := by
      simp only [Tr.cells]
      apply flatMap_congr
      intro i hi
      refine trOf_cells (flat_good hef) (hrows i (by simpa using hi)) (fun j hj => ?_) (labAt_flat hef)
      simp only [rdOf, List.cons_append, List.nil_append, Nat.zero_add]
      rw [show ([m, i] : Ix).dropLast = [m] from rfl, show ([m, i] : Ix).getLastD 0 = i from rfl, hgv]
    rw [hcells]
    exact hlies
  | tc a b iha ihb =>
    intro lab g o cs hd h hg hl x hx
    simp only [Sh.deep] at hd
    split at hd
    · rename_i hda
      simp only [entsOf, List.mem_append] at hx
      have ha : ∀ i, i < n → a.Is w ((cs i).take a.size) ∧ b.Is w ((cs i).drop a.size) := fun i hi => by
        obtain ⟨p, q, e, hpl, hp, hq⟩ := h i hi
        rw [e, ← hpl]
        simpa using ⟨hp, hq⟩
      rcases hx with hx | hx
      · refine iha hda (fun i hi => (ha i hi).1) (fun i hi j hj => ?_) hl.1 x hx
        rw [hg i hi j (by simp only [Sh.size]; omega)]
        simp only [List.getD_eq_getElem?_getD]
        rw [List.getElem?_take_of_lt hj]
      · refine ihb hd (fun i hi => (ha i hi).2) (fun i hi j hj => ?_) hl.2 x hx
        have := hg i hi (a.size + j) (by simp only [Sh.size]; omega)
        rw [← Nat.add_assoc] at this
        rw [this]
        simp only [List.getD_eq_getElem?_getD, List.getElem?_drop]
    · cases hd
  | _ => intro lab g o cs _ _ _ _ x hx; simp [entsOf] at hx

theorem top_hold {w : World} {ρ : Con} : ∀ {sh : Sh} {lab : Nat} {g : Rd} {o : Nat} {cs : List Value}, sh.deep 2 = true → sh.Is w cs → (∀ j, j < sh.size → g [] (o + j) = cs.getD j undef) →
    LOK w ρ sh none lab g o → ∀ e ∈ entsOf w sh none lab g o, e.holds ρ w := by
  intro sh
  induction sh with
  | sl e _ =>
    intro lab g o cs hd h hg hl x hx
    obtain ⟨v, hv, hv2, hmax, hpos, hlies, hrows⟩ := h
    have hgv : g [] o = v := by
      have := hg 0 (by simp [Sh.size])
      rw [hv] at this
      simpa using this
    have hrd : ∀ i, ∀ j, rdOf w e.size g o [i] (0 + j) = (rowsOf w e.size v i).getD j undef := fun i j => by
      simp only [rdOf, Nat.zero_add]
      rw [show ([i] : Ix).dropLast = [] from rfl, show ([i] : Ix).getLastD 0 = i from rfl, hgv]
    simp only [entsOf, List.mem_cons] at hx
    rcases hx with rfl | hx
    · unfold Ent.holds
      simp only [hl.1, hgv]
      have hcells : (Tr.ta (lenOf v) (trOf e (lab + 1) (rdOf w e.size g o) 0)).cells ρ [] = (List.range (lenOf v)).flatMap (rowsOf w e.size v) := by
        simp only [Tr.cells]
        apply flatMap_congr
        intro i hi
        exact trOf_cells (deep_good (show e.deep 1 = true from hd)) (hrows i (by simpa using hi)) (fun j _ => hrd i j) (LOK.row i hl.2)
      rw [hcells]
      exact hlies
    · rw [hgv] at hx
      exact rows_hold (show e.deep 1 = true from hd) (cs := rowsOf w e.size v) hrows (fun i _ j _ => hrd i j) hl.2.any x hx
  | tc a b iha ihb =>
    intro lab g o cs hd h hg hl x hx
    obtain ⟨p, q, rfl, hpl, hp, hq⟩ := h
    simp only [Sh.deep] at hd
    split at hd
    · rename_i hda
      simp only [entsOf, List.mem_append] at hx
      rcases hx with hx | hx
      · refine iha hda hp (fun j hj => ?_) hl.1 x hx
        rw [hg j (by simp only [Sh.size]; omega)]
        simp only [List.getD_eq_getElem?_getD]
        rw [List.getElem?_append_left (by omega)]
      · refine ihb hd hq (fun j hj => ?_) hl.2 x hx
        have := hg (a.size + j) (by simp only [Sh.size]; omega)
        rw [← Nat.add_assoc] at this
        rw [this]
        simp only [List.getD_eq_getElem?_getD]
        rw [List.getElem?_append_right (by omega)]
        congr 2; omega
    · cases hd
  | _ => intro lab g o cs _ _ _ _ x hx; simp [entsOf] at hx

theorem ents_lab {w : World} : ∀ {sh : Sh} {c : Option Nat} {lab : Nat} {g : Rd} {o : Nat}, ∀ e ∈ entsOf w sh c lab g o, e.own = false ∧ lab ≤ e.lab ∧ e.lab < lab + sh.slots := by
  intro sh
  induction sh with
  | sl e ih =>
    intro c lab g o x hx
    cases c with
    | none =>
      simp only [entsOf, List.mem_cons] at hx
      rcases hx with rfl | hx
      · exact ⟨rfl, Nat.le_refl _, by simp [Sh.slots]⟩
      · obtain ⟨h1, h2, h3⟩ := ih x hx
        exact ⟨h1, by omega, by simp only [Sh.slots]; omega⟩
    | some n =>
      simp only [entsOf, List.mem_singleton] at hx
      subst hx
      exact ⟨rfl, Nat.le_refl _, by simp [Sh.slots]⟩
  | tc a b iha ihb =>
    intro c lab g o x hx
    simp only [entsOf, List.mem_append] at hx
    simp only [Sh.slots]
    rcases hx with hx | hx
    · obtain ⟨h1, h2, h3⟩ := iha x hx; exact ⟨h1, h2, by omega⟩
    · obtain ⟨h1, h2, h3⟩ := ihb x hx; exact ⟨h1, by omega, by omega⟩
  | _ => intro c lab g o x hx; simp [entsOf] at hx

end Go.Sx
