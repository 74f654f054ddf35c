/- The engine: a row without elements may be told with any element. -/
import Derived.Test.YtankmgnjkcgpaaaDoorSyBd
set_option linter.unusedSimpArgs false
set_option linter.unusedVariables false
namespace Go.Sx

structure SameC (a b : Ent) : Prop where
  lab : a.lab = b.lab
  own : a.own = b.own
  fa : a.fam = none
  fb : b.fam = none
  wid : a.wid = b.wid
  cells : ∀ ρ, a.t.cells ρ [] = b.t.cells ρ []

theorem SameC.symm {a b : Ent} (h : SameC a b) : SameC b a := ⟨h.lab.symm, h.own.symm, h.fb, h.fa, h.wid.symm, fun ρ => (h.cells ρ).symm⟩
theorem SameC.size {a b : Ent} (h : SameC a b) : a.t.size = b.t.size := by
  have := congrArg List.length (h.cells con0)
  rwa [Tr.cells_length, Tr.cells_length] at this

theorem SameC.holds {a b : Ent} (h : SameC a b) {ρ : Con} {w : World} (k : a.holds ρ w) : b.holds ρ w := by
  unfold Ent.holds at *
  simp only [h.fa] at k
  simp only [h.fb]
  rw [← h.lab, ← h.own, ← h.wid, ← h.cells ρ]
  exact k

theorem SameC.occ {a b : Ent} (h : SameC a b) {ρ : Con} {k : Nat} (q : a.occ ρ k) : b.occ ρ k := by
  obtain ⟨m, h1, h2, h3, h4⟩ := q
  simp only [h.fa] at h1
  subst h1
  refine ⟨0, by simp only [h.fb], by rw [← h.lab]; exact h2, ?_, by rw [← h.lab]; exact h4⟩
  simp only [Ent.tr, h.fa] at h3
  simp only [Ent.tr, h.fb]
  rw [← h.own, ← h.size]; exact h3

def OSim : Option Ent → Option Ent → Prop
  | none, none => True
  | some a, some b => a = b ∨ SameC a b
  | _, _ => False

theorem OSim.refl (a : Option Ent) : OSim a a := by cases a <;> simp [OSim]
theorem OSim.symm {a b : Option Ent} (h : OSim a b) : OSim b a := by
  cases a <;> cases b <;> simp only [OSim] at * <;> try exact h
  rcases h with h | h
  · exact .inl h.symm
  · exact .inr h.symm

theorem OSim.back {a : Option Ent} {b : Ent} (h : OSim a (some b)) : ∃ x, a = some x ∧ (x = b ∨ SameC x b) := by
  cases a with
  | none => exact h.elim
  | some x => exact ⟨x, rfl, h⟩

theorem sim_own {x y : Ent} (h : x = y ∨ SameC x y) : x.own = y.own := by rcases h with rfl | h; rfl; exact h.own
theorem sim_holds {x y : Ent} (h : x = y ∨ SameC x y) {ρ : Con} {w : World} (k : x.holds ρ w) : y.holds ρ w := by rcases h with rfl | h; exact k; exact h.holds k
theorem sim_occ {x y : Ent} (h : x = y ∨ SameC x y) {ρ : Con} {j : Nat} (k : y.occ ρ j) : x.occ ρ j := by rcases h with rfl | h; exact k; exact h.symm.occ k

theorem look_sim {e e' : Ent} (h : SameC e e') : ∀ (A B : List Ent) (l : Nat), OSim (look (A ++ e :: B) l) (look (A ++ e' :: B) l)
  | [], B, l => by
    simp only [List.nil_append, look, h.lab]
    cases hb : Nat.beq e'.lab l with
    | true => simp only [if_true]; exact .inr h
    | false => simp only [Bool.false_eq_true, if_false]; exact OSim.refl _
  | x :: A, B, l => by
    simp only [List.cons_append, look]
    cases hb : Nat.beq x.lab l with
    | true => simp only [if_true]; exact OSim.refl _
    | false => simp only [Bool.false_eq_true, if_false]; exact look_sim h A B l

theorem HoldF.sim {L1 L2 : HF} (h : ∀ l, OSim (L1 l) (L2 l)) {ρ : Con} {w : World} (k : HoldF ρ L1 w) : HoldF ρ L2 w := by
  refine ⟨fun l e he => ?_, fun l e he => ?_, fun l l' e e' he he' hne ho j hj => ?_⟩
  · have := h l
    rw [he] at this
    obtain ⟨x, hx, hs⟩ := this.back
    have hl := k.lab l x hx
    rcases hs with rfl | hs
    · exact hl
    · rw [← hs.lab]; exact hl
  · have := h l
    rw [he] at this
    obtain ⟨x, hx, hs⟩ := this.back
    exact sim_holds hs (k.all l x hx)
  · have h1 := h l
    have h2 := h l'
    rw [he] at h1
    rw [he'] at h2
    obtain ⟨x, hx, hs⟩ := h1.back
    obtain ⟨y, hy, ht⟩ := h2.back
    exact fun q => k.sep l l' x y hx hy hne (by rw [sim_own hs]; exact ho) j (sim_occ hs hj) (sim_occ ht q)

theorem OwnS.sim {L1 L2 : HF} (h : ∀ l, OSim (L1 l) (L2 l)) {ρ : Con} {k : Nat} (q : OwnS ρ L2 k) : OwnS ρ L1 k := by
  obtain ⟨l, x, hx, ho, hk⟩ := q
  have h1 := h l
  rw [hx] at h1
  obtain ⟨y, hy, hs⟩ := h1.back
  exact ⟨l, y, hy, by rw [sim_own hs]; exact ho, sim_occ hs hk⟩

theorem RunsTo.sim {P : Program} {f : FuncId} {t : List Item} {env : List SV} {L1 L2 : HF} {n n' : Nat} {v : SV} {L' : HF} (h : ∀ l, OSim (L1 l) (L2 l)) (r : RunsTo P f t env L2 n v L' n') : RunsTo P f t env L1 n v L' n' := by
  refine ⟨r.1, fun ρ w b a cs h1 h2 h3 h4 h5 h6 => ?_⟩
  obtain ⟨ρ', w', fr, vv, g1, g2, g3, g4, g5⟩ := r.2 ρ w b a cs h1 h2 h3 h4 (h5.sim h) h6
  exact ⟨ρ', w', fr, vv, g1, g2, g3, g4, ⟨g5.agree, g5.hold, g5.frame.mono (fun k hk => .inl (hk.sim h)), fun k hk => by
    rcases g5.own k hk with q | q
    · exact .inl (q.sim h)
    · exact .inr q⟩⟩

theorem RunsTo.row0 {P : Program} {f : FuncId} {t : List Item} {env : List SV} {A B : List Ent} {l wid n n' : Nat} {own : Bool} {u u' : Tr} {v : SV} {L' : HF}
    (r : RunsTo P f t env (look (A ++ (⟨l, own, none, wid, .ta 0 u'⟩ :: B))) n v L' n') : RunsTo P f t env (look (A ++ (⟨l, own, none, wid, .ta 0 u⟩ :: B))) n v L' n' :=
  RunsTo.sim (look_sim (e := ⟨l, own, none, wid, .ta 0 u⟩) (e' := ⟨l, own, none, wid, .ta 0 u'⟩) ⟨rfl, rfl, rfl, rfl, rfl, fun ρ => by simp [Tr.cells]⟩ A B) r

end Go.Sx
