/- The engine, part 32b: the tables that a program's variables hold. -/
import Derived.Test.YtankmgnjkcgpaaaDoorSyW
import Derived.OpenShut
set_option linter.unusedSimpArgs false
set_option linter.unusedVariables false
namespace Go.Sx
open Go.ChangeShapes

structure TabAt (W : World) (g n : Nat) (t : Tr) : Prop where
  labs : t.labs = []
  len : t.size = n
  cell : ∀ ρ j v, (t.cells ρ [])[j]? = some v → W.cell? ⟨g, j, none⟩ = some v

theorem laid_mem {P : Program} {W : World} {nm : String} {D : DataW Unit} : ∀ {l : List (String × DataW Unit)} {ps : List MemPlace}, DataW.LaidVars P W l ps → (nm, D) ∈ l →
    ∃ g t cs fuel p, P.globalNamed nm = some g ∧ (P.globals[g]?).map (·.type) = some t ∧ W.var? P nm = some cs ∧ DataW.trod (fun _ => ()) P W 0 (fun _ => true) false fuel t cs.toList = some (D, p)
  | [], _, _, h => by cases h
  | (n, d) :: r, ps, hv, h => by
    obtain ⟨g0, t0, cs0, f0, p0, q0, hg0, ht0, hv0, hd0, hrest, rfl⟩ := hv
    rcases List.mem_cons.1 h with h | h
    · cases h
      exact ⟨g0, t0, cs0, f0, p0, hg0, ht0, hv0, hd0⟩
    · exact laid_mem hrest h

def intTr (k : IntKind) (ts : List Int) : Tr := .ta ts.length (.vi k fun is => ts.getD (is.headD 0) 0)

theorem arr_cells {α : Type} [Inhabited α] (f : Nat → List Value) (g : Nat → Value) (hf : ∀ i, f i = [g i]) (n : Nat) : (List.range n).flatMap f = (List.range n).map g := by
  have : f = fun i => [g i] := funext hf
  rw [this]
  induction n with
  | zero => rfl
  | succ n ih => rw [List.range_succ, List.flatMap_append, ih, List.map_append]; simp

theorem int_tab {P : Program} {W : World} {l : List (String × DataW Unit)} {nm : String} {k : IntKind} {ts : List Int} {g t e : Nat} (h : laidMet P l W) (hm : (nm, DataW.agg (ts.map fun s => .lit (.int k s))) ∈ l)
    (hg : P.globalNamed nm = some g) (ht : (P.globals[g]?).map (·.type) = some t) (hu : P.underlying t = some (.array ts.length e)) (he : P.underlying e = some (.int k)) (hc : P.cellsOf e = 1) : TabAt W g ts.length (intTr k ts) := by
  obtain ⟨ps, hv, _, _⟩ := h
  obtain ⟨g', t', cs, fuel, p, hg', ht', hv', hd⟩ := laid_mem hv hm
  obtain rfl := Option.some.inj (hg.symm.trans hg')
  obtain rfl := Option.some.inj (ht.symm.trans ht')
  obtain ⟨xs, m, _, ex, _, hl, hel⟩ := DataW.trod_array hu hd
  have ex1 : (xs.map (·.1)) = ts.map fun s => (DataW.lit (.int k s) : DataW Unit) := (DataW.agg.inj (Prod.mk.inj ex).1).symm
  refine ⟨rfl, by simp [intTr, Tr.size], fun ρ j v hj => ?_⟩
  simp only [intTr, Tr.cells] at hj
  rw [arr_cells (α := Nat) _ (fun i => .int k (ts.getD i 0)) (fun i => by rfl) ts.length, List.getElem?_map] at hj
  by_cases hjl : j < ts.length
  · rw [List.getElem?_range hjl] at hj
    simp only [Option.map_some, Option.some.injEq] at hj
    subst hj
    have hE := hel j hjl
    rw [hc, Nat.mul_one, List.getElem?_eq_getElem (by omega)] at hE
    obtain ⟨s, e1, e2, _⟩ := DataW.trod_int he hE
    have e4 : (xs.map (·.1))[j]? = (ts.map fun s => (DataW.lit (.int k s) : DataW Unit))[j]? := by rw [ex1]
    rw [List.getElem?_map, List.getElem?_map, List.getElem?_eq_getElem (by omega : j < xs.length), List.getElem?_eq_getElem hjl, e2] at e4
    simp only [Option.map_some, Option.some.injEq, DataW.lit.injEq, Lit.int.injEq, true_and] at e4
    have hs : ts.getD j 0 = s := by
      rw [List.getD_eq_getElem?_getD, List.getElem?_eq_getElem hjl, Option.getD_some, ← e4]
    rw [World.var?_cell hg hv' j, hs]
    have : cs.toList[j]? = some (.int k s) := by
      have h0 : ((cs.toList.drop j).take 1)[0]? = some (.int k s) := by rw [e1]; rfl
      simpa using h0
    simpa using this
  · rw [List.getElem?_eq_none (by simpa using hjl)] at hj; cases hj

def tabEnts (tb : List (Nat × Nat × Tr)) : List Ent := tb.map fun x => ⟨x.1, false, none, x.2.1, x.2.2⟩

def widT (l : Nat) : List (Nat × Nat × Tr) → Nat
  | [] => 1
  | x :: r => if Nat.beq x.1 l then x.2.1 else widT l r

def conT (P : Program) (W : World) (gs : List (Nat × List UInt8)) (tb : List (Nat × Nat × Tr)) : Con := fun l m =>
  if l < P.globals.size then ⟨l, 0, 1, widT l tb, false, none, false⟩ else conS P W gs l m

def apartT (gs : List (Nat × List UInt8)) : List (Nat × Nat × Tr) → Bool
  | [] => true
  | x :: r => (!hasG x.1 gs) && (apartT gs r && (Nat.blt x.2.1 1000000 && r.all fun y => !Nat.beq x.1 y.1))

theorem widT_mem : ∀ {tb : List (Nat × Nat × Tr)} {gs : List (Nat × List UInt8)} {x : Nat × Nat × Tr}, apartT gs tb = true → x ∈ tb → widT x.1 tb = x.2.1 ∧ hasG x.1 gs = false ∧ x.2.1 < 1000000
  | y :: r, gs, x, h, hx => by
    simp only [apartT, Bool.and_eq_true, Bool.not_eq_true', List.all_eq_true] at h
    obtain ⟨h1, h2, hb, h3⟩ := h
    rcases List.mem_cons.1 hx with rfl | hx
    · exact ⟨by simp [widT], h1, by simpa [Nat.blt_eq] using hb⟩
    · obtain ⟨i1, i2⟩ := widT_mem h2 hx
      have := h3 x hx
      exact ⟨by simp [widT, this, i1], i2⟩

theorem widT_gs : ∀ {tb : List (Nat × Nat × Tr)} {gs : List (Nat × List UInt8)} {g : Nat}, apartT gs tb = true → hasG g gs = true → widT g tb = 1
  | [], _, _, _, _ => rfl
  | y :: r, gs, g, h, hg => by
    simp only [apartT, Bool.and_eq_true, Bool.not_eq_true', List.all_eq_true] at h
    obtain ⟨h1, h2, h3⟩ := h
    have hne : Nat.beq y.1 g = false := by
      cases hb : Nat.beq y.1 g with
      | false => rfl
      | true => rw [Nat.eq_of_beq_eq_true hb, hg] at h1; cases h1
    simp only [widT, hne, Bool.false_eq_true, if_false]
    exact widT_gs h2 hg

theorem tabs_open {P : Program} {W : World} {gs : List (Nat × List UInt8)} {tp : TypeId} {tb : List (Nat × Nat × Tr)}
    (s1 : GlobOK P (conS P W gs)) (s2 : HoldF (conS P W gs) (look (sentEnts P.globals.size tp gs)) W) (s3 : ∀ e ∈ sentEnts P.globals.size tp gs, e.own = false ∧ e.lab < gtop P ∧ ∀ l ∈ e.t.labs, l < gtop P)
    (hgs : ∀ x ∈ gs, x.1 < P.globals.size) (hT : ∀ x ∈ tb, x.1 < P.globals.size ∧ TabAt W x.1 x.2.1 x.2.2) (ha : apartT gs tb = true) :
    GlobOK P (conT P W gs tb) ∧ HoldF (conT P W gs tb) (look (sentEnts P.globals.size tp gs ++ tabEnts tb)) W ∧ ∀ e ∈ sentEnts P.globals.size tp gs ++ tabEnts tb, e.own = false ∧ e.lab < gtop P ∧ ∀ l ∈ e.t.labs, l < gtop P := by
  have hlow : ∀ g, g < P.globals.size → conT P W gs tb g = fun _ => ⟨g, 0, 1, widT g tb, false, none, false⟩ := fun g hg => by funext m; simp [conT, hg]
  have hhi : ∀ l, P.globals.size ≤ l → conT P W gs tb l = conS P W gs l := fun l hl => by funext m; simp only [conT, if_neg (show ¬ l < P.globals.size by omega)]
  have hsame : ∀ g, g < P.globals.size → widT g tb = 1 → conT P W gs tb g = conS P W gs g := fun g hg hw => by
    rw [hlow g hg, hw]; funext m; simp [conS, hg]
  have hown : ∀ e ∈ sentEnts P.globals.size tp gs ++ tabEnts tb, e.own = false ∧ e.lab < gtop P ∧ ∀ l ∈ e.t.labs, l < gtop P := fun e he => by
    rcases List.mem_append.1 he with he | he
    · exact s3 e he
    · obtain ⟨x, hx, rfl⟩ := List.mem_map.1 he
      obtain ⟨h1, h2⟩ := hT x hx
      refine ⟨rfl, by unfold gtop; simp only; omega, fun l hl => ?_⟩
      rw [h2.labs] at hl; cases hl
  refine ⟨⟨fun g hg => ?_, fun g g' hg hg' hne => ?_, fun g hg => ?_⟩, ⟨fun l e he => look_lab he, fun l e he => ?_, fun l l' e e' he _ _ ho => ?_⟩, hown⟩
  · rw [hlow g hg]; exact ⟨rfl, rfl⟩
  · rw [hhi _ (by omega), hhi _ (by omega)]; exact s1.apart g g' hg hg' hne
  · rw [hhi _ (by omega)]; exact s1.thaw g hg
  · have hm := look_mem he
    rw [look_app] at he
    split at he
    · rename_i x hx
      simp only [Option.some.injEq] at he
      subst he
      have hh := s2.all l x hx
      obtain ⟨y, hy, hc⟩ := sentEnts_mem (look_mem hx)
      have hyl := hgs y hy
      have e1 := hsame y.1 hyl (widT_gs ha (mem_hasG hy rfl))
      have e2 := hhi (P.globals.size + y.1) (by omega)
      rcases hc with rfl | rfl
      · refine Ent.holds_agree hh e1 (fun q hq => ?_)
        simp [Tr.labs] at hq
        subst hq
        exact e2
      · refine Ent.holds_agree hh e2 (fun q hq => ?_)
        simp [Tr.labs] at hq
    · obtain ⟨x, hx, rfl⟩ := List.mem_map.1 (look_mem he)
      obtain ⟨h1, h2⟩ := hT x hx
      obtain ⟨w1, _, wb⟩ := widT_mem ha hx
      unfold Ent.holds
      simp only [hlow x.1 h1, w1]
      refine ⟨WidOK.refl _, fun h => (by cases h), fun _ => ⟨fun j v hj => ?_, by rw [Tr.cells_length, h2.len]; simp [wd_small wb], fun h => (by cases h), fun h => (by cases h)⟩⟩
      rw [Nat.zero_add]
      exact h2.cell _ j v hj
  · rw [(hown e (look_mem he)).1] at ho; cases ho

end Go.Sx
