/- The engine, part 32: the errors that a program's variables hold. -/
import Derived.Test.YtankmgnjkcgpaaaDoorSyV
import Derived.Stop.LaidErr
import Derived.LaidHandle
import Derived.MakeChecks
set_option linter.unusedSimpArgs false
set_option linter.unusedVariables false
namespace Go.Sx
open Go.ChangeShapes

def sentOf (P : Program) (nm : String) : List (String × DataW Unit) → Option (List (Nat × List UInt8))
  | [] => some []
  | (n, .iface m (.ptr (.agg [.lit (.string t)]))) :: r =>
    match P.globalNamed n with
    | some g => if m == nm then (match sentOf P nm r with | some l => some ((g, t) :: l) | none => none) else none
    | none => none
  | _ :: r => sentOf P nm r

structure SentAt (W : World) (tp : TypeId) (g : Nat) (t : List UInt8) (a : Addr) : Prop where
  cell : W.cell? ⟨g, 0, none⟩ = some (.iface tp (.pointer (some a)))
  text : ∃ s : ByteArray, W.cell? a = some (.string s) ∧ s.data.toList = t
  thaw : Thawed W a.block

structure ErrTy (P : Program) (nm : String) (ti tp te ts : TypeId) : Prop where
  iface : ∃ ms, P.underlying ti = some (.interface ms)
  only : ∀ u, P.typeName? 3 u = some nm → u = tp
  ptr : P.underlying tp = some (.pointer te)
  obj : ∃ f, P.underlying te = some (.struct #[f]) ∧ f.type = ts ∧ f.offset = 0
  str : P.underlying ts = some .string
  ce : P.cellsOf te = 1
  cs : P.cellsOf ts = 1

def sentTy (P : Program) (ti : TypeId) : List (Nat × List UInt8) → Bool
  | [] => true
  | (g, _) :: r => if Nat.blt g P.globals.size then (match P.globals[g]? with | some v => if Nat.beq v.type ti then sentTy P ti r else false | none => false) else false

theorem sents_of {P : Program} {nm : String} {ti tp te ts : TypeId} {W : World} (E : ErrTy P nm ti tp te ts) :
    ∀ {l : List (String × DataW Unit)} {gs : List (Nat × List UInt8)} {ps : List MemPlace}, sentOf P nm l = some gs → sentTy P ti gs = true → DataW.LaidVars P W l ps → ps.Nodup →
      (∀ b off, MemPlace.cell b off ∈ ps → (∃ c t, W.heap[b]? = some (.cells c t (0, 0))) ∧ ∀ u v, W.cell? ⟨b, off, none⟩ = some (.iface u v) → Value.okWide P W .any 0 u v) →
      (∀ x ∈ gs, ∃ a, SentAt W tp x.1 x.2 a ∧ MemPlace.cell a.block a.off ∈ ps ∧ x.1 < P.globals.size) ∧
      ∀ x ∈ gs, ∀ y ∈ gs, x.1 ≠ y.1 → ∀ a b, SentAt W tp x.1 x.2 a → SentAt W tp y.1 y.2 b → ¬ (a.block = b.block ∧ a.off = b.off) := by
  intro l
  induction l with
  | nil =>
    intro gs ps h _ _ _ _
    simp only [sentOf, Option.some.injEq] at h
    subst h
    exact ⟨fun x hx => (by cases hx), fun x hx => (by cases hx)⟩
  | cons z r ih =>
    intro gs ps h hty hv hnd hrows
    unfold sentOf at h
    split at h
    · rename_i heq; cases heq
    · rename_i n m t r' hz
      cases hz
      split at h
      · rename_i g hg
        split at h
        · rename_i hm
          split at h
          · rename_i gs' hgs
            simp only [Option.some.injEq] at h
            subst h
            have hm : m = nm := by simpa using hm
            subst hm
            obtain ⟨ms, hi⟩ := E.iface
            obtain ⟨f, he, hft, hfo⟩ := E.obj
            simp only [sentTy] at hty
            split at hty
            · rename_i hlt
              have hlt : g < P.globals.size := by simpa [Nat.blt_eq] using hlt
              split at hty
              · rename_i gv hgv
                split at hty
                · rename_i hti
                  have hti := Nat.eq_of_beq_eq_true hti
                  obtain ⟨g0, t0, cs0, f0, p0, q0, hg0, ht0, hv0, hd0, hrest, rfl⟩ := hv
                  obtain rfl := Option.some.inj (hg.symm.trans hg0)
                  have ht0 : t0 = ti := by rw [hgv] at ht0; simp only [Option.map_some, Option.some.injEq] at ht0; exact ht0.symm.trans hti
                  subst ht0
                  obtain ⟨l0⟩ := cs0
                  have ok0 : ∀ u v, l0 = [.iface u v] → Value.okWide P W .any 0 u v := fun u v e => by
                    subst e
                    exact (hrows g 0 (by simp [MemPlace.row])).2 u v (by simpa using World.var?_cell hg0 hv0 0)
                  obtain ⟨a0, s0, rfl, hc0, hs0, hz0, rfl⟩ := errorString_of_trod hi E.only E.ptr he hft hfo E.str E.ce E.cs hd0 ok0
                  have hpl : ∀ b off, MemPlace.cell b off ∈ q0 → MemPlace.cell b off ∈ MemPlace.row ⟨g, 0, none⟩ (⟨[Value.iface tp (.pointer (some a0))]⟩ : Array Value).size ++ MemPlace.row a0 1 ++ q0 := fun b off h => List.mem_append_right _ h
                  obtain ⟨i1, i2⟩ := ih hgs hty hrest (List.Nodup.sublist (List.sublist_append_right _ _) hnd) (fun b off h => hrows b off (hpl b off h))
                  have hcell : W.cell? ⟨g, 0, none⟩ = some (.iface tp (.pointer (some a0))) := by simpa using World.var?_cell hg0 hv0 0
                  have hmem0 : MemPlace.cell a0.block a0.off ∈ MemPlace.row ⟨g, 0, none⟩ (⟨[Value.iface tp (.pointer (some a0))]⟩ : Array Value).size ++ MemPlace.row a0 1 ++ q0 := by simp [MemPlace.row]
                  have hat : SentAt W tp g t a0 := ⟨hcell, ⟨s0, hc0, hs0⟩, (hrows a0.block a0.off hmem0).1⟩
                  have uniq : ∀ {g t t' a b}, SentAt W tp g t a → SentAt W tp g t' b → a = b := fun h1 h2 => by
                    have := h1.cell.symm.trans h2.cell
                    simpa using this
                  have apart : ∀ y ∈ gs', ∀ b, SentAt W tp y.1 y.2 b → ¬ (a0.block = b.block ∧ a0.off = b.off) := fun y hy b hb he => by
                    obtain ⟨b', hb', hm, _⟩ := i1 y hy
                    have hbb := uniq hb hb'
                    subst hbb
                    rw [List.nodup_append] at hnd
                    have := hnd.2.2 (MemPlace.cell a0.block a0.off) (List.mem_append_right _ (by simp [MemPlace.row])) (MemPlace.cell b.block b.off) hm
                    exact this (by rw [he.1, he.2])
                  refine ⟨fun x hx => ?_, fun x hx y hy hne a b ha hb => ?_⟩
                  · rcases List.mem_cons.1 hx with rfl | hx
                    · exact ⟨a0, hat, hmem0, hlt⟩
                    · obtain ⟨a, h1, h2, h3⟩ := i1 x hx
                      exact ⟨a, h1, hpl _ _ h2, h3⟩
                  · rcases List.mem_cons.1 hx with rfl | hx'
                    · rcases List.mem_cons.1 hy with rfl | hy'
                      · exact absurd rfl hne
                      · have := uniq ha hat
                        subst this
                        exact apart y hy' b hb
                    · rcases List.mem_cons.1 hy with rfl | hy'
                      · have := uniq hb hat
                        subst this
                        exact fun h => apart x hx' a ha ⟨h.1.symm, h.2.symm⟩
                      · exact i2 x hx' y hy' hne a b ha hb
                · cases hty
              · cases hty
            · cases hty
          · cases h
        · cases h
      · cases h
    · rename_i z' r' _ hz
      cases hz
      obtain ⟨g0, t0, cs0, f0, p0, q0, hg0, ht0, hv0, hd0, hrest, rfl⟩ := hv
      have hpl : ∀ b off, MemPlace.cell b off ∈ q0 → MemPlace.cell b off ∈ MemPlace.row ⟨g0, 0, none⟩ cs0.size ++ p0 ++ q0 := fun b off h => List.mem_append_right _ h
      obtain ⟨i1, i2⟩ := ih h hty hrest (List.Nodup.sublist (List.sublist_append_right _ _) hnd) (fun b off h => hrows b off (hpl b off h))
      exact ⟨fun x hx => let ⟨a, q1, q2, q3⟩ := i1 x hx; ⟨a, q1, hpl _ _ q2, q3⟩, i2⟩

def sentEnts (G : Nat) (tp : TypeId) : List (Nat × List UInt8) → List Ent
  | [] => []
  | (g, t) :: r => ⟨g, false, none, 1, .ve tp (.vp (G + g) (fun _ => 0) [])⟩ :: ⟨G + g, false, none, 1, .tc (.vs fun _ => t) .t0⟩ :: sentEnts G tp r

def hasG (g : Nat) : List (Nat × List UInt8) → Bool
  | [] => false
  | (k, _) :: r => if Nat.beq k g then true else hasG g r

theorem hasG_mem {g : Nat} : ∀ {l : List (Nat × List UInt8)}, hasG g l = true → ∃ x ∈ l, x.1 = g
  | (k, t) :: r, h => by
    simp only [hasG] at h
    split at h
    · rename_i hb; exact ⟨(k, t), by simp, Nat.eq_of_beq_eq_true hb⟩
    · obtain ⟨x, h1, h2⟩ := hasG_mem h; exact ⟨x, List.mem_cons_of_mem _ h1, h2⟩

theorem mem_hasG {g : Nat} : ∀ {l : List (Nat × List UInt8)} {x : Nat × List UInt8}, x ∈ l → x.1 = g → hasG g l = true
  | (k, t) :: r, x, h, e => by
    simp only [hasG]
    split
    · rfl
    · rename_i hb
      rcases List.mem_cons.1 h with rfl | h
      · simp only at e; subst e; simp at hb
      · exact mem_hasG h e

def adrOf (W : World) (gs : List (Nat × List UInt8)) (g : Nat) : Addr :=
  if hasG g gs then (match W.cell? ⟨g, 0, none⟩ with | some (.iface _ (.pointer (some a))) => a | _ => ⟨W.heap.size + g, 0, none⟩) else ⟨W.heap.size + g, 0, none⟩

def conS (P : Program) (W : World) (gs : List (Nat × List UInt8)) : Con := fun l _ =>
  if l < P.globals.size then ⟨l, 0, 1, 1, false, none, false⟩ else ⟨(adrOf W gs (l - P.globals.size)).block, (adrOf W gs (l - P.globals.size)).off, 1, 1, false, none, true⟩

theorem sentEnts_mem {G : Nat} {tp : TypeId} : ∀ {gs : List (Nat × List UInt8)} {e : Ent}, e ∈ sentEnts G tp gs →
    ∃ x ∈ gs, e = ⟨x.1, false, none, 1, .ve tp (.vp (G + x.1) (fun _ => 0) [])⟩ ∨ e = ⟨G + x.1, false, none, 1, .tc (.vs fun _ => x.2) .t0⟩
  | (g, t) :: r, e, h => by
    simp only [sentEnts, List.mem_cons] at h
    rcases h with rfl | rfl | h
    · exact ⟨(g, t), by simp, .inl rfl⟩
    · exact ⟨(g, t), by simp, .inr rfl⟩
    · obtain ⟨x, h1, h2⟩ := sentEnts_mem h
      exact ⟨x, List.mem_cons_of_mem _ h1, h2⟩

theorem sents_open {P : Program} {nm : String} {ti tp te ts : TypeId} {W : World} (E : ErrTy P nm ti tp te ts) {l : List (String × DataW Unit)} {gs : List (Nat × List UInt8)} (h : laidMet P l W) (hs : sentOf P nm l = some gs) (hty : sentTy P ti gs = true) :
    GlobOK P (conS P W gs) ∧ HoldF (conS P W gs) (look (sentEnts P.globals.size tp gs)) W ∧ ∀ e ∈ sentEnts P.globals.size tp gs, e.own = false ∧ e.lab < gtop P ∧ ∀ l ∈ e.t.labs, l < gtop P := by
  obtain ⟨ps, hv, hnd, hrows⟩ := h
  obtain ⟨h1, h2⟩ := sents_of E hs hty hv hnd hrows
  have hadr : ∀ x ∈ gs, SentAt W tp x.1 x.2 (adrOf W gs x.1) := fun x hx => by
    obtain ⟨a, ha, _⟩ := h1 x hx
    have : adrOf W gs x.1 = a := by
      unfold adrOf
      rw [mem_hasG hx rfl, ha.cell]
      rfl
    rw [this]; exact ha
  have hblk : ∀ x ∈ gs, (adrOf W gs x.1).block < W.heap.size := fun x hx => by
    obtain ⟨s, hc, _⟩ := (hadr x hx).text
    exact cell_lt hc
  have hno : ∀ g, hasG g gs = false → adrOf W gs g = ⟨W.heap.size + g, 0, none⟩ := fun g hg => by unfold adrOf; rw [hg]; rfl
  have hlow : ∀ g, g < P.globals.size → conS P W gs g = fun _ => ⟨g, 0, 1, 1, false, none, false⟩ := fun g hg => by funext m; simp [conS, hg]
  have hhi : ∀ g, conS P W gs (P.globals.size + g) = fun _ => ⟨(adrOf W gs g).block, (adrOf W gs g).off, 1, 1, false, none, true⟩ := fun g => by
    funext m
    have e : P.globals.size + g - P.globals.size = g := by omega
    simp only [conS, if_neg (show ¬ P.globals.size + g < P.globals.size by omega), e]
  refine ⟨⟨fun g hg => ?_, fun g g' hg hg' hne => ?_, fun g hg => ?_⟩, ⟨fun l e he => look_lab he, fun l e he => ?_, fun l l' e e' he _ _ ho => ?_⟩, fun e he => ?_⟩
  · rw [hlow g hg]; exact ⟨rfl, rfl⟩
  · rw [hhi, hhi]
    simp only
    cases hb : hasG g gs with
    | true =>
      obtain ⟨x, hx, rfl⟩ := hasG_mem hb
      cases hb' : hasG g' gs with
      | true =>
        obtain ⟨y, hy, rfl⟩ := hasG_mem hb'
        exact h2 x hx y hy hne _ _ (hadr x hx) (hadr y hy)
      | false =>
        have := hblk x hx
        rw [hno g' hb']
        simp only
        omega
    | false =>
      rw [hno g hb]
      cases hb' : hasG g' gs with
      | true =>
        obtain ⟨y, hy, rfl⟩ := hasG_mem hb'
        have := hblk y hy
        simp only
        omega
      | false =>
        rw [hno g' hb']
        simp only
        omega
  · rw [hhi]; exact ⟨rfl, rfl⟩
  · obtain ⟨x, hx, hc⟩ := sentEnts_mem (look_mem he)
    have hA := hadr x hx
    obtain ⟨s, ht, hst⟩ := hA.text
    obtain ⟨_, _, _, hlt⟩ := h1 x hx
    have hspot : (adrOf W gs x.1).spot = none := World.cell?_spot ht
    have hadd : (⟨(adrOf W gs x.1).block, (adrOf W gs x.1).off, none⟩ : Addr) = adrOf W gs x.1 := by rw [← hspot]
    rcases hc with rfl | rfl
    · unfold Ent.holds
      simp only [hlow x.1 hlt]
      refine ⟨WidOK.refl _, fun h => (by cases h), fun _ => ⟨fun j v hj => ?_, by simp [Tr.cells, show wd 1 = 1 from rfl], fun h => (by cases h), fun h => (by cases h)⟩⟩
      · simp only [Tr.cells, Tr.val, hhi, offs, Nat.add_zero] at hj
        rw [hadd] at hj
        match j, hj with
        | 0, hj =>
          simp only [List.getElem?_cons_zero, Option.some.injEq] at hj
          subst hj
          exact hA.cell
        | j + 1, hj => simp at hj
    · unfold Ent.holds
      simp only [hhi]
      refine ⟨WidOK.refl _, fun h => (by cases h), fun _ => ⟨fun j v hj => ?_, by simp [Tr.cells, show wd 1 = 1 from rfl], fun h => (by cases h), fun _ _ => hA.thaw⟩⟩
      simp only [Tr.cells, Tr.val, List.append_nil] at hj
      match j, hj with
      | 0, hj =>
        simp only [List.getElem?_cons_zero, Option.some.injEq] at hj
        subst hj
        simp only [Nat.add_zero]
        rw [hadd, ht, ← hst]
      | j + 1, hj => simp at hj
  · obtain ⟨x, hx, hc⟩ := sentEnts_mem (look_mem he)
    rcases hc with rfl | rfl <;> cases ho
  · obtain ⟨x, hx, hc⟩ := sentEnts_mem he
    obtain ⟨_, _, _, hlt⟩ := h1 x hx
    unfold gtop
    rcases hc with rfl | rfl
    · exact ⟨rfl, by simp only; omega, fun l hl => by simp [Tr.labs] at hl; omega⟩
    · exact ⟨rfl, by simp only; omega, fun l hl => by simp [Tr.labs] at hl⟩

end Go.Sx
