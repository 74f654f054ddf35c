/- The engine, part 31: a law's call, from its arguments to its answer. -/
import Derived.Test.YtankmgnjkcgpaaaDoorSyU
import Derived.ChangeSame
set_option linter.unusedSimpArgs false
set_option linter.unusedVariables false
namespace Go.Sx

def aggS : Sh → Bool
  | .t0 => true
  | .tc _ _ => true
  | .ta _ _ => true
  | _ => false

def svOf (sh : Sh) (t : Tr) : SV := match aggS sh with | true => .agg t | false => .v t

def shAll : List Sh → Sh
  | [] => .t0
  | s :: r => .tc s (shAll r)

def argsOf : List Sh → Nat → Nat → Rd → List SV
  | [], _, _, _ => []
  | s :: r, lab, o, g => svOf s (trOf s lab g o) :: argsOf r (lab + s.slots) (o + s.size) g

def shsOf (P : Program) : List TypeId → Option (List Sh)
  | [] => some []
  | t :: r => match shOf P 12 t with
    | some s => if s.deep 2 then (match shsOf P r with | some l => some (s :: l) | none => none) else none
    | none => none

theorem shsOf_deep {P : Program} : ∀ {ts : List TypeId} {shs : List Sh}, shsOf P ts = some shs → (shAll shs).deep 2 = true := by
  intro ts
  induction ts with
  | nil => intro shs h; simp only [shsOf, Option.some.injEq] at h; subst h; rfl
  | cons t r ih =>
    intro shs h
    simp only [shsOf] at h
    split at h
    · split at h
      · rename_i hd
        split at h
        · rename_i l hl
          simp only [Option.some.injEq] at h
          subst h
          simp only [shAll, Sh.deep, hd, if_true, ih hl]
        · cases h
      · cases h
    · cases h

section
variable {H : Type} {enc : TypeId × Value → H} {P : Program} {w : World} {held : Bool}

theorem val_of {n b0 : Nat} {r : Reach} {t : TypeId} {sh : Sh} {v : Value} (hs : shOf P n t = some sh) (hv : Value.okWide P w r b0 t v) (hi : sh.Is w v.cells.toList) :
    v = match aggS sh with | true => .agg v.cells | false => v.cells.toList.headD undef := by
  cases n with
  | zero => cases hs
  | succ n =>
    simp only [shOf] at hs
    split at hs
    · rename_i hu
      cases hs
      obtain ⟨b, rfl⟩ := Go.WideShapes.okWide_bool hu hv
      rfl
    · rename_i k hu
      cases hs
      obtain ⟨b, rfl⟩ := Go.WideShapes.okWide_int hu hv
      rfl
    · rename_i hu
      cases hs
      obtain ⟨b, rfl⟩ := Go.WideShapes.okWide_string hu hv
      rfl
    · rename_i e hu
      obtain ⟨a, len, cap, rfl⟩ := Go.WideShapes.okWide_slice hu hv
      split at hs
      · split at hs
        · split at hs
          · cases hs; rfl
          · cases hs
        · cases hs
      · cases hs
    · rename_i fs hu
      obtain ⟨cs, rfl, _⟩ := Go.WideShapes.okWide_struct hu hv
      split at hs
      · rename_i sh' hf
        split at hs
        · simp only [Option.some.injEq] at hs
          subst hs
          have : aggS sh' = true := by
            cases hfs : fs.toList with
            | nil => rw [hfs] at hf; simp only [shFs, Option.some.injEq] at hf; subst hf; rfl
            | cons f r =>
              rw [hfs] at hf
              simp only [shFs] at hf
              split at hf
              · split at hf
                · split at hf
                  · split at hf
                    · simp only [Option.some.injEq] at hf; subst hf; rfl
                    · cases hf
                  · cases hf
                · cases hf
              · cases hf
          rw [this]; rfl
        · cases hs
      · cases hs
    · rename_i k e hu
      split at hs
      · split at hs
        · split at hs
          · split at hs
            · cases hs
              have : ∃ cs, v = .agg cs := by
                simp only [Value.okWide, hu] at hv
                obtain ⟨cs, h1, _⟩ := hv
                exact ⟨cs, h1⟩
              obtain ⟨cs, rfl⟩ := this
              rfl
            · cases hs
          · cases hs
        · cases hs
      · cases hs
    · cases hs

theorem args_open {r : Reach} {b0 : Nat} : ∀ {ts : List TypeId} {args : List Value} {ds : List (DataW H)} {p : List MemPlace} {shs : List Sh}, shsOf P ts = some shs → DataW.TrodAll enc P w 0 (fun _ => true) held ts args ds p →
    (∀ (j : Nat) (t : TypeId) (v : Value), ts[j]? = some t → args[j]? = some v → Value.okWide P w r b0 t v) →
    (shAll shs).Is w (args.flatMap fun v => v.cells.toList) ∧ args.length = shs.length ∧ ds.length = shs.length ∧
      ∀ (ρ : Con) (lab o : Nat) (g : Rd), (∀ j, j < (shAll shs).size → g [] (o + j) = (args.flatMap fun v => v.cells.toList).getD j undef) → LabAt ρ (shAll shs) lab g o [] →
        (argsOf shs lab o g).map (SV.val ρ) = args ∧ ∀ s ∈ argsOf shs lab o g, s.isJ = false := by
  intro ts
  induction ts with
  | nil =>
    intro args ds p shs hs hT hv
    simp only [shsOf, Option.some.injEq] at hs
    subst hs
    cases args with
    | nil =>
      cases ds with
      | nil => exact ⟨rfl, rfl, rfl, fun ρ lab o g _ _ => ⟨rfl, fun s hs => by cases hs⟩⟩
      | cons d ds => exact hT.elim
    | cons a r => exact hT.elim
  | cons t ts ih =>
    intro args ds p shs hs hT hv
    simp only [shsOf] at hs
    split at hs
    · rename_i sh hsh
      split at hs
      · rename_i hd
        split at hs
        · rename_i l hl
          simp only [Option.some.injEq] at hs
          subst hs
          cases args with
          | nil => exact hT.elim
          | cons a rr =>
            cases ds with
            | nil => exact hT.elim
            | cons d ds =>
              obtain ⟨p1, p2, ⟨fuel, h1⟩, h2, _⟩ := hT
              have hi := trod_is 12 t sh fuel _ _ hsh h1
              obtain ⟨g1, g2, g3, g4⟩ := ih hl h2 (fun j t' v' h h' => hv (j + 1) t' v' (by simpa using h) (by simpa using h'))
              have hlen := is_len hi
              refine ⟨⟨a.cells.toList, rr.flatMap fun v => v.cells.toList, by simp, hlen, hi, g1⟩, by simp [g2], by simp [g3], fun ρ lab o g hg hlab => ?_⟩
              simp only [shAll, LabAt] at hlab
              simp only [shAll, Sh.size] at hg
              have hga : ∀ j, j < sh.size → g [] (o + j) = a.cells.toList.getD j undef := fun j hj => by
                rw [hg j (by omega)]
                simp only [List.flatMap_cons, List.getD_eq_getElem?_getD]
                rw [List.getElem?_append_left (by omega)]
              obtain ⟨k1, k2⟩ := g4 ρ (lab + sh.slots) (o + sh.size) g (fun j hj => by
                have := hg (sh.size + j) (by omega)
                rw [← Nat.add_assoc] at this
                rw [this]
                simp only [List.flatMap_cons, List.getD_eq_getElem?_getD]
                rw [List.getElem?_append_right (by omega)]
                congr 2; omega) hlab.2
              have hcells := trOf_cells (deep_good hd) hi hga hlab.1
              have hval := val_of hsh (hv 0 t a rfl rfl) hi
              have hone : (svOf sh (trOf sh lab g o)).val ρ = a ∧ (svOf sh (trOf sh lab g o)).isJ = false := by
                unfold svOf
                cases hag : aggS sh with
                | true =>
                  rw [hag] at hval
                  simp only at hval
                  simp only [SV.val, hcells, SV.isJ, and_true]
                  rw [hval]
                  simp [Value.cells]
                | false =>
                  rw [hag] at hval
                  simp only at hval
                  refine ⟨?_, rfl⟩
                  have hleaf : (trOf sh lab g o).leaf = true := by cases sh <;> first | rfl | cases hag
                  rw [Tr.cells_leaf ρ hleaf] at hcells
                  simp only [SV.val]
                  rw [hval, ← hcells]; rfl
              refine ⟨by simp only [argsOf, List.map_cons, hone.1, k1], fun s hs => ?_⟩
              simp only [argsOf, List.mem_cons] at hs
              rcases hs with rfl | hs
              · exact hone.2
              · exact k2 s hs
        · cases hs
      · cases hs
    · cases hs
end

def rd0 (cs : List Value) : Rd := fun _ j => cs.getD j undef

def entsLaw (w : World) (shs : List Sh) (lab : Nat) (cs : List Value) : List Ent := entsOf w (shAll shs) none lab (rd0 cs) 0

theorem law_calls {H : Type} {enc : TypeId × Value → H} {P : Program} {held : Bool} {f : FuncId} {fn : Func} {body : Code} {shs : List Sh} {W : World} {args : Array Value} {ds : List (DataW H)} {p : List MemPlace} {gl : List Ent} {ρ0 : Con} {lab n n' b0 : Nat} {r : Reach} {L' : HF}
    (hfn : P.funcs[f]? = some fn) (hbody : fn.body = some body) (hs : shsOf P fn.params.toList = some shs) (hT : DataW.TrodAll enc P W 0 (fun _ => true) held fn.params.toList args.toList ds p)
    (hv : ∀ (j : Nat) (t : TypeId) (v : Value), fn.params[j]? = some t → args[j]? = some v → Value.okWide P W r b0 t v)
    (hlab : gtop P ≤ lab) (hG : GlobOK P ρ0) (hgl : HoldF ρ0 (look gl) W) (hglo : ∀ e ∈ gl, e.own = false ∧ e.lab < lab ∧ ∀ l ∈ e.t.labs, l < lab)
    (walk : ∀ cs, cs = (args.toList.flatMap fun v => v.cells.toList) → (shAll shs).Is W cs → RunsTo P f [.code body] (envOf (argsOf shs lab 0 (rd0 cs)) fn.ntmps) (look (gl ++ entsLaw W shs lab cs)) n (.v (.vb fun _ => true)) L' n') :
    Calls P f args W fun e w' => e = .returned (.bool true) ∧ RowKit.Below W.heap.size W w' := by
  obtain ⟨g1, g2, _, g4⟩ := args_open hs hT (fun j t v h1 h2 => hv j t v (by rw [← Array.getElem?_toList]; exact h1) (by rw [← Array.getElem?_toList]; exact h2))
  have hdeep := shsOf_deep hs
  generalize hcs : (args.toList.flatMap fun v => v.cells.toList) = cs at *
  let ρ : Con := conOf W (shAll shs) none lab (rd0 cs) 0 ρ0
  have hL : LOK W ρ (shAll shs) none lab (rd0 cs) 0 := conOf_ok
  have hlow : ∀ l, l < lab → ρ l = ρ0 l := fun l hl => conOf_out (.inl hl)
  have hG' : GlobOK P ρ := hG.agree (fun l hl => hlow l (by omega))
  have hrd : ∀ j, j < (shAll shs).size → rd0 cs [] (0 + j) = cs.getD j undef := fun j _ => by simp [rd0]
  obtain ⟨k1, k2⟩ := g4 ρ lab 0 (rd0 cs) hrd hL.top
  have hents := top_hold (ρ := ρ) (lab := lab) (g := rd0 cs) (o := 0) hdeep g1 hrd hL
  have hall : ∀ l e, look (gl ++ entsLaw W shs lab cs) l = some e → e.own = false ∧ e.holds ρ W := by
    intro l e he
    rw [look_app] at he
    split at he
    · rename_i x hx
      simp only [Option.some.injEq] at he
      subst he
      obtain ⟨h1, h2, h3⟩ := hglo x (look_mem hx)
      exact ⟨h1, Ent.holds_agree (hgl.all l x hx) (hlow _ h2) (fun q hq => hlow q (h3 q hq))⟩
    · exact ⟨(ents_lab e (look_mem he)).1, hents e (look_mem he)⟩
  have hold : HoldF ρ (look (gl ++ entsLaw W shs lab cs)) W := ⟨fun l e he => look_lab he, fun l e he => (hall l e he).2, fun l l' e e' he _ _ ho => by rw [(hall l e he).1] at ho; cases ho⟩
  refine (calls_runs hfn hbody (walk cs rfl g1) (av := args) ?_ (fun t s ht hj => ?_) hold hG').mono fun e w' ⟨ρ', vv, he, hvv, hres⟩ => ?_
  · have := congrArg List.length k1
    simpa using this.symm
  · rw [← Array.getElem?_toList, ← k1, List.getElem?_map, ht]; rfl
  · rw [he, hvv rfl]
    exact ⟨rfl, hres.below (fun l e he => (hall l e he).1)⟩

end Go.Sx
