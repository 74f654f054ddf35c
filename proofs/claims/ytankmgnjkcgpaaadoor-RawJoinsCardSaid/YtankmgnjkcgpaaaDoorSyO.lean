/- The engine, part 24: from the evaluator to a call; a law's row. -/
import Derived.Test.YtankmgnjkcgpaaaDoorSyN
import Derived.ProofKit
set_option linter.unusedSimpArgs false
set_option linter.unusedVariables false
namespace Go.Sx

theorem calls_runs {P : Program} {f : FuncId} {fn : Func} {body : Code} {args : List SV} {L L' : HF} {n n' : Nat} {v : SV} (hfn : P.funcs[f]? = some fn) (hbody : fn.body = some body)
    (hR : RunsTo P f [.code body] (envOf args fn.ntmps) L n v L' n') {ρ : Con} {w : World} {av : Array Value} (hlen : av.size = args.length) (hav : ∀ (t : Nat) (s : SV), args[t]? = some s → s.isJ = false → av[t]? = some (s.val ρ))
    (hold : HoldF ρ L w) (hG : GlobOK P ρ) : Calls P f av w fun e w' => ∃ ρ' vv, e = .returned vv ∧ (v.isJ = false → vv = v.val ρ') ∧ Res ρ ρ' n n' L L' w w' := by
  intro cs
  let b : Frame := { (default : Frame) with fn := f, kind := .normal }
  have henter : Frame.enter P f av .normal = b.at { tmps := av ++ Array.replicate (fn.ntmps - av.size) undef, defers := [] } [.code body] := by
    simp [Frame.enter, Frame.at, hfn, hbody, b]
  have henv : EnvOK ρ (envOf args fn.ntmps) (av ++ Array.replicate (fn.ntmps - av.size) undef) := by
    refine ⟨by simp [envOf, hlen], fun t s hts hj => ?_⟩
    rw [nth_eq] at hts
    unfold envOf at hts
    rw [List.getElem?_append] at hts
    split at hts
    · rename_i hlt
      rw [Array.getElem?_append_left (by omega)]
      exact hav t s hts hj
    · rename_i hlt
      have hm := List.mem_of_getElem? hts
      rw [List.mem_replicate] at hm
      have hlt2 : t - args.length < (List.replicate (fn.ntmps - args.length) (SV.tup [])).length := by
        rcases Nat.lt_or_ge (t - args.length) (List.replicate (fn.ntmps - args.length) (SV.tup [])).length with h | h
        · exact h
        · rw [List.getElem?_eq_none h] at hts; cases hts
      simp only [List.length_replicate] at hlt2
      rw [Array.getElem?_append_right (by omega), Array.getElem?_replicate, if_pos (by omega), hm.2]
      simp [SV.val, undef]
  obtain ⟨ρ', w', fr, vv, hst, hleave, hfr, hv, hres⟩ := hR.2 ρ w b { tmps := av ++ Array.replicate (fn.ntmps - av.size) undef, defers := [] } cs rfl rfl rfl henv hold hG
  rw [← henter] at hst
  exact ⟨.returned vv, w', fr, ⟨ρ', vv, rfl, hv, hres⟩, hst, hfr, hleave⟩

theorem Fr.below {w w' : World} (h : Fr (fun _ => False) w w') : RowKit.Below w.heap.size w w' :=
  ⟨h.os, h.tape, h.output, h.size, fun k hk => h.block k hk (fun e => e)⟩

theorem Res.below {ρ ρ' : Con} {n n' : Nat} {L L' : HF} {w w' : World} (h : Res ρ ρ' n n' L L' w w') (hL : ∀ l e, L l = some e → e.own = false) : RowKit.Below w.heap.size w w' :=
  Fr.below (h.frame.mono (fun k ⟨l, x, h1, h2, _⟩ => by rw [hL l x h1] at h2; cases h2))

theorem hold0 (ρ : Con) (w : World) : HoldF ρ (look []) w := ⟨fun l e h => (by cases h), fun l e h => (by cases h), fun l l' e e' h => (by cases h)⟩

theorem law_post {H : Type} {enc : TypeId × Value → H} {P : Program} {f : Func} {s : ChangeSpec} {apart fresh handsOn : Bool} {W W' : World} {args : Array Value} {ds gs : List (DataW H)} {before : List MemPlace} {bt : TypeId}
    (hl : laidOutB P = true) (hpar : ∀ t ∈ f.params.toList, P.readableRec t = true ∧ t < P.types.size) (hvars : s.vars = []) (hres : f.resultTypes = #[bt]) (hbt : P.underlying bt = some .bool)
    (hW : DataW.Whole enc P f.params.toList s.vars apart W args.toList ds gs before)
    (hs : s.fn H (ds ++ gs) = { results := [.lit (.bool true)], args := ds }) (hB : RowKit.Below W.heap.size W W') : s.post enc P f apart fresh handsOn false W args (.bool true) W' := by
  have hlt : ∀ p ∈ before, p.block < W.heap.size := fun p hp => hW.lt p hp
  have hW0 := hW
  obtain ⟨p, q, hA, hV, rfl, hfz, hnd⟩ := hW
  rw [hvars] at hV
  have hgs : gs = [] ∧ q = [] := by
    cases gs with
    | nil => exact ⟨rfl, hV⟩
    | cons g r => exact hV.elim
  obtain ⟨rfl, rfl⟩ := hgs
  have hargs : ∀ (ts : List TypeId) (vs : List Value) (ds : List (DataW H)) (p : List MemPlace), (∀ t ∈ ts, P.readableRec t = true ∧ t < P.types.size) → (∀ x ∈ p, x.block < W.heap.size) →
      DataW.TrodAll enc P W 0 (fun _ => true) true ts vs ds p → DataW.TrodAll enc P W' 0 (fun b => decide (b < W.heap.size)) true ts vs ds p := by
    intro ts
    induction ts with
    | nil => intro vs ds p _ _ h; cases vs <;> cases ds <;> first | exact h | exact h.elim
    | cons t ts ih =>
      intro vs ds p ht hp h
      cases vs with
      | nil => exact h.elim
      | cons v vs =>
        cases ds with
        | nil => exact h.elim
        | cons d ds =>
          obtain ⟨p1, p2, h1, h2, rfl⟩ := h
          exact ⟨p1, p2, RowKit.Below.trod hl (ht t (by simp)).1 (ht t (by simp)).2 h1 hB (fun x hx => hp x (List.mem_append_left _ hx)),
            ih vs ds p2 (fun t' ht' => ht t' (List.mem_cons_of_mem _ ht')) (fun x hx => hp x (List.mem_append_right _ hx)) h2, rfl⟩
  refine ⟨ds, [], p ++ [], [], p, [], hW0, ?_, ?_, ?_, hB.frame _, fun h => by cases h⟩
  · rw [hs, hres]
    exact ⟨[], [], ⟨1, by simp [DataW.trod, hbt, Value.cells]⟩, rfl, rfl⟩
  · rw [hs]
    exact hargs _ _ _ _ hpar (fun x hx => hlt x (by simpa using hx)) hA
  · rw [hs, hvars]
    rfl

end Go.Sx
