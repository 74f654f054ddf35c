/- QstateMoves: lifted; the card. -/
import Derived.Test.YtgbgfekfcjphnaaDoorMaC
import Derived.Test.YtgbgfekfcjphnaaDoorSxY
import Derived.Test.YtgbgfekfcjphnaaDoorTie
import Derived.Test.YtgbgfekfcjphnaaDoorCards
set_option maxRecDepth 100000
set_option linter.unusedSimpArgs false
set_option linter.unusedVariables false
namespace Go.Proofs.YtgbgfekfcjphnaaDoor
open Go.ChangeShapes Go.WideShapes Go.ChangeAt Go.RowKit
open Go.Sx

theorem qstateMoves_sh : shsOf Tryd.prog Tryd.f5.params.toList = some [.tc (.ki .i64) (.tc .kb .t0), .kb, .kb] := by kernel_rfl

theorem qstateMoves_star : "*" ++ "errors.errorString" = "*errors.errorString" := by decide
theorem qstateMoves_row (u : TypeId) (h : Tryd.prog.typeName? 3 u = some "*errors.errorString") : u = 131 :=
  typeName_ptr_named (nm := "errors.errorString") (by rw [qstateMoves_star]; kernel_rfl) (by kernel_rfl) (by decide) u (by rw [qstateMoves_star]; exact h)

theorem qstateMoves_errTy : ErrTy Tryd.prog "*errors.errorString" 28 131 157 9 := errTy_of (by kernel_rfl) qstateMoves_row (by kernel_rfl) (by kernel_rfl) (by kernel_rfl) (by kernel_rfl) (by kernel_rfl)

theorem qstateMoves_own : ownKnob Tryd.prog.godebug = none := by kernel_rfl
theorem qstateMoves_met (os : Os) (args : Array Value) : laidMetH Tryd.prog Rows.qstateMovesRow.laid ((World.doorLaid Tryd.prog 400 os).forCall (fun _ _ => 0) ⟨#[], args, []⟩).memory :=
  laidMetH_of_parts3 (fuel := 8) (laidMet_of_run' 8 (by kernel_rfl) (by kernel_rfl)) (by kernel_rfl) (by kernel_rfl)
theorem qstateMoves_plain (w : World) : laidMetH Tryd.prog Rows.qstateMovesRow.laid w = laidMet Tryd.prog Rows.qstateMovesRow.laid w := MakeChecks.laidMetH_plain _ _ _ (by kernel_rfl)

def qstateMoves_texts : List (Nat × List UInt8) := [(3, [97, 32, 110, 117, 109, 98, 101, 114, 32, 105, 115, 32, 111, 117, 116, 32, 111, 102, 32, 105, 116, 115, 32, 114, 97, 110, 103, 101]), (4, [116, 104, 101, 114, 101, 32, 105, 115, 32, 110, 111, 32, 109, 111, 114, 101, 32, 114, 111, 111, 109]), (5, [115, 111, 109, 101, 116, 104, 105, 110, 103, 32, 105, 115, 32, 109, 105, 115, 115, 105, 110, 103, 32, 97, 116, 32, 116, 104, 101, 32, 101, 110, 100]), (6, [116, 104, 101, 114, 101, 32, 105, 115, 32, 109, 111, 114, 101, 32, 116, 104, 97, 110, 32, 109, 97, 121, 32, 98, 101]), (0, [105, 116, 32, 105, 115, 32, 110, 111, 116, 32, 111, 102, 32, 105, 116, 115, 32, 102, 111, 114, 109]), (7, [116, 104, 101, 114, 101, 32, 105, 115, 32, 110, 111, 32, 115, 117, 99, 104, 32, 110, 97, 109, 101]), (8, [116, 104, 101, 114, 101, 32, 105, 115, 32, 110, 111, 110, 101]), (9, [105, 116, 32, 105, 115, 32, 116, 104, 101, 114, 101, 32, 97, 108, 114, 101, 97, 100, 121]), (2, [105, 116, 32, 105, 115, 32, 111, 102, 32, 97, 110, 111, 116, 104, 101, 114, 32, 107, 105, 110, 100]), (1, [105, 116, 32, 99, 97, 110, 32, 110, 111, 116, 32, 98, 101, 32, 100, 111, 110, 101, 32, 105, 110, 32, 116, 104, 105, 115, 32, 115, 116, 97, 116, 101]), (10, [105, 116, 32, 103, 111, 101, 115, 32, 116, 111, 111, 32, 100, 101, 101, 112]), (11, [116, 104, 101, 32, 102, 117, 101, 108, 32, 105, 115, 32, 115, 112, 101, 110, 116]), (12, [116, 104, 101, 114, 101, 32, 97, 114, 101, 32, 116, 111, 111, 32, 109, 97, 110, 121, 32, 99, 97, 108, 108, 115, 32, 119, 105, 116, 104, 105, 110, 32, 111, 110, 101, 32, 97, 110, 111, 116, 104, 101, 114]), (13, [105, 116, 32, 105, 115, 32, 99, 108, 111, 115, 101, 100]), (14, [105, 116, 32, 119, 111, 117, 108, 100, 32, 109, 97, 116, 99, 104, 32, 110, 111, 116, 104, 105, 110, 103, 32, 97, 116, 32, 97, 108, 108]), (15, [116, 104, 101, 32, 116, 101, 120, 116, 32, 105, 115, 32, 110, 111, 32, 110, 117, 109, 98, 101, 114])]
theorem qstateMoves_sent : sentOf Tryd.prog "*errors.errorString" Rows.qstateMovesRow.laid = some qstateMoves_texts := by kernel_rfl

theorem qstateMoves_readable : ∀ t ∈ Tryd.f5.params.toList, Tryd.prog.readableRec t = true ∧ t < Tryd.prog.types.size := by
  have h : (Tryd.f5.params.toList.all fun t => Tryd.prog.readableRec t && decide (t < Tryd.prog.types.size)) = true := by kernel_rfl
  intro t ht
  have := List.all_eq_true.1 h t ht
  simpa using this

theorem qstateMoves_wants : ∀ t ∈ Tryd.f5.params.toList, Tryd.prog.wantsStandIn t = false := by
  have h : (Tryd.f5.params.toList.all fun t => !Tryd.prog.wantsStandIn t) = true := by kernel_rfl
  intro t ht
  have := List.all_eq_true.1 h t ht
  simpa using this

theorem qstateMoves_lifted (os : Os) (started : os.Started) (H : Type) (enc : TypeId × Value → H) :
    ReturnsInHanded {} Tryd.checked os 5 .any (fun w args => (Rows.qstateMovesSpec.pre enc Tryd.prog Tryd.f5 [] false w args ∧ laidMetH Tryd.prog Rows.qstateMovesRow.laid w) ∧ sizedMet enc Tryd.prog Tryd.f5 (OpenSpec.ofChange Rows.qstateMovesSpec) false w args)
      (Rows.qstateMovesSpec.post enc Tryd.prog Tryd.f5 false true false false) := by
  refine returnsInHanded_of_change_and (C := Tryd.checked) (X := fun w _ => laidMetH Tryd.prog Rows.qstateMovesRow.laid w) (fun _ _ _ hh h => h.of_heap hh) qstateMoves_own started (by kernel_rfl) Tryd.func5
    (ChangeSpec.witness_shaped (enc := enc) (C := Tryd.checked) (os := os) (X := fun w _ => laidMetH Tryd.prog Rows.qstateMovesRow.laid w) false (World.doorLaid Tryd.prog 400 os) #[.agg #[.int .i64 0, .bool false], .bool false, .bool false] 8 rfl (World.shaped_of_RefB (by kernel_rfl) (by kernel_rfl)) (by kernel_rfl) (by kernel_rfl) (by kernel_rfl) (qstateMoves_met os _)) ?_
  intro W base args ds gs before hval hW _ _ hL _
  have hW' := hW
  obtain ⟨p, q, hA, hV, rfl, hfz, hnd⟩ := hW
  obtain ⟨rfl, rfl⟩ := trodVars_none hV
  rw [qstateMoves_plain] at hL
  obtain ⟨s1, s2, s3⟩ := sents_open qstateMoves_errTy hL qstateMoves_sent (by kernel_rfl)
  have hG : Tryd.prog.globals.size = 16 := by kernel_rfl
  rw [hG] at s2 s3
  have g3 : ds.length = 3 := (args_open qstateMoves_sh hA (fun j t v h1 h2 => hval j t v (by rw [← Array.getElem?_toList]; exact h1) (by rw [← Array.getElem?_toList]; exact h2))).2.2.1
  match ds, g3 with
  | [d1, d2, d3], _ =>
    refine (law_calls Tryd.func5 (body := bodyOf Tryd.f5) (by kernel_rfl) qstateMoves_sh hA hval (lab := 100) (n := 110) (n' := 900) (L' := Sx.look []) gtopP s1 s2 (fun e he => ?_) (fun cs hcs hIs => ?_)).mono fun e W' ⟨he, hB⟩ => ⟨_, he, law_post (bt := 4) (by kernel_rfl) qstateMoves_readable rfl (by kernel_rfl) (by kernel_rfl) hW' rfl hB⟩
    · obtain ⟨a1, a2, a3⟩ := s3 e he
      exact ⟨a1, Nat.lt_of_lt_of_le a2 gtopP, fun l hl => Nat.lt_of_lt_of_le (a3 l hl) gtopP⟩
    · obtain ⟨_, _, e1, _, ⟨_, _, rfl, _, ⟨k_0, rfl, _⟩, _, z0, rfl, _, ⟨k_1, rfl⟩, hz0⟩, _, _, rfl, _, ⟨is, rfl⟩, _, c0, rfl, _, ⟨ag, rfl⟩, h0⟩ := hIs
      have h0 : c0 = [] := h0
      subst h0
      have hz0 : z0 = [] := hz0
      subst hz0
      have hcs2 : cs = [.int .i64 k_0, .bool k_1, .bool is, .bool ag] := e1
      clear hcs e1
      subst hcs2
      refine RunsTo.start (cargs := [.agg (.tc (.vi .i64 fun _ => k_0) (.tc (.vb fun _ => k_1) .t0)), .v (.vb fun _ => is), .v (.vb fun _ => ag)]) ?_ ⟨⟨rfl, rfl⟩, rfl, rfl, trivial⟩
      exact moves _ _ _ _ _ _ _ _ _ _ _ _ _ _ _ _ k_0 k_1 is ag

theorem qstateMoves_holds : Rows.QstateMovesSaid :=
  OpenClaim.holds_of_wide 5 Tryd.f5 rfl rfl rfl rfl rfl rfl rfl ⟨rfl, rfl, rfl, rfl, rfl⟩ rfl rfl rfl rfl rfl (by kernel_rfl) Tryd.func5 (by kernel_rfl)
    (of_decide_eq_true (by kernel_rfl)) (by unfold Func.isWrapper; first | (rw [if_pos (by decide +kernel)]; kernel_rfl) | (rw [if_neg (by decide +kernel)]; exact ⟨rfl, rfl⟩))
    (fun os started H enc _ => qstateMoves_lifted os started H enc)

theorem qstateMoves_card_holds : Rows.QstateMovesCardSaid :=
  Claim7.holds_tied_plain_at .later [] [.sentinel, .sentinel, .sentinel, .sentinel, .sentinel, .sentinel, .sentinel, .sentinel, .sentinel, .sentinel, .sentinel, .sentinel, .sentinel, .sentinel, .sentinel, .sentinel] true (true, "0c0da55666f512df7b2740278067da395b3e2b2cdf5cb062ff72630bb2759783") true
    qstateMoves_holds (fun _ h => by cases h) (by kernel_rfl) (fun _ h => by cases h) qstateMoves_row_tie rfl ⟨rfl, rfl⟩ (by kernel_rfl) rfl
    (fun f fn hf hfn => by
      obtain rfl : f = 5 := Option.some.inj ((show Tryd.prog.funcNamed "truchman/truchmanlaw10.QstateMoves" = some 5 by kernel_rfl).symm.trans hf) |>.symm
      obtain rfl : fn = Tryd.f5 := (Option.some.inj (Tryd.func5.symm.trans hfn)).symm
      exact ⟨by kernel_rfl, fun j t ht => qstateMoves_wants t (List.mem_of_getElem? (by rw [Array.getElem?_toList]; exact ht))⟩)
    (by kernel_rfl)
end Go.Proofs.YtgbgfekfcjphnaaDoor
