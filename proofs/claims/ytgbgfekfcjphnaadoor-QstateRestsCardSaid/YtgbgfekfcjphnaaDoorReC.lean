/- QstateRests: lifted; the card. -/
import Derived.Test.YtgbgfekfcjphnaaDoorRdC
import Derived.Test.YtgbgfekfcjphnaaDoorSxY
import Derived.Test.YtgbgfekfcjphnaaDoorTie
import Derived.Test.YtgbgfekfcjphnaaDoorCards
set_option maxRecDepth 100000
set_option linter.unusedSimpArgs false
set_option linter.unusedVariables false
namespace Go.Proofs.YtgbgfekfcjphnaaDoor
open Go.ChangeShapes Go.WideShapes Go.ChangeAt Go.RowKit
open Go.Sx

theorem qstateRests_sh : shsOf Tryd.prog Tryd.f4.params.toList = some [.sl (.ki .i64), .ta 2 .kb] := by kernel_rfl

theorem qstateRests_star : "*" ++ "errors.errorString" = "*errors.errorString" := by decide
theorem qstateRests_row (u : TypeId) (h : Tryd.prog.typeName? 3 u = some "*errors.errorString") : u = 131 :=
  typeName_ptr_named (nm := "errors.errorString") (by rw [qstateRests_star]; kernel_rfl) (by kernel_rfl) (by decide) u (by rw [qstateRests_star]; exact h)

theorem qstateRests_errTy : ErrTy Tryd.prog "*errors.errorString" 28 131 157 9 := errTy_of (by kernel_rfl) qstateRests_row (by kernel_rfl) (by kernel_rfl) (by kernel_rfl) (by kernel_rfl) (by kernel_rfl)

theorem qstateRests_own : ownKnob Tryd.prog.godebug = none := by kernel_rfl
theorem qstateRests_met (os : Os) (args : Array Value) : laidMetH Tryd.prog Rows.qstateRestsRow.laid ((World.doorLaid Tryd.prog 400 os).forCall (fun _ _ => 0) ⟨#[], args, []⟩).memory :=
  laidMetH_of_parts3 (fuel := 8) (laidMet_of_run' 8 (by kernel_rfl) (by kernel_rfl)) (by kernel_rfl) (by kernel_rfl)
theorem qstateRests_plain (w : World) : laidMetH Tryd.prog Rows.qstateRestsRow.laid w = laidMet Tryd.prog Rows.qstateRestsRow.laid w := MakeChecks.laidMetH_plain _ _ _ (by kernel_rfl)

def qstateRests_texts : List (Nat × List UInt8) := [(0, [105, 116, 32, 105, 115, 32, 110, 111, 116, 32, 111, 102, 32, 105, 116, 115, 32, 102, 111, 114, 109]), (1, [105, 116, 32, 99, 97, 110, 32, 110, 111, 116, 32, 98, 101, 32, 100, 111, 110, 101, 32, 105, 110, 32, 116, 104, 105, 115, 32, 115, 116, 97, 116, 101])]
theorem qstateRests_sent : sentOf Tryd.prog "*errors.errorString" Rows.qstateRestsRow.laid = some qstateRests_texts := by kernel_rfl

theorem qstateRests_readable : ∀ t ∈ Tryd.f4.params.toList, Tryd.prog.readableRec t = true ∧ t < Tryd.prog.types.size := by
  have h : (Tryd.f4.params.toList.all fun t => Tryd.prog.readableRec t && decide (t < Tryd.prog.types.size)) = true := by kernel_rfl
  intro t ht
  have := List.all_eq_true.1 h t ht
  simpa using this

theorem qstateRests_wants : ∀ t ∈ Tryd.f4.params.toList, Tryd.prog.wantsStandIn t = false := by
  have h : (Tryd.f4.params.toList.all fun t => !Tryd.prog.wantsStandIn t) = true := by kernel_rfl
  intro t ht
  have := List.all_eq_true.1 h t ht
  simpa using this

theorem qstateRests_lifted (os : Os) (started : os.Started) (H : Type) (enc : TypeId × Value → H) :
    ReturnsInHanded {} Tryd.checked os 4 .any (fun w args => (Rows.qstateRestsSpec.pre enc Tryd.prog Tryd.f4 [] false w args ∧ laidMetH Tryd.prog Rows.qstateRestsRow.laid w) ∧ sizedMet enc Tryd.prog Tryd.f4 (OpenSpec.ofChange Rows.qstateRestsSpec) false w args)
      (Rows.qstateRestsSpec.post enc Tryd.prog Tryd.f4 false true false false) := by
  refine returnsInHanded_of_change_and (C := Tryd.checked) (X := fun w _ => laidMetH Tryd.prog Rows.qstateRestsRow.laid w) (fun _ _ _ hh h => h.of_heap hh) qstateRests_own started (by kernel_rfl) Tryd.func4
    (ChangeSpec.witness_shaped (enc := enc) (C := Tryd.checked) (os := os) (X := fun w _ => laidMetH Tryd.prog Rows.qstateRestsRow.laid w) false (World.doorLaid Tryd.prog 400 os) #[.slice none 0 0, .agg #[.bool false, .bool false]] 8 rfl (World.shaped_of_RefB (by kernel_rfl) (by kernel_rfl)) (by kernel_rfl) (by kernel_rfl) (by kernel_rfl) (qstateRests_met os _)) ?_
  intro W base args ds gs before hval hW _ _ hL _
  have hW' := hW
  obtain ⟨p, q, hA, hV, rfl, hfz, hnd⟩ := hW
  obtain ⟨rfl, rfl⟩ := trodVars_none hV
  rw [qstateRests_plain] at hL
  obtain ⟨s1, s2, s3⟩ := sents_open qstateRests_errTy hL qstateRests_sent (by kernel_rfl)
  have hG : Tryd.prog.globals.size = 16 := by kernel_rfl
  rw [hG] at s2 s3
  have g3 : ds.length = 2 := (args_open qstateRests_sh hA (fun j t v h1 h2 => hval j t v (by rw [← Array.getElem?_toList]; exact h1) (by rw [← Array.getElem?_toList]; exact h2))).2.2.1
  match ds, g3 with
  | [d1, d2], _ =>
    refine (law_calls Tryd.func4 (body := bodyOf Tryd.f4) (by kernel_rfl) qstateRests_sh hA hval (lab := 100) (n := 110) (n' := 400) (L' := Sx.look []) gtopP s1 s2 (fun e he => ?_) (fun cs hcs hIs => ?_)).mono fun e W' ⟨he, hB⟩ => ⟨_, he, law_post (bt := 4) (by kernel_rfl) qstateRests_readable rfl (by kernel_rfl) (by kernel_rfl) hW' rfl hB⟩
    · obtain ⟨a1, a2, a3⟩ := s3 e he
      exact ⟨a1, Nat.lt_of_lt_of_le a2 gtopP, fun l hl => Nat.lt_of_lt_of_le (a3 l hl) gtopP⟩
    · clear hcs
      refine RunsTo.start (cargs := [.v (.vl 100 (fun _ => 0) 1 [] (fun _ => lenOf (rd0 cs [] 0))), .agg (.ta 2 (.vb (fun is => Sx.boolOf (rd0 cs is.dropLast (1 + is.getLastD 0 * 1 + 0)))))]) ?_ ⟨⟨rfl, rfl⟩, ⟨rfl, fun _ _ => rfl⟩, trivial⟩
      exact rests_law _ _ (lenOf (rd0 cs [] 0)) (fun is => Sx.intOf (rdOf W 1 (rd0 cs) 0 is 0)) (fun is => Sx.boolOf (rd0 cs is.dropLast (1 + is.getLastD 0 * 1 + 0)))

theorem qstateRests_holds : Rows.QstateRestsSaid :=
  OpenClaim.holds_of_wide 4 Tryd.f4 rfl rfl rfl rfl rfl rfl rfl ⟨rfl, rfl, rfl, rfl, rfl⟩ rfl rfl rfl rfl rfl (by kernel_rfl) Tryd.func4 (by kernel_rfl)
    (of_decide_eq_true (by kernel_rfl)) (by unfold Func.isWrapper; first | (rw [if_pos (by decide +kernel)]; kernel_rfl) | (rw [if_neg (by decide +kernel)]; exact ⟨rfl, rfl⟩))
    (fun os started H enc _ => qstateRests_lifted os started H enc)

theorem qstateRests_card_holds : Rows.QstateRestsCardSaid :=
  Claim7.holds_tied_plain_at .later [] [.sentinel, .sentinel] true (true, "0c0da55666f512df7b2740278067da395b3e2b2cdf5cb062ff72630bb2759783") true
    qstateRests_holds (fun _ h => by cases h) (by kernel_rfl) (fun _ h => by cases h) qstateRests_row_tie rfl ⟨rfl, rfl⟩ (by kernel_rfl) rfl
    (fun f fn hf hfn => by
      obtain rfl : f = 4 := Option.some.inj ((show Tryd.prog.funcNamed "truchman/truchmanlaw10.QstateRests" = some 4 by kernel_rfl).symm.trans hf) |>.symm
      obtain rfl : fn = Tryd.f4 := (Option.some.inj (Tryd.func4.symm.trans hfn)).symm
      exact ⟨by kernel_rfl, fun j t ht => qstateRests_wants t (List.mem_of_getElem? (by rw [Array.getElem?_toList]; exact ht))⟩)
    (by kernel_rfl)
end Go.Proofs.YtgbgfekfcjphnaaDoor
