/- QstateStill: lifted; the card. -/
import Derived.Test.YtgbgfekfcjphnaaDoorQaC
import Derived.Test.YtgbgfekfcjphnaaDoorSxY
import Derived.Test.YtgbgfekfcjphnaaDoorTie
import Derived.Test.YtgbgfekfcjphnaaDoorCards
set_option maxRecDepth 100000
set_option linter.unusedSimpArgs false
set_option linter.unusedVariables false
namespace Go.Proofs.YtgbgfekfcjphnaaDoor
open Go.ChangeShapes Go.WideShapes Go.ChangeAt Go.RowKit
open Go.Sx

theorem qstateStill_sh : shsOf Tryd.prog Tryd.f3.params.toList = some [.tc (.ki .i64) (.tc .kb .t0), .kb, .kb] := by kernel_rfl

theorem qstateStill_star : "*" ++ "errors.errorString" = "*errors.errorString" := by decide
theorem qstateStill_row (u : TypeId) (h : Tryd.prog.typeName? 3 u = some "*errors.errorString") : u = 131 :=
  typeName_ptr_named (nm := "errors.errorString") (by rw [qstateStill_star]; kernel_rfl) (by kernel_rfl) (by decide) u (by rw [qstateStill_star]; exact h)

theorem qstateStill_errTy : ErrTy Tryd.prog "*errors.errorString" 28 131 157 9 := errTy_of (by kernel_rfl) qstateStill_row (by kernel_rfl) (by kernel_rfl) (by kernel_rfl) (by kernel_rfl) (by kernel_rfl)

theorem qstateStill_own : ownKnob Tryd.prog.godebug = none := by kernel_rfl
theorem qstateStill_met (os : Os) (args : Array Value) : laidMetH Tryd.prog Rows.qstateStillRow.laid ((World.doorLaid Tryd.prog 400 os).forCall (fun _ _ => 0) ⟨#[], args, []⟩).memory :=
  laidMetH_of_parts3 (fuel := 8) (laidMet_of_run' 8 (by kernel_rfl) (by kernel_rfl)) (by kernel_rfl) (by kernel_rfl)
theorem qstateStill_plain (w : World) : laidMetH Tryd.prog Rows.qstateStillRow.laid w = laidMet Tryd.prog Rows.qstateStillRow.laid w := MakeChecks.laidMetH_plain _ _ _ (by kernel_rfl)

def qstateStill_texts : List (Nat × List UInt8) := [(0, [105, 116, 32, 105, 115, 32, 110, 111, 116, 32, 111, 102, 32, 105, 116, 115, 32, 102, 111, 114, 109]), (1, [105, 116, 32, 99, 97, 110, 32, 110, 111, 116, 32, 98, 101, 32, 100, 111, 110, 101, 32, 105, 110, 32, 116, 104, 105, 115, 32, 115, 116, 97, 116, 101])]
theorem qstateStill_sent : sentOf Tryd.prog "*errors.errorString" Rows.qstateStillRow.laid = some qstateStill_texts := by kernel_rfl

theorem qstateStill_readable : ∀ t ∈ Tryd.f3.params.toList, Tryd.prog.readableRec t = true ∧ t < Tryd.prog.types.size := by
  have h : (Tryd.f3.params.toList.all fun t => Tryd.prog.readableRec t && decide (t < Tryd.prog.types.size)) = true := by kernel_rfl
  intro t ht
  have := List.all_eq_true.1 h t ht
  simpa using this

theorem qstateStill_wants : ∀ t ∈ Tryd.f3.params.toList, Tryd.prog.wantsStandIn t = false := by
  have h : (Tryd.f3.params.toList.all fun t => !Tryd.prog.wantsStandIn t) = true := by kernel_rfl
  intro t ht
  have := List.all_eq_true.1 h t ht
  simpa using this

theorem qstateStill_lifted (os : Os) (started : os.Started) (H : Type) (enc : TypeId × Value → H) :
    ReturnsInHanded {} Tryd.checked os 3 .any (fun w args => (Rows.qstateStillSpec.pre enc Tryd.prog Tryd.f3 [] false w args ∧ laidMetH Tryd.prog Rows.qstateStillRow.laid w) ∧ sizedMet enc Tryd.prog Tryd.f3 (OpenSpec.ofChange Rows.qstateStillSpec) false w args)
      (Rows.qstateStillSpec.post enc Tryd.prog Tryd.f3 false true false false) := by
  refine returnsInHanded_of_change_and (C := Tryd.checked) (X := fun w _ => laidMetH Tryd.prog Rows.qstateStillRow.laid w) (fun _ _ _ hh h => h.of_heap hh) qstateStill_own started (by kernel_rfl) Tryd.func3
    (ChangeSpec.witness_shaped (enc := enc) (C := Tryd.checked) (os := os) (X := fun w _ => laidMetH Tryd.prog Rows.qstateStillRow.laid w) false (World.doorLaid Tryd.prog 400 os) #[.agg #[.int .i64 0, .bool false], .bool false, .bool false] 8 rfl (World.shaped_of_RefB (by kernel_rfl) (by kernel_rfl)) (by kernel_rfl) (by kernel_rfl) (by kernel_rfl) (qstateStill_met os _)) ?_
  intro W base args ds gs before hval hW _ _ hL _
  have hW' := hW
  obtain ⟨p, q, hA, hV, rfl, hfz, hnd⟩ := hW
  obtain ⟨rfl, rfl⟩ := trodVars_none hV
  rw [qstateStill_plain] at hL
  obtain ⟨s1, s2, s3⟩ := sents_open qstateStill_errTy hL qstateStill_sent (by kernel_rfl)
  have hG : Tryd.prog.globals.size = 16 := by kernel_rfl
  rw [hG] at s2 s3
  have g3 : ds.length = 3 := (args_open qstateStill_sh hA (fun j t v h1 h2 => hval j t v (by rw [← Array.getElem?_toList]; exact h1) (by rw [← Array.getElem?_toList]; exact h2))).2.2.1
  match ds, g3 with
  | [d1, d2, d3], _ =>
    refine (law_calls Tryd.func3 (body := bodyOf Tryd.f3) (by kernel_rfl) qstateStill_sh hA hval (lab := 100) (n := 110) (n' := 200) (L' := Sx.look []) gtopP s1 s2 (fun e he => ?_) (fun cs hcs hIs => ?_)).mono fun e W' ⟨he, hB⟩ => ⟨_, he, law_post (bt := 4) (by kernel_rfl) qstateStill_readable rfl (by kernel_rfl) (by kernel_rfl) hW' rfl hB⟩
    · obtain ⟨a1, a2, a3⟩ := s3 e he
      exact ⟨a1, Nat.lt_of_lt_of_le a2 gtopP, fun l hl => Nat.lt_of_lt_of_le (a3 l hl) gtopP⟩
    · obtain ⟨_, _, e1, _, ⟨_, _, rfl, _, ⟨k_0, rfl, _⟩, _, z0, rfl, _, ⟨k_1, rfl⟩, hz0⟩, _, _, rfl, _, ⟨is, rfl⟩, _, c0, rfl, _, ⟨ag, rfl⟩, h0⟩ := hIs
      have h0 : c0 = [] := h0
      subst h0
      have hz0 : z0 = [] := hz0
      subst hz0
      have hcs2 : cs = [.int .i64 k_0, .bool k_1, .bool is, .bool ag] := e1
      clear hcs e1
      subst hcs2
      refine RunsTo.start (cargs := [.agg (.tc (.vi .i64 fun _ => k_0) (.tc (.vb fun _ => k_1) .t0)), .v (.vb fun _ => is), .v (.vb fun _ => ag)]) ?_ ⟨⟨rfl, rfl⟩, rfl, rfl, trivial⟩
      exact still _ _ k_0 k_1 is ag

theorem qstateStill_holds : Rows.QstateStillSaid :=
  OpenClaim.holds_of_wide 3 Tryd.f3 rfl rfl rfl rfl rfl rfl rfl ⟨rfl, rfl, rfl, rfl, rfl⟩ rfl rfl rfl rfl rfl (by kernel_rfl) Tryd.func3 (by kernel_rfl)
    (of_decide_eq_true (by kernel_rfl)) (by unfold Func.isWrapper; first | (rw [if_pos (by decide +kernel)]; kernel_rfl) | (rw [if_neg (by decide +kernel)]; exact ⟨rfl, rfl⟩))
    (fun os started H enc _ => qstateStill_lifted os started H enc)

theorem qstateStill_card_holds : Rows.QstateStillCardSaid :=
  Claim7.holds_tied_plain_at .later [] [.sentinel, .sentinel] true (true, "0c0da55666f512df7b2740278067da395b3e2b2cdf5cb062ff72630bb2759783") true
    qstateStill_holds (fun _ h => by cases h) (by kernel_rfl) (fun _ h => by cases h) qstateStill_row_tie rfl ⟨rfl, rfl⟩ (by kernel_rfl) rfl
    (fun f fn hf hfn => by
      obtain rfl : f = 3 := Option.some.inj ((show Tryd.prog.funcNamed "truchman/truchmanlaw10.QstateStill" = some 3 by kernel_rfl).symm.trans hf) |>.symm
      obtain rfl : fn = Tryd.f3 := (Option.some.inj (Tryd.func3.symm.trans hfn)).symm
      exact ⟨by kernel_rfl, fun j t ht => qstateStill_wants t (List.mem_of_getElem? (by rw [Array.getElem?_toList]; exact ht))⟩)
    (by kernel_rfl)
end Go.Proofs.YtgbgfekfcjphnaaDoor
