/- SlcRests: lifted; the card. -/
import Derived.Test.YtdmkdmaofgjelaaDoorHhC
import Derived.Test.YtdmkdmaofgjelaaDoorSyY
import Derived.Test.YtdmkdmaofgjelaaDoorSyPl
import Derived.Lay
import Derived.Test.YtdmkdmaofgjelaaDoorTie
import Derived.Test.YtdmkdmaofgjelaaDoorCards
set_option maxRecDepth 100000
set_option linter.unusedSimpArgs false
set_option linter.unusedVariables false
namespace Go.Proofs.YtdmkdmaofgjelaaDoor
open Go.ChangeShapes Go.WideShapes Go.ChangeAt Go.RowKit
open Go.Sx

theorem slcRests_sh : shsOf Tryd.prog Tryd.f6.params.toList = some [.sl (.tc (.ki .i64) (.tc (.ki .i64) .t0)), .sl (.tc (.ki .i64) (.tc (.ki .i64) .t0)), .sl (.tc (.ki .i64) (.tc (.tc (.ki .i64) (.tc (.tc (.ki .i64) (.tc (.ki .i64) .t0)) (.tc .kb .t0))) .t0))] := by kernel_rfl

theorem slcRests_star : "*" ++ "errors.errorString" = "*errors.errorString" := by decide
theorem slcRests_row (u : TypeId) (h : Tryd.prog.typeName? 3 u = some "*errors.errorString") : u = 140 :=
  typeName_ptr_named (nm := "errors.errorString") (by rw [slcRests_star]; kernel_rfl) (by kernel_rfl) (by decide) u (by rw [slcRests_star]; exact h)

theorem slcRests_errTy : ErrTy Tryd.prog "*errors.errorString" 27 140 164 9 := errTy_of (by kernel_rfl) slcRests_row (by kernel_rfl) (by kernel_rfl) (by kernel_rfl) (by kernel_rfl) (by kernel_rfl)

theorem slcRests_own : ownKnob Tryd.prog.godebug = none := by kernel_rfl
theorem slcRests_met (os : Os) (args : Array Value) : laidMetH Tryd.prog Rows.slcRestsRow.laid ((World.laidAll Tryd.prog os Rows.slcRestsRow.laid).forCall (fun _ _ => 0) ⟨#[], args, []⟩).memory := by
  rw [MakeChecks.laidMetH_plain _ _ _ (by kernel_rfl)]; exact laidMet_laidAll _ (by kernel_rfl) (by kernel_rfl)
theorem slcRests_plain (w : World) : laidMetH Tryd.prog Rows.slcRestsRow.laid w = laidMet Tryd.prog Rows.slcRestsRow.laid w := MakeChecks.laidMetH_plain _ _ _ (by kernel_rfl)

def slcRests_texts : List (Nat × List UInt8) := [(2, [97, 32, 110, 117, 109, 98, 101, 114, 32, 105, 115, 32, 111, 117, 116, 32, 111, 102, 32, 105, 116, 115, 32, 114, 97, 110, 103, 101]), (3, [105, 116, 32, 105, 115, 32, 110, 111, 116, 32, 111, 102, 32, 105, 116, 115, 32, 102, 111, 114, 109]), (5, [105, 116, 32, 105, 115, 32, 116, 104, 101, 114, 101, 32, 97, 108, 114, 101, 97, 100, 121]), (4, [105, 116, 32, 99, 97, 110, 32, 110, 111, 116, 32, 98, 101, 32, 100, 111, 110, 101, 32, 105, 110, 32, 116, 104, 105, 115, 32, 115, 116, 97, 116, 101])]
theorem slcRests_sent : sentOf Tryd.prog "*errors.errorString" Rows.slcRestsRow.laid = some slcRests_texts := by kernel_rfl

theorem slcRests_readable : ∀ t ∈ Tryd.f6.params.toList, Tryd.prog.readableRec t = true ∧ t < Tryd.prog.types.size := by
  have h : (Tryd.f6.params.toList.all fun t => Tryd.prog.readableRec t && decide (t < Tryd.prog.types.size)) = true := by kernel_rfl
  intro t ht
  have := List.all_eq_true.1 h t ht
  simpa using this

theorem slcRests_wants : ∀ t ∈ Tryd.f6.params.toList, Tryd.prog.wantsStandIn t = false := by
  have h : (Tryd.f6.params.toList.all fun t => !Tryd.prog.wantsStandIn t) = true := by kernel_rfl
  intro t ht
  have := List.all_eq_true.1 h t ht
  simpa using this

theorem slcRests_lifted (os : Os) (started : os.Started) (H : Type) (enc : TypeId × Value → H) :
    ReturnsInHanded {} Tryd.checked os 6 .any (fun w args => (Rows.slcRestsSpec.pre enc Tryd.prog Tryd.f6 [] false w args ∧ laidMetH Tryd.prog Rows.slcRestsRow.laid w) ∧ sizedMet enc Tryd.prog Tryd.f6 (OpenSpec.ofChange Rows.slcRestsSpec) false w args)
      (Rows.slcRestsSpec.post enc Tryd.prog Tryd.f6 false true false false) := by
  refine returnsInHanded_of_change_and (C := Tryd.checked) (X := fun w _ => laidMetH Tryd.prog Rows.slcRestsRow.laid w) (fun _ _ _ hh h => h.of_heap hh) slcRests_own started (by kernel_rfl) Tryd.func6
    (ChangeSpec.witness_shaped (enc := enc) (C := Tryd.checked) (os := os) (X := fun w _ => laidMetH Tryd.prog Rows.slcRestsRow.laid w) false (World.laidAll Tryd.prog os Rows.slcRestsRow.laid) #[.slice none 0 0, .slice none 0 0, .slice none 0 0] 8 (World.laidAll_os _ _ _) (World.shaped_of_ZipB (by kernel_rfl) (by kernel_rfl)) (by kernel_rfl) (by kernel_rfl) (by kernel_rfl) (slcRests_met os _)) ?_
  intro W base args ds gs before hval hW _ _ hL _
  have hW' := hW
  obtain ⟨p, q, hA, hV, rfl, hfz, hnd⟩ := hW
  obtain ⟨rfl, rfl⟩ := trodVars_none hV
  rw [slcRests_plain] at hL
  obtain ⟨s1, s2, s3⟩ := sents_open slcRests_errTy hL slcRests_sent (by kernel_rfl)
  have hG : Tryd.prog.globals.size = 16 := by kernel_rfl
  rw [hG] at s2 s3
  have g3 : ds.length = 3 := (args_open slcRests_sh hA (fun j t v h1 h2 => hval j t v (by rw [← Array.getElem?_toList]; exact h1) (by rw [← Array.getElem?_toList]; exact h2))).2.2.1
  match ds, g3 with
  | [d1, d2, d3], _ =>
    refine (law_calls Tryd.func6 (body := bodyOf Tryd.f6) (by kernel_rfl) slcRests_sh hA hval (lab := 100) (n := 110) (n' := 900) (L' := Sx.look []) gtopP s1 s2 (fun e he => ?_) (fun cs hcs hIs => ?_)).mono fun e W' ⟨he, hB⟩ => ⟨_, he, law_post (bt := 4) (by kernel_rfl) slcRests_readable rfl (by kernel_rfl) (by kernel_rfl) hW' rfl hB⟩
    · obtain ⟨a1, a2, a3⟩ := s3 e he
      exact ⟨a1, Nat.lt_of_lt_of_le a2 gtopP, fun l hl => Nat.lt_of_lt_of_le (a3 l hl) gtopP⟩
    · clear hcs
      refine RunsTo.start (cargs := [.v (.vl 100 (fun _ => 0) 2 [] (fun _ => lenOf (rd0 cs [] 0))), .v (.vl 101 (fun _ => 0) 2 [] (fun _ => lenOf (rd0 cs [] 1))), .v (.vl 102 (fun _ => 0) 5 [] (fun _ => lenOf (rd0 cs [] 2)))]) ?_ ⟨⟨rfl, rfl⟩, ⟨rfl, rfl⟩, ⟨rfl, rfl⟩, trivial⟩
      exact rests_law _ _ _ _ (lenOf (rd0 cs [] 0)) (lenOf (rd0 cs [] 1)) (lenOf (rd0 cs [] 2)) (fun is => Sx.intOf (rdOf W 2 (rd0 cs) 0 is 0)) (fun is => Sx.intOf (rdOf W 2 (rd0 cs) 0 is 1)) (fun is => Sx.intOf (rdOf W 2 (rd0 cs) 1 is 0)) (fun is => Sx.intOf (rdOf W 2 (rd0 cs) 1 is 1)) (fun is => Sx.intOf (rdOf W 5 (rd0 cs) 2 is 0)) (fun is => Sx.intOf (rdOf W 5 (rd0 cs) 2 is 1)) (fun is => Sx.intOf (rdOf W 5 (rd0 cs) 2 is 2)) (fun is => Sx.intOf (rdOf W 5 (rd0 cs) 2 is 3)) (fun is => Sx.boolOf (rdOf W 5 (rd0 cs) 2 is 4))

theorem slcRests_holds : Rows.SlcRestsSaid :=
  OpenClaim.holds_of_wide 6 Tryd.f6 rfl rfl rfl rfl rfl rfl rfl ⟨rfl, rfl, rfl, rfl, rfl⟩ rfl rfl rfl rfl rfl (by kernel_rfl) Tryd.func6 (by kernel_rfl)
    (of_decide_eq_true (by kernel_rfl)) (by unfold Func.isWrapper; first | (rw [if_pos (by decide +kernel)]; kernel_rfl) | (rw [if_neg (by decide +kernel)]; exact ⟨rfl, rfl⟩))
    (fun os started H enc _ => slcRests_lifted os started H enc)

theorem slcRests_card_holds : Rows.SlcRestsCardSaid :=
  Claim7.holds_tied_plain_at .later [] [.sentinel, .sentinel, .sentinel, .sentinel] true (true, "dd1cba97f90618458ea6c9157597c81a3796c50eee34087de253fca5d61675c3") true
    slcRests_holds (fun _ h => by cases h) (by kernel_rfl) (fun _ h => by cases h) slcRests_row_tie rfl ⟨rfl, rfl⟩ (by kernel_rfl) rfl
    (fun f fn hf hfn => by
      obtain rfl : f = 6 := Option.some.inj ((show Tryd.prog.funcNamed "truchman/truchmanlaw14.SlcRests" = some 6 by kernel_rfl).symm.trans hf) |>.symm
      obtain rfl : fn = Tryd.f6 := (Option.some.inj (Tryd.func6.symm.trans hfn)).symm
      exact ⟨by kernel_rfl, fun j t ht => slcRests_wants t (List.mem_of_getElem? (by rw [Array.getElem?_toList]; exact ht))⟩)
    (by kernel_rfl)
end Go.Proofs.YtdmkdmaofgjelaaDoor
