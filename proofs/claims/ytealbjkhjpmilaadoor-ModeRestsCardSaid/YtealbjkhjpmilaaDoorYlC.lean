/- ModeRests: lifted; the card. -/
import Derived.Test.YtealbjkhjpmilaaDoorYkC
import Derived.Test.YtealbjkhjpmilaaDoorSxY
import Derived.Test.YtealbjkhjpmilaaDoorSxPc
import Derived.Test.YtealbjkhjpmilaaDoorTie
import Derived.Test.YtealbjkhjpmilaaDoorCards
set_option maxRecDepth 100000
set_option linter.unusedSimpArgs false
set_option linter.unusedVariables false
namespace Go.Proofs.YtealbjkhjpmilaaDoor
open Go.ChangeShapes Go.WideShapes Go.ChangeAt Go.RowKit
open Go.Sx

theorem modeRests_sh : shsOf Tryd.prog Tryd.f3.params.toList = some [.ki .i64, .sl (.ki .i64)] := by kernel_rfl

theorem modeRests_star : "*" ++ "errors.errorString" = "*errors.errorString" := by decide
theorem modeRests_row (u : TypeId) (h : Tryd.prog.typeName? 3 u = some "*errors.errorString") : u = 223 :=
  typeName_ptr_named (nm := "errors.errorString") (by rw [modeRests_star]; kernel_rfl) (by kernel_rfl) (by decide) u (by rw [modeRests_star]; exact h)

theorem modeRests_errTy : ErrTy Tryd.prog "*errors.errorString" 31 223 225 9 := errTy_of (by kernel_rfl) modeRests_row (by kernel_rfl) (by kernel_rfl) (by kernel_rfl) (by kernel_rfl) (by kernel_rfl)

theorem modeRests_own : ownKnob Tryd.prog.godebug = none := by kernel_rfl
theorem modeRests_met (os : Os) (args : Array Value) : laidMetH Tryd.prog Rows.modeRestsRow.laid ((World.doorLaid Tryd.prog 400 os).forCall (fun _ _ => 0) ⟨#[], args, []⟩).memory :=
  laidMetH_of_parts3 (fuel := 8) (laidMet_of_run' 8 (by kernel_rfl) (by kernel_rfl)) (by kernel_rfl) (by kernel_rfl)
theorem modeRests_plain (w : World) : laidMetH Tryd.prog Rows.modeRestsRow.laid w = laidMet Tryd.prog Rows.modeRestsRow.laid w := MakeChecks.laidMetH_plain _ _ _ (by kernel_rfl)

def modeRests_texts : List (Nat × List UInt8) := [(3, [115, 111, 109, 101, 116, 104, 105, 110, 103, 32, 105, 115, 32, 109, 105, 115, 115, 105, 110, 103, 32, 97, 116, 32, 116, 104, 101, 32, 101, 110, 100]), (4, [116, 104, 101, 114, 101, 32, 105, 115, 32, 109, 111, 114, 101, 32, 116, 104, 97, 110, 32, 109, 97, 121, 32, 98, 101]), (0, [105, 116, 32, 105, 115, 32, 110, 111, 116, 32, 111, 102, 32, 105, 116, 115, 32, 102, 111, 114, 109]), (2, [105, 116, 32, 105, 115, 32, 116, 104, 101, 114, 101, 32, 97, 108, 114, 101, 97, 100, 121]), (5, [105, 116, 32, 105, 115, 32, 111, 102, 32, 97, 110, 111, 116, 104, 101, 114, 32, 107, 105, 110, 100]), (1, [105, 116, 32, 99, 97, 110, 32, 110, 111, 116, 32, 98, 101, 32, 100, 111, 110, 101, 32, 105, 110, 32, 116, 104, 105, 115, 32, 115, 116, 97, 116, 101])]
theorem modeRests_sent : sentOf Tryd.prog "*errors.errorString" Rows.modeRestsRow.laid = some modeRests_texts := by kernel_rfl

theorem modeRests_readable : ∀ t ∈ Tryd.f3.params.toList, Tryd.prog.readableRec t = true ∧ t < Tryd.prog.types.size := by
  have h : (Tryd.f3.params.toList.all fun t => Tryd.prog.readableRec t && decide (t < Tryd.prog.types.size)) = true := by kernel_rfl
  intro t ht
  have := List.all_eq_true.1 h t ht
  simpa using this

theorem modeRests_wants : ∀ t ∈ Tryd.f3.params.toList, Tryd.prog.wantsStandIn t = false := by
  have h : (Tryd.f3.params.toList.all fun t => !Tryd.prog.wantsStandIn t) = true := by kernel_rfl
  intro t ht
  have := List.all_eq_true.1 h t ht
  simpa using this

theorem modeRests_lifted (os : Os) (started : os.Started) (H : Type) (enc : TypeId × Value → H) :
    ReturnsInHanded {} Tryd.checked os 3 .any (fun w args => (Rows.modeRestsSpec.pre enc Tryd.prog Tryd.f3 [] false w args ∧ laidMetH Tryd.prog Rows.modeRestsRow.laid w) ∧ sizedMet enc Tryd.prog Tryd.f3 (OpenSpec.ofChange Rows.modeRestsSpec) false w args)
      (Rows.modeRestsSpec.post enc Tryd.prog Tryd.f3 false true false false) := by
  refine returnsInHanded_of_change_and (C := Tryd.checked) (X := fun w _ => laidMetH Tryd.prog Rows.modeRestsRow.laid w) (fun _ _ _ hh h => h.of_heap hh) modeRests_own started (by kernel_rfl) Tryd.func3
    (ChangeSpec.witness_shaped (enc := enc) (C := Tryd.checked) (os := os) (X := fun w _ => laidMetH Tryd.prog Rows.modeRestsRow.laid w) false (World.doorLaid Tryd.prog 400 os) #[.int .i64 0, .slice none 0 0] 8 rfl (World.shaped_of_RefB (by kernel_rfl) (by kernel_rfl)) (by kernel_rfl) (by kernel_rfl) (by kernel_rfl) (modeRests_met os _)) ?_
  intro W base args ds gs before hval hW _ _ hL _
  have hW' := hW
  obtain ⟨p, q, hA, hV, rfl, hfz, hnd⟩ := hW
  obtain ⟨rfl, rfl⟩ := trodVars_none hV
  rw [modeRests_plain] at hL
  obtain ⟨s1, s2, s3⟩ := sents_open modeRests_errTy hL modeRests_sent (by kernel_rfl)
  have hG : Tryd.prog.globals.size = 25 := by kernel_rfl
  rw [hG] at s2 s3
  have g3 : ds.length = 2 := (args_open modeRests_sh hA (fun j t v h1 h2 => hval j t v (by rw [← Array.getElem?_toList]; exact h1) (by rw [← Array.getElem?_toList]; exact h2))).2.2.1
  match ds, g3 with
  | [d1, d2], _ =>
    refine (law_calls Tryd.func3 (body := bodyOf Tryd.f3) (by kernel_rfl) modeRests_sh hA hval (lab := 100) (n := 110) (n' := 900) (L' := Sx.look []) gtopP s1 s2 (fun e he => ?_) (fun cs hcs hIs => ?_)).mono fun e W' ⟨he, hB⟩ => ⟨_, he, law_post (bt := 4) (by kernel_rfl) modeRests_readable rfl (by kernel_rfl) (by kernel_rfl) hW' rfl hB⟩
    · obtain ⟨a1, a2, a3⟩ := s3 e he
      exact ⟨a1, Nat.lt_of_lt_of_le a2 gtopP, fun l hl => Nat.lt_of_lt_of_le (a3 l hl) gtopP⟩
    · clear hcs
      have hA : ∀ i, i < lenOf (rd0 cs [] 1) → -9223372036854775808 ≤ Sx.intOf (rdOf W 1 (rd0 cs) 1 [i] 0) ∧ Sx.intOf (rdOf W 1 (rd0 cs) 1 [i] 0) < 9223372036854775808 := by
        obtain ⟨_, _, e1, _, ⟨most, rfl, _⟩, _, c0, rfl, _, hv, h0⟩ := hIs
        have hv2 := hv
        obtain ⟨v, rfl, _⟩ := hv2
        have e2 : rd0 cs [] 1 = v := by rw [e1]; rfl
        intro i hi
        rw [e2] at hi
        exact sl_i64 hv e2 i hi
      refine RunsTo.start (cargs := [.v (.vi .i64 fun _ => (Sx.intOf (rd0 cs [] 0))), .v (.vl 100 (fun _ => 0) 1 [] (fun _ => lenOf (rd0 cs [] 1)))]) ?_ ⟨rfl, ⟨rfl, rfl⟩, trivial⟩
      exact rests_law _ _ _ _ _ _ (Sx.intOf (rd0 cs [] 0)) (lenOf (rd0 cs [] 1)) (fun is => Sx.intOf (rdOf W 1 (rd0 cs) 1 is 0)) hA

theorem modeRests_holds : Rows.ModeRestsSaid :=
  OpenClaim.holds_of_wide 3 Tryd.f3 rfl rfl rfl rfl rfl rfl rfl ⟨rfl, rfl, rfl, rfl, rfl⟩ rfl rfl rfl rfl rfl (by kernel_rfl) Tryd.func3 (by kernel_rfl)
    (of_decide_eq_true (by kernel_rfl)) (by unfold Func.isWrapper; first | (rw [if_pos (by decide +kernel)]; kernel_rfl) | (rw [if_neg (by decide +kernel)]; exact ⟨rfl, rfl⟩))
    (fun os started H enc _ => modeRests_lifted os started H enc)

theorem modeRests_card_holds : Rows.ModeRestsCardSaid :=
  Claim7.holds_tied_plain_at .later [] [.sentinel, .sentinel, .sentinel, .sentinel, .sentinel, .sentinel] true (true, "65ce830c75c2fc44eeffd9e313a88e3c3ce420dda8c0e4b9eff87a7b2b38df46") true
    modeRests_holds (fun _ h => by cases h) (by kernel_rfl) (fun _ h => by cases h) modeRests_row_tie rfl ⟨rfl, rfl⟩ (by kernel_rfl) rfl
    (fun f fn hf hfn => by
      obtain rfl : f = 3 := Option.some.inj ((show Tryd.prog.funcNamed "truchman/truchmanlaw15.ModeRests" = some 3 by kernel_rfl).symm.trans hf) |>.symm
      obtain rfl : fn = Tryd.f3 := (Option.some.inj (Tryd.func3.symm.trans hfn)).symm
      exact ⟨by kernel_rfl, fun j t ht => modeRests_wants t (List.mem_of_getElem? (by rw [Array.getElem?_toList]; exact ht))⟩)
    (by kernel_rfl)
end Go.Proofs.YtealbjkhjpmilaaDoor
