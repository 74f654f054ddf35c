/- SlcBodies: lifted; the card. -/
import Derived.Test.YtdmkdmaofgjelaaDoorEfC
import Derived.Test.YtdmkdmaofgjelaaDoorSxY
import Derived.Test.YtdmkdmaofgjelaaDoorSxPc
import Derived.Test.YtdmkdmaofgjelaaDoorTie
import Derived.Test.YtdmkdmaofgjelaaDoorCards
set_option maxRecDepth 100000
set_option linter.unusedSimpArgs false
set_option linter.unusedVariables false
namespace Go.Proofs.YtdmkdmaofgjelaaDoor
open Go.ChangeShapes Go.WideShapes Go.ChangeAt Go.RowKit
open Go.Sx

theorem slcBodies_sh : shsOf Tryd.prog Tryd.f9.params.toList = some [.sl (.tc (.ki .i64) (.tc (.tc (.ki .i64) (.tc (.ki .i64) .t0)) (.tc .kb .t0))), .sl (.ki .u8)] := by kernel_rfl

theorem slcBodies_star : "*" ++ "errors.errorString" = "*errors.errorString" := by decide
theorem slcBodies_row (u : TypeId) (h : Tryd.prog.typeName? 3 u = some "*errors.errorString") : u = 140 :=
  typeName_ptr_named (nm := "errors.errorString") (by rw [slcBodies_star]; kernel_rfl) (by kernel_rfl) (by decide) u (by rw [slcBodies_star]; exact h)

theorem slcBodies_errTy : ErrTy Tryd.prog "*errors.errorString" 27 140 164 9 := errTy_of (by kernel_rfl) slcBodies_row (by kernel_rfl) (by kernel_rfl) (by kernel_rfl) (by kernel_rfl) (by kernel_rfl)

theorem slcBodies_own : ownKnob Tryd.prog.godebug = none := by kernel_rfl
theorem slcBodies_met (os : Os) (args : Array Value) : laidMetH Tryd.prog Rows.slcBodiesRow.laid ((World.doorLaid Tryd.prog 400 os).forCall (fun _ _ => 0) ⟨#[], args, []⟩).memory :=
  laidMetH_of_parts3 (fuel := 8) (laidMet_of_run' 8 (by kernel_rfl) (by kernel_rfl)) (by kernel_rfl) (by kernel_rfl)
theorem slcBodies_plain (w : World) : laidMetH Tryd.prog Rows.slcBodiesRow.laid w = laidMet Tryd.prog Rows.slcBodiesRow.laid w := MakeChecks.laidMetH_plain _ _ _ (by kernel_rfl)

def slcBodies_texts : List (Nat × List UInt8) := [(2, [97, 32, 110, 117, 109, 98, 101, 114, 32, 105, 115, 32, 111, 117, 116, 32, 111, 102, 32, 105, 116, 115, 32, 114, 97, 110, 103, 101]), (6, [116, 104, 101, 114, 101, 32, 105, 115, 32, 110, 111, 32, 109, 111, 114, 101, 32, 114, 111, 111, 109]), (0, [115, 111, 109, 101, 116, 104, 105, 110, 103, 32, 105, 115, 32, 109, 105, 115, 115, 105, 110, 103, 32, 97, 116, 32, 116, 104, 101, 32, 101, 110, 100]), (1, [116, 104, 101, 114, 101, 32, 105, 115, 32, 109, 111, 114, 101, 32, 116, 104, 97, 110, 32, 109, 97, 121, 32, 98, 101]), (3, [105, 116, 32, 105, 115, 32, 110, 111, 116, 32, 111, 102, 32, 105, 116, 115, 32, 102, 111, 114, 109]), (7, [116, 104, 101, 114, 101, 32, 105, 115, 32, 110, 111, 32, 115, 117, 99, 104, 32, 110, 97, 109, 101]), (8, [116, 104, 101, 114, 101, 32, 105, 115, 32, 110, 111, 110, 101]), (5, [105, 116, 32, 105, 115, 32, 116, 104, 101, 114, 101, 32, 97, 108, 114, 101, 97, 100, 121]), (9, [105, 116, 32, 105, 115, 32, 111, 102, 32, 97, 110, 111, 116, 104, 101, 114, 32, 107, 105, 110, 100]), (4, [105, 116, 32, 99, 97, 110, 32, 110, 111, 116, 32, 98, 101, 32, 100, 111, 110, 101, 32, 105, 110, 32, 116, 104, 105, 115, 32, 115, 116, 97, 116, 101]), (10, [105, 116, 32, 103, 111, 101, 115, 32, 116, 111, 111, 32, 100, 101, 101, 112]), (11, [116, 104, 101, 32, 102, 117, 101, 108, 32, 105, 115, 32, 115, 112, 101, 110, 116]), (12, [116, 104, 101, 114, 101, 32, 97, 114, 101, 32, 116, 111, 111, 32, 109, 97, 110, 121, 32, 99, 97, 108, 108, 115, 32, 119, 105, 116, 104, 105, 110, 32, 111, 110, 101, 32, 97, 110, 111, 116, 104, 101, 114]), (13, [105, 116, 32, 105, 115, 32, 99, 108, 111, 115, 101, 100]), (14, [105, 116, 32, 119, 111, 117, 108, 100, 32, 109, 97, 116, 99, 104, 32, 110, 111, 116, 104, 105, 110, 103, 32, 97, 116, 32, 97, 108, 108]), (15, [116, 104, 101, 32, 116, 101, 120, 116, 32, 105, 115, 32, 110, 111, 32, 110, 117, 109, 98, 101, 114])]
theorem slcBodies_sent : sentOf Tryd.prog "*errors.errorString" Rows.slcBodiesRow.laid = some slcBodies_texts := by kernel_rfl

theorem slcBodies_readable : ∀ t ∈ Tryd.f9.params.toList, Tryd.prog.readableRec t = true ∧ t < Tryd.prog.types.size := by
  have h : (Tryd.f9.params.toList.all fun t => Tryd.prog.readableRec t && decide (t < Tryd.prog.types.size)) = true := by kernel_rfl
  intro t ht
  have := List.all_eq_true.1 h t ht
  simpa using this

theorem slcBodies_wants : ∀ t ∈ Tryd.f9.params.toList, Tryd.prog.wantsStandIn t = false := by
  have h : (Tryd.f9.params.toList.all fun t => !Tryd.prog.wantsStandIn t) = true := by kernel_rfl
  intro t ht
  have := List.all_eq_true.1 h t ht
  simpa using this

theorem slcBodies_lifted (os : Os) (started : os.Started) (H : Type) (enc : TypeId × Value → H) :
    ReturnsInHanded {} Tryd.checked os 9 .any (fun w args => (Rows.slcBodiesSpec.pre enc Tryd.prog Tryd.f9 [] false w args ∧ laidMetH Tryd.prog Rows.slcBodiesRow.laid w) ∧ sizedMet enc Tryd.prog Tryd.f9 (OpenSpec.ofChange Rows.slcBodiesSpec) false w args)
      (Rows.slcBodiesSpec.post enc Tryd.prog Tryd.f9 false true false false) := by
  refine returnsInHanded_of_change_and (C := Tryd.checked) (X := fun w _ => laidMetH Tryd.prog Rows.slcBodiesRow.laid w) (fun _ _ _ hh h => h.of_heap hh) slcBodies_own started (by kernel_rfl) Tryd.func9
    (ChangeSpec.witness_shaped (enc := enc) (C := Tryd.checked) (os := os) (X := fun w _ => laidMetH Tryd.prog Rows.slcBodiesRow.laid w) false (World.doorLaid Tryd.prog 400 os) #[.slice none 0 0, .slice none 0 0] 8 rfl (World.shaped_of_RefB (by kernel_rfl) (by kernel_rfl)) (by kernel_rfl) (by kernel_rfl) (by kernel_rfl) (slcBodies_met os _)) ?_
  intro W base args ds gs before hval hW _ _ hL _
  have hW' := hW
  obtain ⟨p, q, hA, hV, rfl, hfz, hnd⟩ := hW
  obtain ⟨rfl, rfl⟩ := trodVars_none hV
  rw [slcBodies_plain] at hL
  obtain ⟨s1, s2, s3⟩ := sents_open slcBodies_errTy hL slcBodies_sent (by kernel_rfl)
  have hG : Tryd.prog.globals.size = 16 := by kernel_rfl
  rw [hG] at s2 s3
  have g3 : ds.length = 2 := (args_open slcBodies_sh hA (fun j t v h1 h2 => hval j t v (by rw [← Array.getElem?_toList]; exact h1) (by rw [← Array.getElem?_toList]; exact h2))).2.2.1
  match ds, g3 with
  | [d1, d2], _ =>
    refine (law_calls Tryd.func9 (body := bodyOf Tryd.f9) (by kernel_rfl) slcBodies_sh hA hval (lab := 100) (n := 110) (n' := 900) (L' := Sx.look []) gtopP s1 s2 (fun e he => ?_) (fun cs hcs hIs => ?_)).mono fun e W' ⟨he, hB⟩ => ⟨_, he, law_post (bt := 4) (by kernel_rfl) slcBodies_readable rfl (by kernel_rfl) (by kernel_rfl) hW' rfl hB⟩
    · obtain ⟨a1, a2, a3⟩ := s3 e he
      exact ⟨a1, Nat.lt_of_lt_of_le a2 gtopP, fun l hl => Nat.lt_of_lt_of_le (a3 l hl) gtopP⟩
    · clear hcs
      have hB : ∀ i, i < lenOf (rd0 cs [] 1) → 0 ≤ Sx.intOf (rdOf W 1 (rd0 cs) 1 [i] 0) ∧ Sx.intOf (rdOf W 1 (rd0 cs) 1 [i] 0) < 256 := by
        obtain ⟨_, _, e1, _, ⟨l, rfl, _⟩, _, c0, rfl, _, hv, h0⟩ := hIs
        have hv2 := hv
        obtain ⟨v, rfl, _⟩ := hv2
        have e2 : rd0 cs [] 1 = v := by rw [e1]; rfl
        intro i hi
        rw [e2] at hi
        exact sl_u8 hv e2 i hi
      refine RunsTo.start (cargs := [.v (.vl 100 (fun _ => 0) 4 [] (fun _ => lenOf (rd0 cs [] 0))), .v (.vl 101 (fun _ => 0) 1 [] (fun _ => lenOf (rd0 cs [] 1)))]) ?_ ⟨⟨rfl, rfl⟩, ⟨rfl, rfl⟩, trivial⟩
      exact bodies_law _ _ _ _ _ _ _ _ _ _ _ _ _ _ _ _ (lenOf (rd0 cs [] 0)) (lenOf (rd0 cs [] 1)) (fun is => Sx.intOf (rdOf W 4 (rd0 cs) 0 is 0)) (fun is => Sx.intOf (rdOf W 4 (rd0 cs) 0 is 1)) (fun is => Sx.intOf (rdOf W 4 (rd0 cs) 0 is 2)) (fun is => Sx.boolOf (rdOf W 4 (rd0 cs) 0 is 3)) (fun is => Sx.intOf (rdOf W 1 (rd0 cs) 1 is 0)) hB

theorem slcBodies_holds : Rows.SlcBodiesSaid :=
  OpenClaim.holds_of_wide 9 Tryd.f9 rfl rfl rfl rfl rfl rfl rfl ⟨rfl, rfl, rfl, rfl, rfl⟩ rfl rfl rfl rfl rfl (by kernel_rfl) Tryd.func9 (by kernel_rfl)
    (of_decide_eq_true (by kernel_rfl)) (by unfold Func.isWrapper; first | (rw [if_pos (by decide +kernel)]; kernel_rfl) | (rw [if_neg (by decide +kernel)]; exact ⟨rfl, rfl⟩))
    (fun os started H enc _ => slcBodies_lifted os started H enc)

theorem slcBodies_card_holds : Rows.SlcBodiesCardSaid :=
  Claim7.holds_tied_plain_at .later [] [.sentinel, .sentinel, .sentinel, .sentinel, .sentinel, .sentinel, .sentinel, .sentinel, .sentinel, .sentinel, .sentinel, .sentinel, .sentinel, .sentinel, .sentinel, .sentinel] true (true, "dd1cba97f90618458ea6c9157597c81a3796c50eee34087de253fca5d61675c3") true
    slcBodies_holds (fun _ h => by cases h) (by kernel_rfl) (fun _ h => by cases h) slcBodies_row_tie rfl ⟨rfl, rfl⟩ (by kernel_rfl) rfl
    (fun f fn hf hfn => by
      obtain rfl : f = 9 := Option.some.inj ((show Tryd.prog.funcNamed "truchman/truchmanlaw14.SlcBodies" = some 9 by kernel_rfl).symm.trans hf) |>.symm
      obtain rfl : fn = Tryd.f9 := (Option.some.inj (Tryd.func9.symm.trans hfn)).symm
      exact ⟨by kernel_rfl, fun j t ht => slcBodies_wants t (List.mem_of_getElem? (by rw [Array.getElem?_toList]; exact ht))⟩)
    (by kernel_rfl)
end Go.Proofs.YtdmkdmaofgjelaaDoor
