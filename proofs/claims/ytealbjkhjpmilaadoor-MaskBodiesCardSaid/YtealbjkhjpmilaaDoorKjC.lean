/- MaskBodies: lifted; the card. -/
import Derived.Test.YtealbjkhjpmilaaDoorKiC
import Derived.Test.YtealbjkhjpmilaaDoorSyY
import Derived.Test.YtealbjkhjpmilaaDoorSyPl
import Derived.Lay
import Derived.Test.YtealbjkhjpmilaaDoorTie
import Derived.Test.YtealbjkhjpmilaaDoorCards
set_option maxRecDepth 100000
set_option linter.unusedSimpArgs false
set_option linter.unusedVariables false
namespace Go.Proofs.YtealbjkhjpmilaaDoor
open Go.ChangeShapes Go.WideShapes Go.ChangeAt Go.RowKit
open Go.Sx

theorem maskBodies_sh : shsOf Tryd.prog Tryd.f8.params.toList = some [.sl (.ki .u8), .ki .i64, .ta 32 (.ki .u8)] := by kernel_rfl

theorem maskBodies_star : "*" ++ "errors.errorString" = "*errors.errorString" := by decide
theorem maskBodies_row (u : TypeId) (h : Tryd.prog.typeName? 3 u = some "*errors.errorString") : u = 223 :=
  typeName_ptr_named (nm := "errors.errorString") (by rw [maskBodies_star]; kernel_rfl) (by kernel_rfl) (by decide) u (by rw [maskBodies_star]; exact h)

theorem maskBodies_errTy : ErrTy Tryd.prog "*errors.errorString" 31 223 225 9 := errTy_of (by kernel_rfl) maskBodies_row (by kernel_rfl) (by kernel_rfl) (by kernel_rfl) (by kernel_rfl) (by kernel_rfl)

theorem maskBodies_own : ownKnob Tryd.prog.godebug = none := by kernel_rfl
theorem maskBodies_met (os : Os) (args : Array Value) : laidMetH Tryd.prog Rows.maskBodiesRow.laid ((World.laidAll Tryd.prog os Rows.maskBodiesRow.laid).forCall (fun _ _ => 0) ⟨#[], args, []⟩).memory := by
  rw [MakeChecks.laidMetH_plain _ _ _ (by kernel_rfl)]; exact laidMet_laidAll _ (by kernel_rfl) (by kernel_rfl)
theorem maskBodies_plain (w : World) : laidMetH Tryd.prog Rows.maskBodiesRow.laid w = laidMet Tryd.prog Rows.maskBodiesRow.laid w := MakeChecks.laidMetH_plain _ _ _ (by kernel_rfl)

def maskBodies_texts : List (Nat × List UInt8) := [(7, [97, 32, 110, 117, 109, 98, 101, 114, 32, 105, 115, 32, 111, 117, 116, 32, 111, 102, 32, 105, 116, 115, 32, 114, 97, 110, 103, 101]), (8, [116, 104, 101, 114, 101, 32, 105, 115, 32, 110, 111, 32, 109, 111, 114, 101, 32, 114, 111, 111, 109]), (3, [115, 111, 109, 101, 116, 104, 105, 110, 103, 32, 105, 115, 32, 109, 105, 115, 115, 105, 110, 103, 32, 97, 116, 32, 116, 104, 101, 32, 101, 110, 100]), (4, [116, 104, 101, 114, 101, 32, 105, 115, 32, 109, 111, 114, 101, 32, 116, 104, 97, 110, 32, 109, 97, 121, 32, 98, 101]), (0, [105, 116, 32, 105, 115, 32, 110, 111, 116, 32, 111, 102, 32, 105, 116, 115, 32, 102, 111, 114, 109]), (9, [116, 104, 101, 114, 101, 32, 105, 115, 32, 110, 111, 32, 115, 117, 99, 104, 32, 110, 97, 109, 101]), (10, [116, 104, 101, 114, 101, 32, 105, 115, 32, 110, 111, 110, 101]), (2, [105, 116, 32, 105, 115, 32, 116, 104, 101, 114, 101, 32, 97, 108, 114, 101, 97, 100, 121]), (5, [105, 116, 32, 105, 115, 32, 111, 102, 32, 97, 110, 111, 116, 104, 101, 114, 32, 107, 105, 110, 100]), (1, [105, 116, 32, 99, 97, 110, 32, 110, 111, 116, 32, 98, 101, 32, 100, 111, 110, 101, 32, 105, 110, 32, 116, 104, 105, 115, 32, 115, 116, 97, 116, 101]), (11, [105, 116, 32, 103, 111, 101, 115, 32, 116, 111, 111, 32, 100, 101, 101, 112]), (12, [116, 104, 101, 32, 102, 117, 101, 108, 32, 105, 115, 32, 115, 112, 101, 110, 116]), (13, [116, 104, 101, 114, 101, 32, 97, 114, 101, 32, 116, 111, 111, 32, 109, 97, 110, 121, 32, 99, 97, 108, 108, 115, 32, 119, 105, 116, 104, 105, 110, 32, 111, 110, 101, 32, 97, 110, 111, 116, 104, 101, 114]), (14, [105, 116, 32, 105, 115, 32, 99, 108, 111, 115, 101, 100]), (15, [105, 116, 32, 119, 111, 117, 108, 100, 32, 109, 97, 116, 99, 104, 32, 110, 111, 116, 104, 105, 110, 103, 32, 97, 116, 32, 97, 108, 108]), (16, [116, 104, 101, 32, 116, 101, 120, 116, 32, 105, 115, 32, 110, 111, 32, 110, 117, 109, 98, 101, 114])]
theorem maskBodies_sent : sentOf Tryd.prog "*errors.errorString" Rows.maskBodiesRow.laid = some maskBodies_texts := by kernel_rfl

theorem maskBodies_readable : ∀ t ∈ Tryd.f8.params.toList, Tryd.prog.readableRec t = true ∧ t < Tryd.prog.types.size := by
  have h : (Tryd.f8.params.toList.all fun t => Tryd.prog.readableRec t && decide (t < Tryd.prog.types.size)) = true := by kernel_rfl
  intro t ht
  have := List.all_eq_true.1 h t ht
  simpa using this

theorem maskBodies_wants : ∀ t ∈ Tryd.f8.params.toList, Tryd.prog.wantsStandIn t = false := by
  have h : (Tryd.f8.params.toList.all fun t => !Tryd.prog.wantsStandIn t) = true := by kernel_rfl
  intro t ht
  have := List.all_eq_true.1 h t ht
  simpa using this

theorem maskBodies_lifted (os : Os) (started : os.Started) (H : Type) (enc : TypeId × Value → H) :
    ReturnsInHanded {} Tryd.checked os 8 .any (fun w args => (Rows.maskBodiesSpec.pre enc Tryd.prog Tryd.f8 [] false w args ∧ laidMetH Tryd.prog Rows.maskBodiesRow.laid w) ∧ sizedMet enc Tryd.prog Tryd.f8 (OpenSpec.ofChange Rows.maskBodiesSpec) false w args)
      (Rows.maskBodiesSpec.post enc Tryd.prog Tryd.f8 false true false false) := by
  refine returnsInHanded_of_change_and (C := Tryd.checked) (X := fun w _ => laidMetH Tryd.prog Rows.maskBodiesRow.laid w) (fun _ _ _ hh h => h.of_heap hh) maskBodies_own started (by kernel_rfl) Tryd.func8
    (ChangeSpec.witness_shaped (enc := enc) (C := Tryd.checked) (os := os) (X := fun w _ => laidMetH Tryd.prog Rows.maskBodiesRow.laid w) false (World.laidAll Tryd.prog os Rows.maskBodiesRow.laid) #[.slice none 0 0, .int .i64 0, .agg #[.int .u8 0, .int .u8 0, .int .u8 0, .int .u8 0, .int .u8 0, .int .u8 0, .int .u8 0, .int .u8 0, .int .u8 0, .int .u8 0, .int .u8 0, .int .u8 0, .int .u8 0, .int .u8 0, .int .u8 0, .int .u8 0, .int .u8 0, .int .u8 0, .int .u8 0, .int .u8 0, .int .u8 0, .int .u8 0, .int .u8 0, .int .u8 0, .int .u8 0, .int .u8 0, .int .u8 0, .int .u8 0, .int .u8 0, .int .u8 0, .int .u8 0, .int .u8 0]] 8 (World.laidAll_os _ _ _) (World.shaped_of_ZipB (by kernel_rfl) (by kernel_rfl)) (by kernel_rfl) (by kernel_rfl) (by kernel_rfl) (maskBodies_met os _)) ?_
  intro W base args ds gs before hval hW _ _ hL _
  have hW' := hW
  obtain ⟨p, q, hA, hV, rfl, hfz, hnd⟩ := hW
  obtain ⟨rfl, rfl⟩ := trodVars_none hV
  rw [maskBodies_plain] at hL
  obtain ⟨s1, s2, s3⟩ := sents_open maskBodies_errTy hL maskBodies_sent (by kernel_rfl)
  have hG : Tryd.prog.globals.size = 25 := by kernel_rfl
  rw [hG] at s2 s3
  have g3 : ds.length = 3 := (args_open maskBodies_sh hA (fun j t v h1 h2 => hval j t v (by rw [← Array.getElem?_toList]; exact h1) (by rw [← Array.getElem?_toList]; exact h2))).2.2.1
  match ds, g3 with
  | [d1, d2, d3], _ =>
    refine (law_calls Tryd.func8 (body := bodyOf Tryd.f8) (by kernel_rfl) maskBodies_sh hA hval (lab := 100) (n := 110) (n' := 900) (L' := Sx.look []) gtopP s1 s2 (fun e he => ?_) (fun cs hcs hIs => ?_)).mono fun e W' ⟨he, hB⟩ => ⟨_, he, law_post (bt := 4) (by kernel_rfl) maskBodies_readable rfl (by kernel_rfl) (by kernel_rfl) hW' rfl hB⟩
    · obtain ⟨a1, a2, a3⟩ := s3 e he
      exact ⟨a1, Nat.lt_of_lt_of_le a2 gtopP, fun l hl => Nat.lt_of_lt_of_le (a3 l hl) gtopP⟩
    · clear hcs
      have hX : (∀ i, i < lenOf (rd0 cs [] 0) → 0 ≤ Sx.intOf (rdOf W 1 (rd0 cs) 0 [i] 0) ∧ Sx.intOf (rdOf W 1 (rd0 cs) 0 [i] 0) < 256) ∧ (∀ i, i < 32 → 0 ≤ Sx.intOf (rd0 cs [] (2 + i * 1 + 0)) ∧ Sx.intOf (rd0 cs [] (2 + i * 1 + 0)) < 256) ∧ (-9223372036854775808 ≤ Sx.intOf (rd0 cs [] 1) ∧ Sx.intOf (rd0 cs [] 1) < 9223372036854775808) := by
        obtain ⟨a1, r1, e1, l1, hb, a2, r2, e2, l2, hm, a3, r3, e3, l3, hc, h0⟩ := hIs
        have hb2 := hb
        obtain ⟨v, e4, _⟩ := hb2
        rw [e4] at hb e1
        have l2 : a2.length = 1 := l2
        have l3 : a3.length = 32 := l3
        refine ⟨fun i hi => ?_, fun i hi => ?_, ?_⟩
        · have e5 : rd0 cs [] 0 = v := by rw [e1]; rfl
          rw [e5] at hi
          exact sl_u8 hb e5 i hi
        · have e6 : rd0 cs [] (2 + i * 1 + 0) = a3.getD i undef := by
            show cs.getD (2 + i * 1 + 0) undef = _
            rw [show 2 + i * 1 + 0 = 1 + (1 + i) by omega, e1, getD_right (k := 1) rfl, e2, getD_right (k := 1) l2, e3, getD_left (by omega)]
          rw [e6]
          exact ta_u8 hc i hi
        · obtain ⟨k, rfl, hw⟩ := hm
          have e6 : rd0 cs [] 1 = .int .i64 k := by rw [e1, e2]; rfl
          rw [e6]
          have := bounds_i64 hw
          exact ⟨this.1, by have := this.2; show k < _; omega⟩
      refine RunsTo.start (cargs := [.v (.vl 100 (fun _ => 0) 1 [] (fun _ => lenOf (rd0 cs [] 0))), .v (.vi .i64 fun _ => (Sx.intOf (rd0 cs [] 1))), .agg (.ta 32 (.vi .u8 (fun is => Sx.intOf (rd0 cs is.dropLast (2 + is.getLastD 0 * 1 + 0)))))]) ?_ ⟨⟨rfl, rfl⟩, rfl, ⟨rfl, fun _ _ => rfl⟩, trivial⟩
      exact mb_law _ _ _ _ _ _ _ _ _ _ _ _ _ _ _ _ (lenOf (rd0 cs [] 0)) (fun is => Sx.intOf (rdOf W 1 (rd0 cs) 0 is 0)) (fun is => Sx.intOf (rd0 cs is.dropLast (2 + is.getLastD 0 * 1 + 0))) (Sx.intOf (rd0 cs [] 1)) hX.1 hX.2.1 hX.2.2

theorem maskBodies_holds : Rows.MaskBodiesSaid :=
  OpenClaim.holds_of_wide 8 Tryd.f8 rfl rfl rfl rfl rfl rfl rfl ⟨rfl, rfl, rfl, rfl, rfl⟩ rfl rfl rfl rfl rfl (by kernel_rfl) Tryd.func8 (by kernel_rfl)
    (of_decide_eq_true (by kernel_rfl)) (by unfold Func.isWrapper; first | (rw [if_pos (by decide +kernel)]; kernel_rfl) | (rw [if_neg (by decide +kernel)]; exact ⟨rfl, rfl⟩))
    (fun os started H enc _ => maskBodies_lifted os started H enc)

theorem maskBodies_card_holds : Rows.MaskBodiesCardSaid :=
  Claim7.holds_tied_plain_at .later [] [.data, .sentinel, .sentinel, .sentinel, .sentinel, .sentinel, .sentinel, .sentinel, .sentinel, .sentinel, .sentinel, .sentinel, .sentinel, .sentinel, .sentinel, .sentinel, .sentinel, .pinned] true (true, "65ce830c75c2fc44eeffd9e313a88e3c3ce420dda8c0e4b9eff87a7b2b38df46") true
    maskBodies_holds (fun _ h => by cases h) (by kernel_rfl) (fun _ h => by cases h) maskBodies_row_tie rfl ⟨rfl, rfl⟩ (by kernel_rfl) rfl
    (fun f fn hf hfn => by
      obtain rfl : f = 8 := Option.some.inj ((show Tryd.prog.funcNamed "truchman/truchmanlaw16.MaskBodies" = some 8 by kernel_rfl).symm.trans hf) |>.symm
      obtain rfl : fn = Tryd.f8 := (Option.some.inj (Tryd.func8.symm.trans hfn)).symm
      exact ⟨by kernel_rfl, fun j t ht => maskBodies_wants t (List.mem_of_getElem? (by rw [Array.getElem?_toList]; exact ht))⟩)
    (by kernel_rfl)
end Go.Proofs.YtealbjkhjpmilaaDoor
