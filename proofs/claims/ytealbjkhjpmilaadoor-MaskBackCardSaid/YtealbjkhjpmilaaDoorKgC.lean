/- MaskBack: lifted; the card. -/
import Derived.Test.YtealbjkhjpmilaaDoorKfC
import Derived.Test.YtealbjkhjpmilaaDoorSyY
import Derived.Test.YtealbjkhjpmilaaDoorSyPl
import Derived.Lay
import Derived.Test.YtealbjkhjpmilaaDoorTie
import Derived.Test.YtealbjkhjpmilaaDoorCards
set_option maxRecDepth 100000
set_option linter.unusedSimpArgs false
set_option linter.unusedVariables false
namespace Go.Proofs.YtealbjkhjpmilaaDoor
open Go.ChangeShapes Go.WideShapes Go.ChangeAt Go.RowKit
open Go.Sx

theorem maskBack_sh : shsOf Tryd.prog Tryd.f7.params.toList = some [.sl (.ki .u8), .ta 32 (.ki .u8), .ki .u8] := by kernel_rfl

theorem maskBack_star : "*" ++ "errors.errorString" = "*errors.errorString" := by decide
theorem maskBack_row (u : TypeId) (h : Tryd.prog.typeName? 3 u = some "*errors.errorString") : u = 223 :=
  typeName_ptr_named (nm := "errors.errorString") (by rw [maskBack_star]; kernel_rfl) (by kernel_rfl) (by decide) u (by rw [maskBack_star]; exact h)

theorem maskBack_errTy : ErrTy Tryd.prog "*errors.errorString" 31 223 225 9 := errTy_of (by kernel_rfl) maskBack_row (by kernel_rfl) (by kernel_rfl) (by kernel_rfl) (by kernel_rfl) (by kernel_rfl)

theorem maskBack_own : ownKnob Tryd.prog.godebug = none := by kernel_rfl
theorem maskBack_met (os : Os) (args : Array Value) : laidMetH Tryd.prog Rows.maskBackRow.laid ((World.laidAll Tryd.prog os Rows.maskBackRow.laid).forCall (fun _ _ => 0) ⟨#[], args, []⟩).memory := by
  rw [MakeChecks.laidMetH_plain _ _ _ (by kernel_rfl)]; exact laidMet_laidAll _ (by kernel_rfl) (by kernel_rfl)
theorem maskBack_plain (w : World) : laidMetH Tryd.prog Rows.maskBackRow.laid w = laidMet Tryd.prog Rows.maskBackRow.laid w := MakeChecks.laidMetH_plain _ _ _ (by kernel_rfl)

def maskBack_texts : List (Nat × List UInt8) := [(3, [115, 111, 109, 101, 116, 104, 105, 110, 103, 32, 105, 115, 32, 109, 105, 115, 115, 105, 110, 103, 32, 97, 116, 32, 116, 104, 101, 32, 101, 110, 100]), (4, [116, 104, 101, 114, 101, 32, 105, 115, 32, 109, 111, 114, 101, 32, 116, 104, 97, 110, 32, 109, 97, 121, 32, 98, 101]), (5, [105, 116, 32, 105, 115, 32, 111, 102, 32, 97, 110, 111, 116, 104, 101, 114, 32, 107, 105, 110, 100])]
theorem maskBack_sent : sentOf Tryd.prog "*errors.errorString" Rows.maskBackRow.laid = some maskBack_texts := by kernel_rfl

theorem maskBack_readable : ∀ t ∈ Tryd.f7.params.toList, Tryd.prog.readableRec t = true ∧ t < Tryd.prog.types.size := by
  have h : (Tryd.f7.params.toList.all fun t => Tryd.prog.readableRec t && decide (t < Tryd.prog.types.size)) = true := by kernel_rfl
  intro t ht
  have := List.all_eq_true.1 h t ht
  simpa using this

theorem maskBack_wants : ∀ t ∈ Tryd.f7.params.toList, Tryd.prog.wantsStandIn t = false := by
  have h : (Tryd.f7.params.toList.all fun t => !Tryd.prog.wantsStandIn t) = true := by kernel_rfl
  intro t ht
  have := List.all_eq_true.1 h t ht
  simpa using this

theorem maskBack_lifted (os : Os) (started : os.Started) (H : Type) (enc : TypeId × Value → H) :
    ReturnsInHanded {} Tryd.checked os 7 .any (fun w args => (Rows.maskBackSpec.pre enc Tryd.prog Tryd.f7 [] false w args ∧ laidMetH Tryd.prog Rows.maskBackRow.laid w) ∧ sizedMet enc Tryd.prog Tryd.f7 (OpenSpec.ofChange Rows.maskBackSpec) false w args)
      (Rows.maskBackSpec.post enc Tryd.prog Tryd.f7 false true false false) := by
  refine returnsInHanded_of_change_and (C := Tryd.checked) (X := fun w _ => laidMetH Tryd.prog Rows.maskBackRow.laid w) (fun _ _ _ hh h => h.of_heap hh) maskBack_own started (by kernel_rfl) Tryd.func7
    (ChangeSpec.witness_shaped (enc := enc) (C := Tryd.checked) (os := os) (X := fun w _ => laidMetH Tryd.prog Rows.maskBackRow.laid w) false (World.laidAll Tryd.prog os Rows.maskBackRow.laid) #[.slice none 0 0, .agg #[.int .u8 0, .int .u8 0, .int .u8 0, .int .u8 0, .int .u8 0, .int .u8 0, .int .u8 0, .int .u8 0, .int .u8 0, .int .u8 0, .int .u8 0, .int .u8 0, .int .u8 0, .int .u8 0, .int .u8 0, .int .u8 0, .int .u8 0, .int .u8 0, .int .u8 0, .int .u8 0, .int .u8 0, .int .u8 0, .int .u8 0, .int .u8 0, .int .u8 0, .int .u8 0, .int .u8 0, .int .u8 0, .int .u8 0, .int .u8 0, .int .u8 0, .int .u8 0], .int .u8 0] 8 (World.laidAll_os _ _ _) (World.shaped_of_ZipB (by kernel_rfl) (by kernel_rfl)) (by kernel_rfl) (by kernel_rfl) (by kernel_rfl) (maskBack_met os _)) ?_
  intro W base args ds gs before hval hW _ _ hL _
  have hW' := hW
  obtain ⟨p, q, hA, hV, rfl, hfz, hnd⟩ := hW
  obtain ⟨rfl, rfl⟩ := trodVars_none hV
  rw [maskBack_plain] at hL
  obtain ⟨s1, s2, s3⟩ := sents_open maskBack_errTy hL maskBack_sent (by kernel_rfl)
  have hG : Tryd.prog.globals.size = 25 := by kernel_rfl
  rw [hG] at s2 s3
  have g3 : ds.length = 3 := (args_open maskBack_sh hA (fun j t v h1 h2 => hval j t v (by rw [← Array.getElem?_toList]; exact h1) (by rw [← Array.getElem?_toList]; exact h2))).2.2.1
  match ds, g3 with
  | [d1, d2, d3], _ =>
    refine (law_calls Tryd.func7 (body := bodyOf Tryd.f7) (by kernel_rfl) maskBack_sh hA hval (lab := 100) (n := 110) (n' := 900) (L' := Sx.look []) gtopP s1 s2 (fun e he => ?_) (fun cs hcs hIs => ?_)).mono fun e W' ⟨he, hB⟩ => ⟨_, he, law_post (bt := 4) (by kernel_rfl) maskBack_readable rfl (by kernel_rfl) (by kernel_rfl) hW' rfl hB⟩
    · obtain ⟨a1, a2, a3⟩ := s3 e he
      exact ⟨a1, Nat.lt_of_lt_of_le a2 gtopP, fun l hl => Nat.lt_of_lt_of_le (a3 l hl) gtopP⟩
    · clear hcs
      have hX : (∀ i, i < lenOf (rd0 cs [] 0) → 0 ≤ Sx.intOf (rdOf W 1 (rd0 cs) 0 [i] 0) ∧ Sx.intOf (rdOf W 1 (rd0 cs) 0 [i] 0) < 256) ∧ (∀ i, i < 32 → 0 ≤ Sx.intOf (rd0 cs [] (1 + i * 1 + 0)) ∧ Sx.intOf (rd0 cs [] (1 + i * 1 + 0)) < 256) ∧ (0 ≤ Sx.intOf (rd0 cs [] 33) ∧ Sx.intOf (rd0 cs [] 33) < 256) := by
        obtain ⟨a1, r1, e1, l1, hb, a2, r2, e2, l2, hm, a3, r3, e3, l3, hc, h0⟩ := hIs
        have hb2 := hb
        obtain ⟨v, e4, _⟩ := hb2
        rw [e4] at hb e1
        have l2 : a2.length = 32 := l2
        refine ⟨fun i hi => ?_, fun i hi => ?_, ?_⟩
        · have e5 : rd0 cs [] 0 = v := by rw [e1]; rfl
          rw [e5] at hi
          exact sl_u8 hb e5 i hi
        · have e6 : rd0 cs [] (1 + i * 1 + 0) = a2.getD i undef := by
            show cs.getD (1 + i * 1 + 0) undef = _
            rw [show 1 + i * 1 + 0 = 1 + i by omega, e1, getD_right (k := 1) rfl, e2, getD_left (by omega)]
          rw [e6]
          exact ta_u8 hm i hi
        · have e6 : rd0 cs [] 33 = a3.getD 0 undef := by
            show cs.getD 33 undef = _
            rw [e1, show 33 = 1 + (32 + 0) from rfl, getD_right (k := 1) rfl, e2, getD_right (k := 32) l2, e3, getD_left (by rw [l3]; exact Nat.one_pos)]
          rw [e6]
          exact ki_u8 hc
      refine RunsTo.start (cargs := [.v (.vl 100 (fun _ => 0) 1 [] (fun _ => lenOf (rd0 cs [] 0))), .agg (.ta 32 (.vi .u8 (fun is => Sx.intOf (rd0 cs is.dropLast (1 + is.getLastD 0 * 1 + 0))))), .v (.vi .u8 fun _ => (Sx.intOf (rd0 cs [] 33)))]) ?_ ⟨⟨rfl, rfl⟩, ⟨rfl, fun _ _ => rfl⟩, rfl, trivial⟩
      exact mk_law _ _ _ (lenOf (rd0 cs [] 0)) (fun is => Sx.intOf (rdOf W 1 (rd0 cs) 0 is 0)) (fun is => Sx.intOf (rd0 cs is.dropLast (1 + is.getLastD 0 * 1 + 0))) (Sx.intOf (rd0 cs [] 33)) hX.1 hX.2.1 hX.2.2

theorem maskBack_holds : Rows.MaskBackSaid :=
  OpenClaim.holds_of_wide 7 Tryd.f7 rfl rfl rfl rfl rfl rfl rfl ⟨rfl, rfl, rfl, rfl, rfl⟩ rfl rfl rfl rfl rfl (by kernel_rfl) Tryd.func7 (by kernel_rfl)
    (of_decide_eq_true (by kernel_rfl)) (by unfold Func.isWrapper; first | (rw [if_pos (by decide +kernel)]; kernel_rfl) | (rw [if_neg (by decide +kernel)]; exact ⟨rfl, rfl⟩))
    (fun os started H enc _ => maskBack_lifted os started H enc)

theorem maskBack_card_holds : Rows.MaskBackCardSaid :=
  Claim7.holds_tied_plain_at .later [] [.data, .sentinel, .sentinel, .sentinel, .pinned] true (true, "65ce830c75c2fc44eeffd9e313a88e3c3ce420dda8c0e4b9eff87a7b2b38df46") true
    maskBack_holds (fun _ h => by cases h) (by kernel_rfl) (fun _ h => by cases h) maskBack_row_tie rfl ⟨rfl, rfl⟩ (by kernel_rfl) rfl
    (fun f fn hf hfn => by
      obtain rfl : f = 7 := Option.some.inj ((show Tryd.prog.funcNamed "truchman/truchmanlaw16.MaskBack" = some 7 by kernel_rfl).symm.trans hf) |>.symm
      obtain rfl : fn = Tryd.f7 := (Option.some.inj (Tryd.func7.symm.trans hfn)).symm
      exact ⟨by kernel_rfl, fun j t ht => maskBack_wants t (List.mem_of_getElem? (by rw [Array.getElem?_toList]; exact ht))⟩)
    (by kernel_rfl)
end Go.Proofs.YtealbjkhjpmilaaDoor
