/- CodesOwn: lifted; the card. -/
import Derived.Test.YtealbjkhjpmilaaDoorVfC
import Derived.Test.YtealbjkhjpmilaaDoorSyY
import Derived.Test.YtealbjkhjpmilaaDoorSyPl
import Derived.Lay
import Derived.Test.YtealbjkhjpmilaaDoorTie
import Derived.Test.YtealbjkhjpmilaaDoorCards
set_option maxRecDepth 100000
set_option linter.unusedSimpArgs false
set_option linter.unusedVariables false
namespace Go.Proofs.YtealbjkhjpmilaaDoor
open Go.ChangeShapes Go.WideShapes Go.ChangeAt Go.RowKit
open Go.Sx

theorem codesOwn_sh : shsOf Tryd.prog Tryd.f13.params.toList = some [.ki .i64, .ki .i64, .kb] := by kernel_rfl

theorem codesOwn_star : "*" ++ "errors.errorString" = "*errors.errorString" := by decide
theorem codesOwn_row (u : TypeId) (h : Tryd.prog.typeName? 3 u = some "*errors.errorString") : u = 223 :=
  typeName_ptr_named (nm := "errors.errorString") (by rw [codesOwn_star]; kernel_rfl) (by kernel_rfl) (by decide) u (by rw [codesOwn_star]; exact h)

theorem codesOwn_errTy : ErrTy Tryd.prog "*errors.errorString" 31 223 225 9 := errTy_of (by kernel_rfl) codesOwn_row (by kernel_rfl) (by kernel_rfl) (by kernel_rfl) (by kernel_rfl) (by kernel_rfl)

theorem codesOwn_own : ownKnob Tryd.prog.godebug = none := by kernel_rfl
theorem codesOwn_met (os : Os) (args : Array Value) : laidMetH Tryd.prog Rows.codesOwnRow.laid ((World.laidAll Tryd.prog os Rows.codesOwnRow.laid).forCall (fun _ _ => 0) ⟨#[], args, []⟩).memory := by
  rw [MakeChecks.laidMetH_plain _ _ _ (by kernel_rfl)]; exact laidMet_laidAll _ (by kernel_rfl) (by kernel_rfl)
theorem codesOwn_plain (w : World) : laidMetH Tryd.prog Rows.codesOwnRow.laid w = laidMet Tryd.prog Rows.codesOwnRow.laid w := MakeChecks.laidMetH_plain _ _ _ (by kernel_rfl)

def codesOwn_texts : List (Nat × List UInt8) := [(18, [118, 97, 108, 117, 101, 32, 111, 117, 116, 32, 111, 102, 32, 114, 97, 110, 103, 101]), (17, [105, 110, 118, 97, 108, 105, 100, 32, 115, 121, 110, 116, 97, 120])]
theorem codesOwn_sent : sentOf Tryd.prog "*errors.errorString" Rows.codesOwnRow.laid = some codesOwn_texts := by kernel_rfl

theorem codesOwn_readable : ∀ t ∈ Tryd.f13.params.toList, Tryd.prog.readableRec t = true ∧ t < Tryd.prog.types.size := by
  have h : (Tryd.f13.params.toList.all fun t => Tryd.prog.readableRec t && decide (t < Tryd.prog.types.size)) = true := by kernel_rfl
  intro t ht
  have := List.all_eq_true.1 h t ht
  simpa using this

theorem codesOwn_wants : ∀ t ∈ Tryd.f13.params.toList, Tryd.prog.wantsStandIn t = false := by
  have h : (Tryd.f13.params.toList.all fun t => !Tryd.prog.wantsStandIn t) = true := by kernel_rfl
  intro t ht
  have := List.all_eq_true.1 h t ht
  simpa using this

theorem codesOwn_lifted (os : Os) (started : os.Started) (H : Type) (enc : TypeId × Value → H) :
    ReturnsInHanded {} Tryd.checked os 13 .any (fun w args => (Rows.codesOwnSpec.pre enc Tryd.prog Tryd.f13 [] false w args ∧ laidMetH Tryd.prog Rows.codesOwnRow.laid w) ∧ sizedMet enc Tryd.prog Tryd.f13 (OpenSpec.ofChange Rows.codesOwnSpec) false w args)
      (Rows.codesOwnSpec.post enc Tryd.prog Tryd.f13 false true false false) := by
  refine returnsInHanded_of_change_and (C := Tryd.checked) (X := fun w _ => laidMetH Tryd.prog Rows.codesOwnRow.laid w) (fun _ _ _ hh h => h.of_heap hh) codesOwn_own started (by kernel_rfl) Tryd.func13
    (ChangeSpec.witness_shaped (enc := enc) (C := Tryd.checked) (os := os) (X := fun w _ => laidMetH Tryd.prog Rows.codesOwnRow.laid w) false (World.laidAll Tryd.prog os Rows.codesOwnRow.laid) #[.int .i64 0, .int .i64 0, .bool false] 8 (World.laidAll_os _ _ _) (World.shaped_of_ZipB (by kernel_rfl) (by kernel_rfl)) (by kernel_rfl) (by kernel_rfl) (by kernel_rfl) (codesOwn_met os _)) ?_
  intro W base args ds gs before hval hW _ _ hL _
  have hW' := hW
  obtain ⟨p, q, hA, hV, rfl, hfz, hnd⟩ := hW
  obtain ⟨rfl, rfl⟩ := trodVars_none hV
  rw [codesOwn_plain] at hL
  obtain ⟨s1, s2, s3⟩ := sents_open codesOwn_errTy hL codesOwn_sent (by kernel_rfl)
  have hT0 : TabAt W 6 wordsT.length (strTr wordsT) := str_tab (nm := "truchman/codes.words") (t := 128) (e := 9) hL (List.mem_of_getElem? (show Rows.codesOwnRow.laid[5]? = some ("truchman/codes.words", DataW.agg (wordsT.map fun s => .lit (.string s))) by kernel_rfl)) (by kernel_rfl) (by kernel_rfl) (by kernel_rfl) (by kernel_rfl) (by kernel_rfl)
  have hT1 : TabAt W 20 powT.length (intTr .u64 powT) := int_tab (nm := "internal/strconv.uint64pow10") (t := 228) (e := 210) hL (List.mem_of_getElem? (show Rows.codesOwnRow.laid[2]? = some ("internal/strconv.uint64pow10", DataW.agg (powT.map fun s => .lit (.int .u64 s))) by kernel_rfl)) (by kernel_rfl) (by kernel_rfl) (by kernel_rfl) (by kernel_rfl) (by kernel_rfl)
  have hlt : (codesOwn_texts.all fun x => Nat.blt x.1 Tryd.prog.globals.size) = true := by kernel_rfl
  obtain ⟨s1, s2, s3⟩ := tabs_open (tb := [(6, wordsT.length, strTr wordsT), (20, powT.length, intTr .u64 powT)]) s1 s2 s3 (fun x hx => by have := List.all_eq_true.1 hlt x hx; simpa [Nat.blt_eq] using this) (fun x hx => by
    simp only [List.mem_cons, List.mem_nil_iff, or_false] at hx
    rcases hx with rfl | rfl
    · exact ⟨Nat.lt_of_lt_of_le (by decide : 6 < 25) (Nat.le_of_eq (show 25 = Tryd.prog.globals.size by kernel_rfl)), hT0⟩
    · exact ⟨Nat.lt_of_lt_of_le (by decide : 20 < 25) (Nat.le_of_eq (show 25 = Tryd.prog.globals.size by kernel_rfl)), hT1⟩) (by kernel_rfl)
  have hG : Tryd.prog.globals.size = 25 := by kernel_rfl
  rw [hG] at s2 s3
  have g3 : ds.length = 3 := (args_open codesOwn_sh hA (fun j t v h1 h2 => hval j t v (by rw [← Array.getElem?_toList]; exact h1) (by rw [← Array.getElem?_toList]; exact h2))).2.2.1
  match ds, g3 with
  | [d1, d2, d3], _ =>
    refine (law_calls Tryd.func13 (body := bodyOf Tryd.f13) (by kernel_rfl) codesOwn_sh hA hval (lab := 100) (n := 110) (n' := 2500) (L' := Sx.look []) gtopP s1 s2 (fun e he => ?_) (fun cs hcs hIs => ?_)).mono fun e W' ⟨he, hB⟩ => ⟨_, he, law_post (bt := 4) (by kernel_rfl) codesOwn_readable rfl (by kernel_rfl) (by kernel_rfl) hW' rfl hB⟩
    · obtain ⟨a1, a2, a3⟩ := s3 e he
      exact ⟨a1, Nat.lt_of_lt_of_le a2 gtopP, fun l hl => Nat.lt_of_lt_of_le (a3 l hl) gtopP⟩
    · clear hcs
      refine RunsTo.start (cargs := [.v (.vi .i64 fun _ => (Sx.intOf (rd0 cs [] 0))), .v (.vi .i64 fun _ => (Sx.intOf (rd0 cs [] 1))), .v (.vb fun _ => (Sx.boolOf (rd0 cs [] 2)))]) ?_ ⟨rfl, rfl, rfl, trivial⟩
      exact own_law _ _ (Sx.intOf (rd0 cs [] 0)) (Sx.intOf (rd0 cs [] 1)) (Sx.boolOf (rd0 cs [] 2))

theorem codesOwn_holds : Rows.CodesOwnSaid :=
  OpenClaim.holds_of_wide 13 Tryd.f13 rfl rfl rfl rfl rfl rfl rfl ⟨rfl, rfl, rfl, rfl, rfl⟩ rfl rfl rfl rfl rfl (by kernel_rfl) Tryd.func13 (by kernel_rfl)
    (of_decide_eq_true (by kernel_rfl)) (by unfold Func.isWrapper; first | (rw [if_pos (by decide +kernel)]; kernel_rfl) | (rw [if_neg (by decide +kernel)]; exact ⟨rfl, rfl⟩))
    (fun os started H enc _ => codesOwn_lifted os started H enc)

theorem codesOwn_card_holds : Rows.CodesOwnCardSaid :=
  Claim7.holds_tied_plain_at .later [] [.data, .data, .data, .sentinel, .sentinel, .widerDeep] true (true, "65ce830c75c2fc44eeffd9e313a88e3c3ce420dda8c0e4b9eff87a7b2b38df46") true
    codesOwn_holds (fun _ h => by cases h) (by kernel_rfl) (fun _ h => by cases h) codesOwn_row_tie rfl ⟨rfl, rfl⟩ (by kernel_rfl) rfl
    (fun f fn hf hfn => by
      obtain rfl : f = 13 := Option.some.inj ((show Tryd.prog.funcNamed "truchman/truchmanlaw04.CodesOwn" = some 13 by kernel_rfl).symm.trans hf) |>.symm
      obtain rfl : fn = Tryd.f13 := (Option.some.inj (Tryd.func13.symm.trans hfn)).symm
      exact ⟨by kernel_rfl, fun j t ht => codesOwn_wants t (List.mem_of_getElem? (by rw [Array.getElem?_toList]; exact ht))⟩)
    (by kernel_rfl)
end Go.Proofs.YtealbjkhjpmilaaDoor
