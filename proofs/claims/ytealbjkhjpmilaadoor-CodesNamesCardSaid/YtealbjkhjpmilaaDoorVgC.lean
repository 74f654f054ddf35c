/- CodesNames: lifted; the card. -/
import Derived.Test.YtealbjkhjpmilaaDoorVfC
import Derived.Test.YtealbjkhjpmilaaDoorSyY
import Derived.Test.YtealbjkhjpmilaaDoorSyPl
import Derived.Lay
import Derived.Test.YtealbjkhjpmilaaDoorTie
import Derived.Test.YtealbjkhjpmilaaDoorCards
set_option maxRecDepth 100000
set_option linter.unusedSimpArgs false
set_option linter.unusedVariables false
namespace Go.Proofs.YtealbjkhjpmilaaDoor
open Go.ChangeShapes Go.WideShapes Go.ChangeAt Go.RowKit
open Go.Sx

theorem codesNames_sh : shsOf Tryd.prog Tryd.f12.params.toList = some [.ki .i64, .ks] := by kernel_rfl

theorem codesNames_star : "*" ++ "errors.errorString" = "*errors.errorString" := by decide
theorem codesNames_row (u : TypeId) (h : Tryd.prog.typeName? 3 u = some "*errors.errorString") : u = 223 :=
  typeName_ptr_named (nm := "errors.errorString") (by rw [codesNames_star]; kernel_rfl) (by kernel_rfl) (by decide) u (by rw [codesNames_star]; exact h)

theorem codesNames_errTy : ErrTy Tryd.prog "*errors.errorString" 31 223 225 9 := errTy_of (by kernel_rfl) codesNames_row (by kernel_rfl) (by kernel_rfl) (by kernel_rfl) (by kernel_rfl) (by kernel_rfl)

theorem codesNames_own : ownKnob Tryd.prog.godebug = none := by kernel_rfl
theorem codesNames_met (os : Os) (args : Array Value) : laidMetH Tryd.prog Rows.codesNamesRow.laid ((World.laidAll Tryd.prog os Rows.codesNamesRow.laid).forCall (fun _ _ => 0) ⟨#[], args, []⟩).memory := by
  rw [MakeChecks.laidMetH_plain _ _ _ (by kernel_rfl)]; exact laidMet_laidAll _ (by kernel_rfl) (by kernel_rfl)
theorem codesNames_plain (w : World) : laidMetH Tryd.prog Rows.codesNamesRow.laid w = laidMet Tryd.prog Rows.codesNamesRow.laid w := MakeChecks.laidMetH_plain _ _ _ (by kernel_rfl)

def codesNames_texts : List (Nat × List UInt8) := [(18, [118, 97, 108, 117, 101, 32, 111, 117, 116, 32, 111, 102, 32, 114, 97, 110, 103, 101]), (17, [105, 110, 118, 97, 108, 105, 100, 32, 115, 121, 110, 116, 97, 120])]
theorem codesNames_sent : sentOf Tryd.prog "*errors.errorString" Rows.codesNamesRow.laid = some codesNames_texts := by kernel_rfl

theorem codesNames_readable : ∀ t ∈ Tryd.f12.params.toList, Tryd.prog.readableRec t = true ∧ t < Tryd.prog.types.size := by
  have h : (Tryd.f12.params.toList.all fun t => Tryd.prog.readableRec t && decide (t < Tryd.prog.types.size)) = true := by kernel_rfl
  intro t ht
  have := List.all_eq_true.1 h t ht
  simpa using this

theorem codesNames_wants : ∀ t ∈ Tryd.f12.params.toList, Tryd.prog.wantsStandIn t = false := by
  have h : (Tryd.f12.params.toList.all fun t => !Tryd.prog.wantsStandIn t) = true := by kernel_rfl
  intro t ht
  have := List.all_eq_true.1 h t ht
  simpa using this

theorem codesNames_lifted (os : Os) (started : os.Started) (H : Type) (enc : TypeId × Value → H) :
    ReturnsInHanded {} Tryd.checked os 12 .any (fun w args => (Rows.codesNamesSpec.pre enc Tryd.prog Tryd.f12 [] false w args ∧ laidMetH Tryd.prog Rows.codesNamesRow.laid w) ∧ sizedMet enc Tryd.prog Tryd.f12 (OpenSpec.ofChange Rows.codesNamesSpec) false w args)
      (Rows.codesNamesSpec.post enc Tryd.prog Tryd.f12 false true false false) := by
  refine returnsInHanded_of_change_and (C := Tryd.checked) (X := fun w _ => laidMetH Tryd.prog Rows.codesNamesRow.laid w) (fun _ _ _ hh h => h.of_heap hh) codesNames_own started (by kernel_rfl) Tryd.func12
    (ChangeSpec.witness_shaped (enc := enc) (C := Tryd.checked) (os := os) (X := fun w _ => laidMetH Tryd.prog Rows.codesNamesRow.laid w) false (World.laidAll Tryd.prog os Rows.codesNamesRow.laid) #[.int .i64 0, .string ⟨#[]⟩] 8 (World.laidAll_os _ _ _) (World.shaped_of_ZipB (by kernel_rfl) (by kernel_rfl)) (by kernel_rfl) (by kernel_rfl) (by kernel_rfl) (codesNames_met os _)) ?_
  intro W base args ds gs before hval hW _ _ hL _
  have hW' := hW
  obtain ⟨p, q, hA, hV, rfl, hfz, hnd⟩ := hW
  obtain ⟨rfl, rfl⟩ := trodVars_none hV
  rw [codesNames_plain] at hL
  obtain ⟨s1, s2, s3⟩ := sents_open codesNames_errTy hL codesNames_sent (by kernel_rfl)
  have hT0 : TabAt W 20 powT.length (intTr .u64 powT) := int_tab (nm := "internal/strconv.uint64pow10") (t := 228) (e := 210) hL (List.mem_of_getElem? (show Rows.codesNamesRow.laid[2]? = some ("internal/strconv.uint64pow10", DataW.agg (powT.map fun s => .lit (.int .u64 s))) by kernel_rfl)) (by kernel_rfl) (by kernel_rfl) (by kernel_rfl) (by kernel_rfl) (by kernel_rfl)
  have hlt : (codesNames_texts.all fun x => Nat.blt x.1 Tryd.prog.globals.size) = true := by kernel_rfl
  obtain ⟨s1, s2, s3⟩ := tabs_open (tb := [(20, powT.length, intTr .u64 powT)]) s1 s2 s3 (fun x hx => by have := List.all_eq_true.1 hlt x hx; simpa [Nat.blt_eq] using this) (fun x hx => by
    simp only [List.mem_cons, List.mem_nil_iff, or_false] at hx
    rcases hx with rfl
    · exact ⟨Nat.lt_of_lt_of_le (by decide : 20 < 25) (Nat.le_of_eq (show 25 = Tryd.prog.globals.size by kernel_rfl)), hT0⟩) (by kernel_rfl)
  have hG : Tryd.prog.globals.size = 25 := by kernel_rfl
  rw [hG] at s2 s3
  have g3 : ds.length = 2 := (args_open codesNames_sh hA (fun j t v h1 h2 => hval j t v (by rw [← Array.getElem?_toList]; exact h1) (by rw [← Array.getElem?_toList]; exact h2))).2.2.1
  match ds, g3 with
  | [d1, d2], _ =>
    refine (law_calls Tryd.func12 (body := bodyOf Tryd.f12) (by kernel_rfl) codesNames_sh hA hval (lab := 100) (n := 110) (n' := 1500) (L' := Sx.look []) gtopP s1 s2 (fun e he => ?_) (fun cs hcs hIs => ?_)).mono fun e W' ⟨he, hB⟩ => ⟨_, he, law_post (bt := 4) (by kernel_rfl) codesNames_readable rfl (by kernel_rfl) (by kernel_rfl) hW' rfl hB⟩
    · obtain ⟨a1, a2, a3⟩ := s3 e he
      exact ⟨a1, Nat.lt_of_lt_of_le a2 gtopP, fun l hl => Nat.lt_of_lt_of_le (a3 l hl) gtopP⟩
    · clear hcs
      refine RunsTo.start (cargs := [.v (.vi .i64 fun _ => (Sx.intOf (rd0 cs [] 0))), .v (.vs fun _ => (Sx.strOf (rd0 cs [] 1)))]) ?_ ⟨rfl, rfl, trivial⟩
      exact names_law _ _ (Sx.intOf (rd0 cs [] 0)) (Sx.strOf (rd0 cs [] 1))

theorem codesNames_holds : Rows.CodesNamesSaid :=
  OpenClaim.holds_of_wide 12 Tryd.f12 rfl rfl rfl rfl rfl rfl rfl ⟨rfl, rfl, rfl, rfl, rfl⟩ rfl rfl rfl rfl rfl (by kernel_rfl) Tryd.func12 (by kernel_rfl)
    (of_decide_eq_true (by kernel_rfl)) (by unfold Func.isWrapper; first | (rw [if_pos (by decide +kernel)]; kernel_rfl) | (rw [if_neg (by decide +kernel)]; exact ⟨rfl, rfl⟩))
    (fun os started H enc _ => codesNames_lifted os started H enc)

theorem codesNames_card_holds : Rows.CodesNamesCardSaid :=
  Claim7.holds_tied_plain_at .later [] [.data, .data, .data, .sentinel, .sentinel] true (true, "65ce830c75c2fc44eeffd9e313a88e3c3ce420dda8c0e4b9eff87a7b2b38df46") true
    codesNames_holds (fun _ h => by cases h) (by kernel_rfl) (fun _ h => by cases h) codesNames_row_tie rfl ⟨rfl, rfl⟩ (by kernel_rfl) rfl
    (fun f fn hf hfn => by
      obtain rfl : f = 12 := Option.some.inj ((show Tryd.prog.funcNamed "truchman/truchmanlaw04.CodesNames" = some 12 by kernel_rfl).symm.trans hf) |>.symm
      obtain rfl : fn = Tryd.f12 := (Option.some.inj (Tryd.func12.symm.trans hfn)).symm
      exact ⟨by kernel_rfl, fun j t ht => codesNames_wants t (List.mem_of_getElem? (by rw [Array.getElem?_toList]; exact ht))⟩)
    (by kernel_rfl)
end Go.Proofs.YtealbjkhjpmilaaDoor
