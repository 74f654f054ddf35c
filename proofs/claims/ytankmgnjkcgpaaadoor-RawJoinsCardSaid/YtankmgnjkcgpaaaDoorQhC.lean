/- RawJoins: lifted; the card. -/
import Derived.Test.YtankmgnjkcgpaaaDoorQiC
import Derived.Test.YtankmgnjkcgpaaaDoorSyY
import Derived.Test.YtankmgnjkcgpaaaDoorSyPl
import Derived.Test.YtankmgnjkcgpaaaDoorSyWt
import Derived.Lay
import Derived.Test.YtankmgnjkcgpaaaDoorTie
import Derived.Test.YtankmgnjkcgpaaaDoorCards
set_option maxRecDepth 100000
set_option linter.unusedSimpArgs false
set_option linter.unusedVariables false
namespace Go.Proofs.YtankmgnjkcgpaaaDoor
open Go.ChangeShapes Go.WideShapes Go.ChangeAt Go.RowKit
open Go.Sx

theorem rawJoins_sh : shsOf Tryd.prog Tryd.f9.params.toList = some [.ks, .ks] := by kernel_rfl

theorem rawJoins_star : "*" ++ "errors.errorString" = "*errors.errorString" := by decide
theorem rawJoins_row (u : TypeId) (h : Tryd.prog.typeName? 3 u = some "*errors.errorString") : u = 194 :=
  typeName_ptr_named (nm := "errors.errorString") (by rw [rawJoins_star]; kernel_rfl) (by kernel_rfl) (by decide) u (by rw [rawJoins_star]; exact h)

theorem rawJoins_errTy : ErrTy Tryd.prog "*errors.errorString" 26 194 196 9 := errTy_of (by kernel_rfl) rawJoins_row (by kernel_rfl) (by kernel_rfl) (by kernel_rfl) (by kernel_rfl) (by kernel_rfl)

theorem rawJoins_own : ownKnob Tryd.prog.godebug = none := by kernel_rfl
theorem rawJoins_met (os : Os) (args : Array Value) : laidMetH Tryd.prog Rows.rawJoinsRow.laid ((World.laidAll Tryd.prog os Rows.rawJoinsRow.laid).forCall (fun _ _ => 0) ⟨#[], args, []⟩).memory := by
  rw [MakeChecks.laidMetH_plain _ _ _ (by kernel_rfl)]; exact laidMet_laidAll _ (by kernel_rfl) (by kernel_rfl)
theorem rawJoins_plain (w : World) : laidMetH Tryd.prog Rows.rawJoinsRow.laid w = laidMet Tryd.prog Rows.rawJoinsRow.laid w := MakeChecks.laidMetH_plain _ _ _ (by kernel_rfl)

def rawJoins_texts : List (Nat × List UInt8) := [(21, [118, 97, 108, 117, 101, 32, 111, 117, 116, 32, 111, 102, 32, 114, 97, 110, 103, 101]), (20, [105, 110, 118, 97, 108, 105, 100, 32, 115, 121, 110, 116, 97, 120]), (0, [97, 32, 110, 117, 109, 98, 101, 114, 32, 105, 115, 32, 111, 117, 116, 32, 111, 102, 32, 105, 116, 115, 32, 114, 97, 110, 103, 101]), (3, [116, 104, 101, 114, 101, 32, 105, 115, 32, 110, 111, 32, 109, 111, 114, 101, 32, 114, 111, 111, 109]), (4, [115, 111, 109, 101, 116, 104, 105, 110, 103, 32, 105, 115, 32, 109, 105, 115, 115, 105, 110, 103, 32, 97, 116, 32, 116, 104, 101, 32, 101, 110, 100]), (2, [116, 104, 101, 114, 101, 32, 105, 115, 32, 109, 111, 114, 101, 32, 116, 104, 97, 110, 32, 109, 97, 121, 32, 98, 101]), (1, [105, 116, 32, 105, 115, 32, 110, 111, 116, 32, 111, 102, 32, 105, 116, 115, 32, 102, 111, 114, 109]), (5, [116, 104, 101, 114, 101, 32, 105, 115, 32, 110, 111, 32, 115, 117, 99, 104, 32, 110, 97, 109, 101]), (6, [116, 104, 101, 114, 101, 32, 105, 115, 32, 110, 111, 110, 101]), (7, [105, 116, 32, 105, 115, 32, 116, 104, 101, 114, 101, 32, 97, 108, 114, 101, 97, 100, 121]), (8, [105, 116, 32, 105, 115, 32, 111, 102, 32, 97, 110, 111, 116, 104, 101, 114, 32, 107, 105, 110, 100]), (9, [105, 116, 32, 99, 97, 110, 32, 110, 111, 116, 32, 98, 101, 32, 100, 111, 110, 101, 32, 105, 110, 32, 116, 104, 105, 115, 32, 115, 116, 97, 116, 101]), (10, [105, 116, 32, 103, 111, 101, 115, 32, 116, 111, 111, 32, 100, 101, 101, 112]), (11, [116, 104, 101, 32, 102, 117, 101, 108, 32, 105, 115, 32, 115, 112, 101, 110, 116]), (12, [116, 104, 101, 114, 101, 32, 97, 114, 101, 32, 116, 111, 111, 32, 109, 97, 110, 121, 32, 99, 97, 108, 108, 115, 32, 119, 105, 116, 104, 105, 110, 32, 111, 110, 101, 32, 97, 110, 111, 116, 104, 101, 114]), (13, [105, 116, 32, 105, 115, 32, 99, 108, 111, 115, 101, 100]), (14, [105, 116, 32, 119, 111, 117, 108, 100, 32, 109, 97, 116, 99, 104, 32, 110, 111, 116, 104, 105, 110, 103, 32, 97, 116, 32, 97, 108, 108]), (15, [116, 104, 101, 32, 116, 101, 120, 116, 32, 105, 115, 32, 110, 111, 32, 110, 117, 109, 98, 101, 114])]
theorem rawJoins_sent : sentOf Tryd.prog "*errors.errorString" Rows.rawJoinsRow.laid = some rawJoins_texts := by kernel_rfl

theorem rawJoins_readable : ∀ t ∈ Tryd.f9.params.toList, Tryd.prog.readableRec t = true ∧ t < Tryd.prog.types.size := by
  have h : (Tryd.f9.params.toList.all fun t => Tryd.prog.readableRec t && decide (t < Tryd.prog.types.size)) = true := by kernel_rfl
  intro t ht
  have := List.all_eq_true.1 h t ht
  simpa using this

theorem rawJoins_wants : ∀ t ∈ Tryd.f9.params.toList, Tryd.prog.wantsStandIn t = false := by
  have h : (Tryd.f9.params.toList.all fun t => !Tryd.prog.wantsStandIn t) = true := by kernel_rfl
  intro t ht
  have := List.all_eq_true.1 h t ht
  simpa using this

theorem rawJoins_lifted (os : Os) (started : os.Started) (H : Type) (enc : TypeId × Value → H) :
    ReturnsInHanded {} Tryd.checked os 9 .any (fun w args => (Rows.rawJoinsSpec.pre enc Tryd.prog Tryd.f9 [] false w args ∧ laidMetH Tryd.prog Rows.rawJoinsRow.laid w) ∧ sizedMet enc Tryd.prog Tryd.f9 (OpenSpec.ofChange Rows.rawJoinsSpec) false w args)
      (Rows.rawJoinsSpec.post enc Tryd.prog Tryd.f9 false true false false) := by
  refine returnsInHanded_of_change_and (C := Tryd.checked) (X := fun w _ => laidMetH Tryd.prog Rows.rawJoinsRow.laid w) (fun _ _ _ hh h => h.of_heap hh) rawJoins_own started (by kernel_rfl) Tryd.func9
    (ChangeSpec.witness_shaped (enc := enc) (C := Tryd.checked) (os := os) (X := fun w _ => laidMetH Tryd.prog Rows.rawJoinsRow.laid w) false (World.laidAll Tryd.prog os Rows.rawJoinsRow.laid) #[.string ⟨#[]⟩, .string ⟨#[]⟩] 8 (World.laidAll_os _ _ _) (World.shaped_of_ZipB (by kernel_rfl) (by kernel_rfl)) (by kernel_rfl) (by kernel_rfl) (by kernel_rfl) (rawJoins_met os _)) ?_
  intro W base args ds gs before hval hW _ _ hL _
  have hW' := hW
  obtain ⟨p, q, hA, hV, rfl, hfz, hnd⟩ := hW
  obtain ⟨rfl, rfl⟩ := trodVars_none hV
  rw [rawJoins_plain] at hL
  obtain ⟨s1, s2, s3⟩ := sents_open rawJoins_errTy hL rawJoins_sent (by kernel_rfl)
  have hT0 : TabAt W 17 powT.length (intTr .u64 powT) := int_tab (nm := "internal/strconv.uint64pow10") (t := 173) (e := 155) hL (List.mem_of_getElem? (show Rows.rawJoinsRow.laid[2]? = some ("internal/strconv.uint64pow10", DataW.agg (powT.map fun s => .lit (.int .u64 s))) by kernel_rfl)) (by kernel_rfl) (by kernel_rfl) (by kernel_rfl) (by kernel_rfl) (by kernel_rfl)
  have hlt : (rawJoins_texts.all fun x => Nat.blt x.1 Tryd.prog.globals.size) = true := by kernel_rfl
  obtain ⟨s1, s2, s3⟩ := tabs_open (tb := [(17, powT.length, intTr .u64 powT)]) s1 s2 s3 (fun x hx => by have := List.all_eq_true.1 hlt x hx; simpa [Nat.blt_eq] using this) (fun x hx => by
    simp only [List.mem_cons, List.mem_nil_iff, or_false] at hx
    rcases hx with rfl
    · exact ⟨Nat.lt_of_lt_of_le (by decide : 17 < 24) (Nat.le_of_eq (show 24 = Tryd.prog.globals.size by kernel_rfl)), hT0⟩) (by kernel_rfl)
  have hG : Tryd.prog.globals.size = 24 := by kernel_rfl
  rw [hG] at s2 s3
  have g3 : ds.length = 2 := (args_open rawJoins_sh hA (fun j t v h1 h2 => hval j t v (by rw [← Array.getElem?_toList]; exact h1) (by rw [← Array.getElem?_toList]; exact h2))).2.2.1
  match ds, g3 with
  | [d1, d2], _ =>
    refine (law_calls Tryd.func9 (body := bodyOf Tryd.f9) (by kernel_rfl) rawJoins_sh hA hval (lab := 100) (n := 110) (n' := 4000) (L' := Sx.look []) gtopP s1 s2 (fun e he => ?_) (fun cs hcs hIs => ?_)).mono fun e W' ⟨he, hB⟩ => ⟨_, he, law_post (bt := 4) (by kernel_rfl) rawJoins_readable rfl (by kernel_rfl) (by kernel_rfl) hW' rfl hB⟩
    · obtain ⟨a1, a2, a3⟩ := s3 e he
      exact ⟨a1, Nat.lt_of_lt_of_le a2 gtopP, fun l hl => Nat.lt_of_lt_of_le (a3 l hl) gtopP⟩
    · clear hcs
      refine RunsTo.start (cargs := [.v (.vs fun _ => (Sx.strOf (Go.Sx.rd0 cs [] 0))), .v (.vs fun _ => (Sx.strOf (Go.Sx.rd0 cs [] 1)))]) ?_ ⟨rfl, rfl, trivial⟩
      exact rawJoins_lawT _ _ _ _ _ _ _ _ _ _ _ _ _ _ _ _ _ _ (Sx.strOf (Go.Sx.rd0 cs [] 0)) (Sx.strOf (Go.Sx.rd0 cs [] 1))

theorem rawJoins_holds : Rows.RawJoinsSaid :=
  OpenClaim.holds_of_wide 9 Tryd.f9 rfl rfl rfl rfl rfl rfl rfl ⟨rfl, rfl, rfl, rfl, rfl⟩ rfl rfl rfl rfl rfl (by kernel_rfl) Tryd.func9 (by kernel_rfl)
    (of_decide_eq_true (by kernel_rfl)) (by unfold Func.isWrapper; first | (rw [if_pos (by decide +kernel)]; kernel_rfl) | (rw [if_neg (by decide +kernel)]; exact ⟨rfl, rfl⟩))
    (fun os started H enc _ => rawJoins_lifted os started H enc)

theorem rawJoins_card_holds : Rows.RawJoinsCardSaid :=
  Claim7.holds_tied_plain_at .later [] [.data, .data, .data, .data, .sentinel, .sentinel, .sentinel, .sentinel, .sentinel, .sentinel, .sentinel, .sentinel, .sentinel, .sentinel, .sentinel, .sentinel, .sentinel, .sentinel, .sentinel, .sentinel, .sentinel, .sentinel, .pinned] true (true, "871241c342c4b0cca9a2a826e3080e4457fc40cf57f47027a7914b297464df06") true
    rawJoins_holds (fun _ h => by cases h) (by kernel_rfl) (fun _ h => by cases h) rawJoins_row_tie rfl ⟨rfl, rfl⟩ (by kernel_rfl) rfl
    (fun f fn hf hfn => by
      obtain rfl : f = 9 := Option.some.inj ((show Tryd.prog.funcNamed "truchman/truchmanlaw36.RawJoins" = some 9 by kernel_rfl).symm.trans hf) |>.symm
      obtain rfl : fn = Tryd.f9 := (Option.some.inj (Tryd.func9.symm.trans hfn)).symm
      exact ⟨by kernel_rfl, fun j t ht => rawJoins_wants t (List.mem_of_getElem? (by rw [Array.getElem?_toList]; exact ht))⟩)
    (by kernel_rfl)
end Go.Proofs.YtankmgnjkcgpaaaDoor

