/- TraceOnly: lifted; the card. -/
import Derived.Test.YtaleenklamognaaDoorZfC
import Derived.Test.YtaleenklamognaaDoorSyY
import Derived.Test.YtaleenklamognaaDoorSyPl
import Derived.Test.YtaleenklamognaaDoorSyWt
import Derived.Lay
import Derived.Test.YtaleenklamognaaDoorTie
import Derived.Test.YtaleenklamognaaDoorCards
set_option maxRecDepth 100000
set_option linter.unusedSimpArgs false
set_option linter.unusedVariables false
namespace Go.Proofs.YtaleenklamognaaDoor
open Go.ChangeShapes Go.WideShapes Go.ChangeAt Go.RowKit
open Go.Sx

theorem traceOnly_sh : shsOf Tryd.prog Tryd.f7.params.toList = some [.sl (.tc (.ki .i64) (.tc (.ki .i64) (.tc (.ki .i64) (.tc .ks (.tc (.sl .ks) (.tc (.tc (.ki .i64) (.tc (.ki .i64) (.tc (.ki .i64) (.tc (.ki .i64) (.tc .kb .t0))))) (.tc (.ki .i64) (.tc (.ki .i64) (.tc (.ki .i64) .t0))))))))), .sl (.ki .i64)] := by kernel_rfl

theorem traceOnly_star : "*" ++ "errors.errorString" = "*errors.errorString" := by decide
theorem traceOnly_row (u : TypeId) (h : Tryd.prog.typeName? 3 u = some "*errors.errorString") : u = 213 :=
  typeName_ptr_named (nm := "errors.errorString") (by rw [traceOnly_star]; kernel_rfl) (by kernel_rfl) (by decide) u (by rw [traceOnly_star]; exact h)

theorem traceOnly_errTy : ErrTy Tryd.prog "*errors.errorString" 25 213 215 9 := errTy_of (by kernel_rfl) traceOnly_row (by kernel_rfl) (by kernel_rfl) (by kernel_rfl) (by kernel_rfl) (by kernel_rfl)

theorem traceOnly_own : ownKnob Tryd.prog.godebug = none := by kernel_rfl
theorem traceOnly_met (os : Os) (args : Array Value) : laidMetH Tryd.prog Rows.traceOnlyRow.laid ((World.laidAll Tryd.prog os Rows.traceOnlyRow.laid).forCall (fun _ _ => 0) ⟨#[], args, []⟩).memory := by
  rw [MakeChecks.laidMetH_plain _ _ _ (by kernel_rfl)]; exact laidMet_laidAll _ (by kernel_rfl) (by kernel_rfl)
theorem traceOnly_plain (w : World) : laidMetH Tryd.prog Rows.traceOnlyRow.laid w = laidMet Tryd.prog Rows.traceOnlyRow.laid w := MakeChecks.laidMetH_plain _ _ _ (by kernel_rfl)

def traceOnly_texts : List (Nat × List UInt8) := [(4, [97, 32, 110, 117, 109, 98, 101, 114, 32, 105, 115, 32, 111, 117, 116, 32, 111, 102, 32, 105, 116, 115, 32, 114, 97, 110, 103, 101]), (3, [116, 104, 101, 114, 101, 32, 105, 115, 32, 110, 111, 32, 109, 111, 114, 101, 32, 114, 111, 111, 109]), (5, [115, 111, 109, 101, 116, 104, 105, 110, 103, 32, 105, 115, 32, 109, 105, 115, 115, 105, 110, 103, 32, 97, 116, 32, 116, 104, 101, 32, 101, 110, 100]), (0, [116, 104, 101, 114, 101, 32, 105, 115, 32, 109, 111, 114, 101, 32, 116, 104, 97, 110, 32, 109, 97, 121, 32, 98, 101]), (6, [105, 116, 32, 105, 115, 32, 110, 111, 116, 32, 111, 102, 32, 105, 116, 115, 32, 102, 111, 114, 109]), (2, [116, 104, 101, 114, 101, 32, 105, 115, 32, 110, 111, 32, 115, 117, 99, 104, 32, 110, 97, 109, 101]), (7, [116, 104, 101, 114, 101, 32, 105, 115, 32, 110, 111, 110, 101]), (8, [105, 116, 32, 105, 115, 32, 116, 104, 101, 114, 101, 32, 97, 108, 114, 101, 97, 100, 121]), (9, [105, 116, 32, 105, 115, 32, 111, 102, 32, 97, 110, 111, 116, 104, 101, 114, 32, 107, 105, 110, 100]), (10, [105, 116, 32, 99, 97, 110, 32, 110, 111, 116, 32, 98, 101, 32, 100, 111, 110, 101, 32, 105, 110, 32, 116, 104, 105, 115, 32, 115, 116, 97, 116, 101]), (11, [105, 116, 32, 103, 111, 101, 115, 32, 116, 111, 111, 32, 100, 101, 101, 112]), (12, [116, 104, 101, 32, 102, 117, 101, 108, 32, 105, 115, 32, 115, 112, 101, 110, 116]), (13, [116, 104, 101, 114, 101, 32, 97, 114, 101, 32, 116, 111, 111, 32, 109, 97, 110, 121, 32, 99, 97, 108, 108, 115, 32, 119, 105, 116, 104, 105, 110, 32, 111, 110, 101, 32, 97, 110, 111, 116, 104, 101, 114]), (14, [105, 116, 32, 105, 115, 32, 99, 108, 111, 115, 101, 100]), (15, [105, 116, 32, 119, 111, 117, 108, 100, 32, 109, 97, 116, 99, 104, 32, 110, 111, 116, 104, 105, 110, 103, 32, 97, 116, 32, 97, 108, 108]), (1, [116, 104, 101, 32, 116, 101, 120, 116, 32, 105, 115, 32, 110, 111, 32, 110, 117, 109, 98, 101, 114])]
theorem traceOnly_sent : sentOf Tryd.prog "*errors.errorString" Rows.traceOnlyRow.laid = some traceOnly_texts := by kernel_rfl

theorem traceOnly_readable : ∀ t ∈ Tryd.f7.params.toList, Tryd.prog.readableRec t = true ∧ t < Tryd.prog.types.size := by
  have h : (Tryd.f7.params.toList.all fun t => Tryd.prog.readableRec t && decide (t < Tryd.prog.types.size)) = true := by kernel_rfl
  intro t ht
  have := List.all_eq_true.1 h t ht
  simpa using this

theorem traceOnly_wants : ∀ t ∈ Tryd.f7.params.toList, Tryd.prog.wantsStandIn t = false := by
  have h : (Tryd.f7.params.toList.all fun t => !Tryd.prog.wantsStandIn t) = true := by kernel_rfl
  intro t ht
  have := List.all_eq_true.1 h t ht
  simpa using this

theorem traceOnly_lifted (os : Os) (started : os.Started) (H : Type) (enc : TypeId × Value → H) :
    ReturnsInHanded {} Tryd.checked os 7 .any (fun w args => (Rows.traceOnlySpec.pre enc Tryd.prog Tryd.f7 [] false w args ∧ laidMetH Tryd.prog Rows.traceOnlyRow.laid w) ∧ sizedMet enc Tryd.prog Tryd.f7 (OpenSpec.ofChange Rows.traceOnlySpec) false w args)
      (Rows.traceOnlySpec.post enc Tryd.prog Tryd.f7 false true false false) := by
  refine returnsInHanded_of_change_and (C := Tryd.checked) (X := fun w _ => laidMetH Tryd.prog Rows.traceOnlyRow.laid w) (fun _ _ _ hh h => h.of_heap hh) traceOnly_own started (by kernel_rfl) Tryd.func7
    (ChangeSpec.witness_shaped (enc := enc) (C := Tryd.checked) (os := os) (X := fun w _ => laidMetH Tryd.prog Rows.traceOnlyRow.laid w) false (World.laidAll Tryd.prog os Rows.traceOnlyRow.laid) #[.slice none 0 0, .slice none 0 0] 8 (World.laidAll_os _ _ _) (World.shaped_of_ZipB (by kernel_rfl) (by kernel_rfl)) (by kernel_rfl) (by kernel_rfl) (by kernel_rfl) (traceOnly_met os _)) ?_
  intro W base args ds gs before hval hW _ _ hL _
  have hW' := hW
  obtain ⟨p, q, hA, hV, rfl, hfz, hnd⟩ := hW
  obtain ⟨rfl, rfl⟩ := trodVars_none hV
  rw [traceOnly_plain] at hL
  obtain ⟨s1, s2, s3⟩ := sents_open traceOnly_errTy hL traceOnly_sent (by kernel_rfl)
  have hT0 : TabAt W 19 powT.length (intTr .u64 powT) := int_tab (nm := "internal/strconv.uint64pow10") (t := 224) (e := 193) hL (List.mem_of_getElem? (show Rows.traceOnlyRow.laid[2]? = some ("internal/strconv.uint64pow10", DataW.agg (powT.map fun s => .lit (.int .u64 s))) by kernel_rfl)) (by kernel_rfl) (by kernel_rfl) (by kernel_rfl) (by kernel_rfl) (by kernel_rfl)
  have hT1 : TabAt W 16 wordsT.length (strTr wordsT) := str_tab (nm := "truchman/codes.words") (t := 192) (e := 9) hL (List.mem_of_getElem? (show Rows.traceOnlyRow.laid[19]? = some ("truchman/codes.words", DataW.agg (wordsT.map fun s => .lit (.string s))) by kernel_rfl)) (by kernel_rfl) (by kernel_rfl) (by kernel_rfl) (by kernel_rfl) (by kernel_rfl)
  have hlt : (traceOnly_texts.all fun x => Nat.blt x.1 Tryd.prog.globals.size) = true := by kernel_rfl
  obtain ⟨s1, s2, s3⟩ := tabs_open (tb := [(19, powT.length, intTr .u64 powT), (16, wordsT.length, strTr wordsT)]) s1 s2 s3 (fun x hx => by have := List.all_eq_true.1 hlt x hx; simpa [Nat.blt_eq] using this) (fun x hx => by
    simp only [List.mem_cons, List.mem_nil_iff, or_false] at hx
    rcases hx with rfl | rfl
    · exact ⟨Nat.lt_of_lt_of_le (by decide : 19 < 23) (Nat.le_of_eq (show 23 = Tryd.prog.globals.size by kernel_rfl)), hT0⟩
    · exact ⟨Nat.lt_of_lt_of_le (by decide : 16 < 23) (Nat.le_of_eq (show 23 = Tryd.prog.globals.size by kernel_rfl)), hT1⟩) (by kernel_rfl)
  have hG : Tryd.prog.globals.size = 23 := by kernel_rfl
  rw [hG] at s2 s3
  have g3 : ds.length = 2 := (args_open traceOnly_sh hA (fun j t v h1 h2 => hval j t v (by rw [← Array.getElem?_toList]; exact h1) (by rw [← Array.getElem?_toList]; exact h2))).2.2.1
  match ds, g3 with
  | [d1, d2], _ =>
    refine (law_calls Tryd.func7 (body := bodyOf Tryd.f7) (by kernel_rfl) traceOnly_sh hA hval (lab := 100) (n := 110) (n' := 12000) (L' := Sx.look []) gtopP s1 s2 (fun e he => ?_) (fun cs hcs hIs => ?_)).mono fun e W' ⟨he, hB⟩ => ⟨_, he, law_post (bt := 4) (by kernel_rfl) traceOnly_readable rfl (by kernel_rfl) (by kernel_rfl) hW' rfl hB⟩
    · obtain ⟨a1, a2, a3⟩ := s3 e he
      exact ⟨a1, Nat.lt_of_lt_of_le a2 gtopP, fun l hl => Nat.lt_of_lt_of_le (a3 l hl) gtopP⟩
    · clear hcs
      have hB : ∀ i, i < lenOf (Go.Sx.rd0 cs [] 0) → inR (Sx.intOf (rdOf W 13 (Go.Sx.rd0 cs) 0 [i] 1)) = true ∧ inR (Sx.intOf (rdOf W 13 (Go.Sx.rd0 cs) 0 [i] 2)) = true ∧ inR (Sx.intOf (rdOf W 13 (Go.Sx.rd0 cs) 0 [i] 10)) = true ∧ inR (Sx.intOf (rdOf W 13 (Go.Sx.rd0 cs) 0 [i] 11)) = true ∧ inR (Sx.intOf (rdOf W 13 (Go.Sx.rd0 cs) 0 [i] 6)) = true ∧ inR (Sx.intOf (rdOf W 13 (Go.Sx.rd0 cs) 0 [i] 7)) = true ∧ inR (Sx.intOf (rdOf W 13 (Go.Sx.rd0 cs) 0 [i] 8)) = true := by
        obtain ⟨a1, r1, e1, l1, he, hrest⟩ := hIs
        have he2 := he
        obtain ⟨v, e4, _⟩ := he2
        rw [e4] at he
        have e5 : Go.Sx.rd0 cs [] 0 = v := by
          show cs.getD 0 undef = v
          rw [e1, e4]
          rfl
        intro i hi
        rw [e5] at hi
        exact row_ints he e5 i hi
      refine RunsTo.start (cargs := [.v (.vl 100 (fun _ => 0) 13 [] (fun _ => lenOf (Go.Sx.rd0 cs [] 0))), .v (.vl 102 (fun _ => 0) 1 [] (fun _ => lenOf (Go.Sx.rd0 cs [] 1)))]) ?_ ⟨⟨rfl, rfl⟩, ⟨rfl, rfl⟩, trivial⟩
      exact traceOnly_lawT _ _ _ _ _ _ _ _ _ _ _ _ _ _ _ _ ⟨fun is => Sx.intOf (rdOf W 13 (Go.Sx.rd0 cs) 0 is 0), fun is => Sx.intOf (rdOf W 13 (Go.Sx.rd0 cs) 0 is 1), fun is => Sx.intOf (rdOf W 13 (Go.Sx.rd0 cs) 0 is 2), fun is => Sx.strOf (rdOf W 13 (Go.Sx.rd0 cs) 0 is 3), fun _ => 0, fun is => lenOf (rdOf W 13 (Go.Sx.rd0 cs) 0 is 4), fun is => Sx.intOf (rdOf W 13 (Go.Sx.rd0 cs) 0 is 5), fun is => Sx.intOf (rdOf W 13 (Go.Sx.rd0 cs) 0 is 6), fun is => Sx.intOf (rdOf W 13 (Go.Sx.rd0 cs) 0 is 7), fun is => Sx.intOf (rdOf W 13 (Go.Sx.rd0 cs) 0 is 8), fun is => Sx.boolOf (rdOf W 13 (Go.Sx.rd0 cs) 0 is 9), fun is => Sx.intOf (rdOf W 13 (Go.Sx.rd0 cs) 0 is 10), fun is => Sx.intOf (rdOf W 13 (Go.Sx.rd0 cs) 0 is 11), fun _ => 0, fun is => Sx.intOf (rdOf W 13 (Go.Sx.rd0 cs) 0 is 12)⟩ (lenOf (Go.Sx.rd0 cs [] 0)) (lenOf (Go.Sx.rd0 cs [] 1)) (fun is => Sx.strOf (rdOf W 1 (rdOf W 13 (Go.Sx.rd0 cs) 0) 4 is 0)) (fun is => Sx.intOf (rdOf W 1 (Go.Sx.rd0 cs) 1 is 0)) hB

theorem traceOnly_holds : Rows.TraceOnlySaid :=
  OpenClaim.holds_of_wide 7 Tryd.f7 rfl rfl rfl rfl rfl rfl rfl ⟨rfl, rfl, rfl, rfl, rfl⟩ rfl rfl rfl rfl rfl (by kernel_rfl) Tryd.func7 (by kernel_rfl)
    (of_decide_eq_true (by kernel_rfl)) (by unfold Func.isWrapper; first | (rw [if_pos (by decide +kernel)]; kernel_rfl) | (rw [if_neg (by decide +kernel)]; exact ⟨rfl, rfl⟩))
    (fun os started H enc _ => traceOnly_lifted os started H enc)

theorem traceOnly_card_holds : Rows.TraceOnlyCardSaid :=
  Claim7.holds_tied_plain_at .later [] [.data, .data, .data, .sentinel, .sentinel, .sentinel, .sentinel, .sentinel, .sentinel, .sentinel, .sentinel, .sentinel, .sentinel, .sentinel, .sentinel, .sentinel, .sentinel, .sentinel, .sentinel, .widerDeep] true (true, "adce2fd5dd0887f6362622a91578a8c9f336eace8c67ecf4b186e5f5f59c33e1") true
    traceOnly_holds (fun _ h => by cases h) (by kernel_rfl) (fun _ h => by cases h) traceOnly_row_tie rfl ⟨rfl, rfl⟩ (by kernel_rfl) rfl
    (fun f fn hf hfn => by
      obtain rfl : f = 7 := Option.some.inj ((show Tryd.prog.funcNamed "truchman/truchmanlaw38.TraceOnly" = some 7 by kernel_rfl).symm.trans hf) |>.symm
      obtain rfl : fn = Tryd.f7 := (Option.some.inj (Tryd.func7.symm.trans hfn)).symm
      exact ⟨by kernel_rfl, fun j t ht => traceOnly_wants t (List.mem_of_getElem? (by rw [Array.getElem?_toList]; exact ht))⟩)
    (by kernel_rfl)
end Go.Proofs.YtaleenklamognaaDoor

