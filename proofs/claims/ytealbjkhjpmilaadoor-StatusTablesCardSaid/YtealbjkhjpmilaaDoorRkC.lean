/- StatusTables: lifted; the card. -/
import Derived.Test.YtealbjkhjpmilaaDoorRiC
import Derived.Test.YtealbjkhjpmilaaDoorSyY
import Derived.Test.YtealbjkhjpmilaaDoorSyPl
import Derived.Test.YtealbjkhjpmilaaDoorSyWt
import Derived.Lay
import Derived.Test.YtealbjkhjpmilaaDoorTie
import Derived.Test.YtealbjkhjpmilaaDoorCards
set_option maxRecDepth 100000
set_option linter.unusedSimpArgs false
set_option linter.unusedVariables false
namespace Go.Proofs.YtealbjkhjpmilaaDoor
open Go.ChangeShapes Go.WideShapes Go.ChangeAt Go.RowKit
open Go.Sx

theorem statusTables_sh : shsOf Tryd.prog Tryd.f11.params.toList = some [.tc (.sl (.ki .i64)) (.tc (.sl (.ki .i64)) .t0), .sl (.tc (.ki .i64) (.tc (.ki .i64) (.tc (.ki .i64) .t0)))] := by kernel_rfl

theorem statusTables_star : "*" ++ "errors.errorString" = "*errors.errorString" := by decide
theorem statusTables_row (u : TypeId) (h : Tryd.prog.typeName? 3 u = some "*errors.errorString") : u = 223 :=
  typeName_ptr_named (nm := "errors.errorString") (by rw [statusTables_star]; kernel_rfl) (by kernel_rfl) (by decide) u (by rw [statusTables_star]; exact h)

theorem statusTables_errTy : ErrTy Tryd.prog "*errors.errorString" 31 223 225 9 := errTy_of (by kernel_rfl) statusTables_row (by kernel_rfl) (by kernel_rfl) (by kernel_rfl) (by kernel_rfl) (by kernel_rfl)

theorem statusTables_own : ownKnob Tryd.prog.godebug = none := by kernel_rfl
theorem statusTables_met (os : Os) (args : Array Value) : laidMetH Tryd.prog Rows.statusTablesRow.laid ((World.laidAll Tryd.prog os Rows.statusTablesRow.laid).forCall (fun _ _ => 0) ⟨#[], args, []⟩).memory := by
  rw [MakeChecks.laidMetH_plain _ _ _ (by kernel_rfl)]; exact laidMet_laidAll _ (by kernel_rfl) (by kernel_rfl)
theorem statusTables_plain (w : World) : laidMetH Tryd.prog Rows.statusTablesRow.laid w = laidMet Tryd.prog Rows.statusTablesRow.laid w := MakeChecks.laidMetH_plain _ _ _ (by kernel_rfl)

def statusTables_texts : List (Nat × List UInt8) := [(7, [97, 32, 110, 117, 109, 98, 101, 114, 32, 105, 115, 32, 111, 117, 116, 32, 111, 102, 32, 105, 116, 115, 32, 114, 97, 110, 103, 101]), (8, [116, 104, 101, 114, 101, 32, 105, 115, 32, 110, 111, 32, 109, 111, 114, 101, 32, 114, 111, 111, 109]), (3, [115, 111, 109, 101, 116, 104, 105, 110, 103, 32, 105, 115, 32, 109, 105, 115, 115, 105, 110, 103, 32, 97, 116, 32, 116, 104, 101, 32, 101, 110, 100]), (4, [116, 104, 101, 114, 101, 32, 105, 115, 32, 109, 111, 114, 101, 32, 116, 104, 97, 110, 32, 109, 97, 121, 32, 98, 101]), (0, [105, 116, 32, 105, 115, 32, 110, 111, 116, 32, 111, 102, 32, 105, 116, 115, 32, 102, 111, 114, 109]), (9, [116, 104, 101, 114, 101, 32, 105, 115, 32, 110, 111, 32, 115, 117, 99, 104, 32, 110, 97, 109, 101]), (10, [116, 104, 101, 114, 101, 32, 105, 115, 32, 110, 111, 110, 101]), (2, [105, 116, 32, 105, 115, 32, 116, 104, 101, 114, 101, 32, 97, 108, 114, 101, 97, 100, 121]), (5, [105, 116, 32, 105, 115, 32, 111, 102, 32, 97, 110, 111, 116, 104, 101, 114, 32, 107, 105, 110, 100]), (1, [105, 116, 32, 99, 97, 110, 32, 110, 111, 116, 32, 98, 101, 32, 100, 111, 110, 101, 32, 105, 110, 32, 116, 104, 105, 115, 32, 115, 116, 97, 116, 101]), (11, [105, 116, 32, 103, 111, 101, 115, 32, 116, 111, 111, 32, 100, 101, 101, 112]), (12, [116, 104, 101, 32, 102, 117, 101, 108, 32, 105, 115, 32, 115, 112, 101, 110, 116]), (13, [116, 104, 101, 114, 101, 32, 97, 114, 101, 32, 116, 111, 111, 32, 109, 97, 110, 121, 32, 99, 97, 108, 108, 115, 32, 119, 105, 116, 104, 105, 110, 32, 111, 110, 101, 32, 97, 110, 111, 116, 104, 101, 114]), (14, [105, 116, 32, 105, 115, 32, 99, 108, 111, 115, 101, 100]), (15, [105, 116, 32, 119, 111, 117, 108, 100, 32, 109, 97, 116, 99, 104, 32, 110, 111, 116, 104, 105, 110, 103, 32, 97, 116, 32, 97, 108, 108]), (16, [116, 104, 101, 32, 116, 101, 120, 116, 32, 105, 115, 32, 110, 111, 32, 110, 117, 109, 98, 101, 114])]
theorem statusTables_sent : sentOf Tryd.prog "*errors.errorString" Rows.statusTablesRow.laid = some statusTables_texts := by kernel_rfl

theorem statusTables_readable : ∀ t ∈ Tryd.f11.params.toList, Tryd.prog.readableRec t = true ∧ t < Tryd.prog.types.size := by
  have h : (Tryd.f11.params.toList.all fun t => Tryd.prog.readableRec t && decide (t < Tryd.prog.types.size)) = true := by kernel_rfl
  intro t ht
  have := List.all_eq_true.1 h t ht
  simpa using this

theorem statusTables_wants : ∀ t ∈ Tryd.f11.params.toList, Tryd.prog.wantsStandIn t = false := by
  have h : (Tryd.f11.params.toList.all fun t => !Tryd.prog.wantsStandIn t) = true := by kernel_rfl
  intro t ht
  have := List.all_eq_true.1 h t ht
  simpa using this

theorem statusTables_lifted (os : Os) (started : os.Started) (H : Type) (enc : TypeId × Value → H) :
    ReturnsInHanded {} Tryd.checked os 11 .any (fun w args => (Rows.statusTablesSpec.pre enc Tryd.prog Tryd.f11 [] false w args ∧ laidMetH Tryd.prog Rows.statusTablesRow.laid w) ∧ sizedMet enc Tryd.prog Tryd.f11 (OpenSpec.ofChange Rows.statusTablesSpec) false w args)
      (Rows.statusTablesSpec.post enc Tryd.prog Tryd.f11 false true false false) := by
  refine returnsInHanded_of_change_and (C := Tryd.checked) (X := fun w _ => laidMetH Tryd.prog Rows.statusTablesRow.laid w) (fun _ _ _ hh h => h.of_heap hh) statusTables_own started (by kernel_rfl) Tryd.func11
    (ChangeSpec.witness_shaped (enc := enc) (C := Tryd.checked) (os := os) (X := fun w _ => laidMetH Tryd.prog Rows.statusTablesRow.laid w) false (World.laidAll Tryd.prog os Rows.statusTablesRow.laid) #[.agg #[.slice none 0 0, .slice none 0 0], .slice none 0 0] 8 (World.laidAll_os _ _ _) (World.shaped_of_ZipB (by kernel_rfl) (by kernel_rfl)) (by kernel_rfl) (by kernel_rfl) (by kernel_rfl) (statusTables_met os _)) ?_
  intro W base args ds gs before hval hW _ _ hL _
  have hW' := hW
  obtain ⟨p, q, hA, hV, rfl, hfz, hnd⟩ := hW
  obtain ⟨rfl, rfl⟩ := trodVars_none hV
  rw [statusTables_plain] at hL
  obtain ⟨s1, s2, s3⟩ := sents_open statusTables_errTy hL statusTables_sent (by kernel_rfl)
  have hT0 : TabAt W 6 wordsT.length (strTr wordsT) := str_tab (nm := "truchman/codes.words") (t := 128) (e := 9) hL (List.mem_of_getElem? (show Rows.statusTablesRow.laid[19]? = some ("truchman/codes.words", DataW.agg (wordsT.map fun s => .lit (.string s))) by kernel_rfl)) (by kernel_rfl) (by kernel_rfl) (by kernel_rfl) (by kernel_rfl) (by kernel_rfl)
  have hlt : (statusTables_texts.all fun x => Nat.blt x.1 Tryd.prog.globals.size) = true := by kernel_rfl
  obtain ⟨s1, s2, s3⟩ := tabs_open (tb := [(6, wordsT.length, strTr wordsT)]) s1 s2 s3 (fun x hx => by have := List.all_eq_true.1 hlt x hx; simpa [Nat.blt_eq] using this) (fun x hx => by
    simp only [List.mem_cons, List.mem_nil_iff, or_false] at hx
    rcases hx with rfl
    · exact ⟨Nat.lt_of_lt_of_le (by decide : 6 < 25) (Nat.le_of_eq (show 25 = Tryd.prog.globals.size by kernel_rfl)), hT0⟩) (by kernel_rfl)
  have hG : Tryd.prog.globals.size = 25 := by kernel_rfl
  rw [hG] at s2 s3
  have g3 : ds.length = 2 := (args_open statusTables_sh hA (fun j t v h1 h2 => hval j t v (by rw [← Array.getElem?_toList]; exact h1) (by rw [← Array.getElem?_toList]; exact h2))).2.2.1
  match ds, g3 with
  | [d1, d2], _ =>
    refine (law_calls Tryd.func11 (body := bodyOf Tryd.f11) (by kernel_rfl) statusTables_sh hA hval (lab := 100) (n := 110) (n' := 12000) (L' := Sx.look []) gtopP s1 s2 (fun e he => ?_) (fun cs hcs hIs => ?_)).mono fun e W' ⟨he, hB⟩ => ⟨_, he, law_post (bt := 4) (by kernel_rfl) statusTables_readable rfl (by kernel_rfl) (by kernel_rfl) hW' rfl hB⟩
    · obtain ⟨a1, a2, a3⟩ := s3 e he
      exact ⟨a1, Nat.lt_of_lt_of_le a2 gtopP, fun l hl => Nat.lt_of_lt_of_le (a3 l hl) gtopP⟩
    · clear hcs
      refine RunsTo.start (cargs := [.agg (.tc (.vl 100 (fun _ => 0) 1 [] (fun _ => lenOf (rd0 cs [] 0))) (.tc (.vl 101 (fun _ => 0) 1 [] (fun _ => lenOf (rd0 cs [] 1))) .t0)), .v (.vl 102 (fun _ => 0) 3 [] (fun _ => lenOf (rd0 cs [] 2)))]) ?_ ⟨⟨⟨rfl, rfl⟩, ⟨rfl, rfl⟩⟩, ⟨rfl, rfl⟩, trivial⟩
      exact stables_law _ _ _ _ _ _ _ _ _ _ _ _ _ _ _ _ (lenOf (rd0 cs [] 0)) (lenOf (rd0 cs [] 1)) (lenOf (rd0 cs [] 2)) (fun is => Sx.intOf (rdOf W 1 (rd0 cs) 0 is 0)) (fun is => Sx.intOf (rdOf W 1 (rd0 cs) 1 is 0)) (fun is => Sx.intOf (rdOf W 3 (rd0 cs) 2 is 0)) (fun is => Sx.intOf (rdOf W 3 (rd0 cs) 2 is 1)) (fun is => Sx.intOf (rdOf W 3 (rd0 cs) 2 is 2))

theorem statusTables_holds : Rows.StatusTablesSaid :=
  OpenClaim.holds_of_wide 11 Tryd.f11 rfl rfl rfl rfl rfl rfl rfl ⟨rfl, rfl, rfl, rfl, rfl⟩ rfl rfl rfl rfl rfl (by kernel_rfl) Tryd.func11 (by kernel_rfl)
    (of_decide_eq_true (by kernel_rfl)) (by unfold Func.isWrapper; first | (rw [if_pos (by decide +kernel)]; kernel_rfl) | (rw [if_neg (by decide +kernel)]; exact ⟨rfl, rfl⟩))
    (fun os started H enc _ => statusTables_lifted os started H enc)

theorem statusTables_card_holds : Rows.StatusTablesCardSaid :=
  Claim7.holds_tied_plain_at .later [] [.data, .data, .data, .sentinel, .sentinel, .sentinel, .sentinel, .sentinel, .sentinel, .sentinel, .sentinel, .sentinel, .sentinel, .sentinel, .sentinel, .sentinel, .sentinel, .sentinel, .sentinel, .widerDeep] true (true, "65ce830c75c2fc44eeffd9e313a88e3c3ce420dda8c0e4b9eff87a7b2b38df46") true
    statusTables_holds (fun _ h => by cases h) (by kernel_rfl) (fun _ h => by cases h) statusTables_row_tie rfl ⟨rfl, rfl⟩ (by kernel_rfl) rfl
    (fun f fn hf hfn => by
      obtain rfl : f = 11 := Option.some.inj ((show Tryd.prog.funcNamed "truchman/truchmanlaw17.StatusTables" = some 11 by kernel_rfl).symm.trans hf) |>.symm
      obtain rfl : fn = Tryd.f11 := (Option.some.inj (Tryd.func11.symm.trans hfn)).symm
      exact ⟨by kernel_rfl, fun j t ht => statusTables_wants t (List.mem_of_getElem? (by rw [Array.getElem?_toList]; exact ht))⟩)
    (by kernel_rfl)
end Go.Proofs.YtealbjkhjpmilaaDoor

