/- RawBack: lifted; the card. -/
import Derived.Test.YtankmgnjkcgpaaaDoorQgC
import Derived.Test.YtankmgnjkcgpaaaDoorSyY
import Derived.Test.YtankmgnjkcgpaaaDoorSyPl
import Derived.Test.YtankmgnjkcgpaaaDoorSyWt
import Derived.Lay
import Derived.Test.YtankmgnjkcgpaaaDoorTie
import Derived.Test.YtankmgnjkcgpaaaDoorCards
set_option maxRecDepth 100000
set_option linter.unusedSimpArgs false
set_option linter.unusedVariables false
namespace Go.Proofs.YtankmgnjkcgpaaaDoor
open Go.ChangeShapes Go.WideShapes Go.ChangeAt Go.RowKit
open Go.Sx

theorem rawBack_sh : shsOf Tryd.prog Tryd.f6.params.toList = some [.tc (.ki .i64) (.tc (.ki .i64) (.tc (.sl (.ki .u8)) (.tc (.sl (.ki .i64)) .t0))), .ks] := by kernel_rfl

theorem rawBack_star : "*" ++ "errors.errorString" = "*errors.errorString" := by decide
theorem rawBack_row (u : TypeId) (h : Tryd.prog.typeName? 3 u = some "*errors.errorString") : u = 194 :=
  typeName_ptr_named (nm := "errors.errorString") (by rw [rawBack_star]; kernel_rfl) (by kernel_rfl) (by decide) u (by rw [rawBack_star]; exact h)

theorem rawBack_errTy : ErrTy Tryd.prog "*errors.errorString" 26 194 196 9 := errTy_of (by kernel_rfl) rawBack_row (by kernel_rfl) (by kernel_rfl) (by kernel_rfl) (by kernel_rfl) (by kernel_rfl)

theorem rawBack_own : ownKnob Tryd.prog.godebug = none := by kernel_rfl
theorem rawBack_met (os : Os) (args : Array Value) : laidMetH Tryd.prog Rows.rawBackRow.laid ((World.laidAll Tryd.prog os Rows.rawBackRow.laid).forCall (fun _ _ => 0) ⟨#[], args, []⟩).memory := by
  rw [MakeChecks.laidMetH_plain _ _ _ (by kernel_rfl)]; exact laidMet_laidAll _ (by kernel_rfl) (by kernel_rfl)
theorem rawBack_plain (w : World) : laidMetH Tryd.prog Rows.rawBackRow.laid w = laidMet Tryd.prog Rows.rawBackRow.laid w := MakeChecks.laidMetH_plain _ _ _ (by kernel_rfl)

def rawBack_texts : List (Nat × List UInt8) := [(21, [118, 97, 108, 117, 101, 32, 111, 117, 116, 32, 111, 102, 32, 114, 97, 110, 103, 101]), (20, [105, 110, 118, 97, 108, 105, 100, 32, 115, 121, 110, 116, 97, 120]), (1, [105, 116, 32, 105, 115, 32, 110, 111, 116, 32, 111, 102, 32, 105, 116, 115, 32, 102, 111, 114, 109])]
theorem rawBack_sent : sentOf Tryd.prog "*errors.errorString" Rows.rawBackRow.laid = some rawBack_texts := by kernel_rfl

theorem rawBack_readable : ∀ t ∈ Tryd.f6.params.toList, Tryd.prog.readableRec t = true ∧ t < Tryd.prog.types.size := by
  have h : (Tryd.f6.params.toList.all fun t => Tryd.prog.readableRec t && decide (t < Tryd.prog.types.size)) = true := by kernel_rfl
  intro t ht
  have := List.all_eq_true.1 h t ht
  simpa using this

theorem rawBack_wants : ∀ t ∈ Tryd.f6.params.toList, Tryd.prog.wantsStandIn t = false := by
  have h : (Tryd.f6.params.toList.all fun t => !Tryd.prog.wantsStandIn t) = true := by kernel_rfl
  intro t ht
  have := List.all_eq_true.1 h t ht
  simpa using this

theorem rawBack_lifted (os : Os) (started : os.Started) (H : Type) (enc : TypeId × Value → H) :
    ReturnsInHanded {} Tryd.checked os 6 .any (fun w args => (Rows.rawBackSpec.pre enc Tryd.prog Tryd.f6 [] false w args ∧ laidMetH Tryd.prog Rows.rawBackRow.laid w) ∧ sizedMet enc Tryd.prog Tryd.f6 (OpenSpec.ofChange Rows.rawBackSpec) false w args)
      (Rows.rawBackSpec.post enc Tryd.prog Tryd.f6 false true false false) := by
  refine returnsInHanded_of_change_and (C := Tryd.checked) (X := fun w _ => laidMetH Tryd.prog Rows.rawBackRow.laid w) (fun _ _ _ hh h => h.of_heap hh) rawBack_own started (by kernel_rfl) Tryd.func6
    (ChangeSpec.witness_shaped (enc := enc) (C := Tryd.checked) (os := os) (X := fun w _ => laidMetH Tryd.prog Rows.rawBackRow.laid w) false (World.laidAll Tryd.prog os Rows.rawBackRow.laid) #[.agg #[.int .i64 0, .int .i64 0, .slice none 0 0, .slice none 0 0], .string ⟨#[]⟩] 8 (World.laidAll_os _ _ _) (World.shaped_of_ZipB (by kernel_rfl) (by kernel_rfl)) (by kernel_rfl) (by kernel_rfl) (by kernel_rfl) (rawBack_met os _)) ?_
  intro W base args ds gs before hval hW _ _ hL _
  have hW' := hW
  obtain ⟨p, q, hA, hV, rfl, hfz, hnd⟩ := hW
  obtain ⟨rfl, rfl⟩ := trodVars_none hV
  rw [rawBack_plain] at hL
  obtain ⟨s1, s2, s3⟩ := sents_open rawBack_errTy hL rawBack_sent (by kernel_rfl)
  have hT0 : TabAt W 17 powT.length (intTr .u64 powT) := int_tab (nm := "internal/strconv.uint64pow10") (t := 173) (e := 155) hL (List.mem_of_getElem? (show Rows.rawBackRow.laid[2]? = some ("internal/strconv.uint64pow10", DataW.agg (powT.map fun s => .lit (.int .u64 s))) by kernel_rfl)) (by kernel_rfl) (by kernel_rfl) (by kernel_rfl) (by kernel_rfl) (by kernel_rfl)
  have hlt : (rawBack_texts.all fun x => Nat.blt x.1 Tryd.prog.globals.size) = true := by kernel_rfl
  obtain ⟨s1, s2, s3⟩ := tabs_open (tb := [(17, powT.length, intTr .u64 powT)]) s1 s2 s3 (fun x hx => by have := List.all_eq_true.1 hlt x hx; simpa [Nat.blt_eq] using this) (fun x hx => by
    simp only [List.mem_cons, List.mem_nil_iff, or_false] at hx
    rcases hx with rfl
    · exact ⟨Nat.lt_of_lt_of_le (by decide : 17 < 24) (Nat.le_of_eq (show 24 = Tryd.prog.globals.size by kernel_rfl)), hT0⟩) (by kernel_rfl)
  have hG : Tryd.prog.globals.size = 24 := by kernel_rfl
  rw [hG] at s2 s3
  have g3 : ds.length = 2 := (args_open rawBack_sh hA (fun j t v h1 h2 => hval j t v (by rw [← Array.getElem?_toList]; exact h1) (by rw [← Array.getElem?_toList]; exact h2))).2.2.1
  match ds, g3 with
  | [d1, d2], _ =>
    refine (law_calls Tryd.func6 (body := bodyOf Tryd.f6) (by kernel_rfl) rawBack_sh hA hval (lab := 100) (n := 110) (n' := 6000) (L' := Sx.look []) gtopP s1 s2 (fun e he => ?_) (fun cs hcs hIs => ?_)).mono fun e W' ⟨he, hB⟩ => ⟨_, he, law_post (bt := 4) (by kernel_rfl) rawBack_readable rfl (by kernel_rfl) (by kernel_rfl) hW' rfl hB⟩
    · obtain ⟨a1, a2, a3⟩ := s3 e he
      exact ⟨a1, Nat.lt_of_lt_of_le a2 gtopP, fun l hl => Nat.lt_of_lt_of_le (a3 l hl) gtopP⟩
    · clear hcs
      have hev := hIs
      obtain ⟨a1, r1, e1, l1, he, hrest⟩ := hev
      have hev := ev_arg (p := []) (r := r1) he 0 rfl
      rw [List.nil_append, ← e1] at hev
      obtain ⟨⟨hn0, hn1⟩, hB, hF⟩ := hev
      refine RunsTo.start (cargs := [.agg (.tc (.vi .i64 fun _ => (Sx.intOf (Go.Sx.rd0 cs [] 0))) (.tc (.vi .i64 fun _ => (Sx.intOf (Go.Sx.rd0 cs [] 1))) (.tc (.vl 100 (fun _ => 0) 1 [] (fun _ => lenOf (Go.Sx.rd0 cs [] 2))) (.tc (.vl 101 (fun _ => 0) 1 [] (fun _ => lenOf (Go.Sx.rd0 cs [] 3))) .t0)))), .v (.vs fun _ => (Sx.strOf (Go.Sx.rd0 cs [] 4)))]) ?_ ⟨⟨rfl, rfl, ⟨rfl, rfl⟩, ⟨rfl, rfl⟩⟩, rfl, trivial⟩
      exact rawBack_lawT _ _ _ (Sx.intOf (Go.Sx.rd0 cs [] 0)) (Sx.intOf (Go.Sx.rd0 cs [] 1)) (lenOf (Go.Sx.rd0 cs [] 2)) (lenOf (Go.Sx.rd0 cs [] 3)) (fun is => Sx.intOf (rdOf W 1 (Go.Sx.rd0 cs) 2 is 0)) (fun is => Sx.intOf (rdOf W 1 (Go.Sx.rd0 cs) 3 is 0)) (Sx.strOf (Go.Sx.rd0 cs [] 4)) hB hF hn1

theorem rawBack_holds : Rows.RawBackSaid :=
  OpenClaim.holds_of_wide 6 Tryd.f6 rfl rfl rfl rfl rfl rfl rfl ⟨rfl, rfl, rfl, rfl, rfl⟩ rfl rfl rfl rfl rfl (by kernel_rfl) Tryd.func6 (by kernel_rfl)
    (of_decide_eq_true (by kernel_rfl)) (by unfold Func.isWrapper; first | (rw [if_pos (by decide +kernel)]; kernel_rfl) | (rw [if_neg (by decide +kernel)]; exact ⟨rfl, rfl⟩))
    (fun os started H enc _ => rawBack_lifted os started H enc)

theorem rawBack_card_holds : Rows.RawBackCardSaid :=
  Claim7.holds_tied_plain_at .later [] [.data, .data, .data, .data, .sentinel, .sentinel, .sentinel, .pinned] true (true, "871241c342c4b0cca9a2a826e3080e4457fc40cf57f47027a7914b297464df06") true
    rawBack_holds (fun _ h => by cases h) (by kernel_rfl) (fun _ h => by cases h) rawBack_row_tie rfl ⟨rfl, rfl⟩ (by kernel_rfl) rfl
    (fun f fn hf hfn => by
      obtain rfl : f = 6 := Option.some.inj ((show Tryd.prog.funcNamed "truchman/truchmanlaw36.RawBack" = some 6 by kernel_rfl).symm.trans hf) |>.symm
      obtain rfl : fn = Tryd.f6 := (Option.some.inj (Tryd.func6.symm.trans hfn)).symm
      exact ⟨by kernel_rfl, fun j t ht => rawBack_wants t (List.mem_of_getElem? (by rw [Array.getElem?_toList]; exact ht))⟩)
    (by kernel_rfl)
end Go.Proofs.YtankmgnjkcgpaaaDoor

