/- RawEvents: lifted; the card. -/
import Derived.Test.YtankmgnjkcgpaaaDoorQgC
import Derived.Test.YtankmgnjkcgpaaaDoorSyY
import Derived.Test.YtankmgnjkcgpaaaDoorSyPl
import Derived.Test.YtankmgnjkcgpaaaDoorSyWt
import Derived.Lay
import Derived.Test.YtankmgnjkcgpaaaDoorTie
import Derived.Test.YtankmgnjkcgpaaaDoorCards
set_option maxRecDepth 100000
set_option linter.unusedSimpArgs false
set_option linter.unusedVariables false
namespace Go.Proofs.YtankmgnjkcgpaaaDoor
open Go.ChangeShapes Go.WideShapes Go.ChangeAt Go.RowKit
open Go.Sx

theorem rawEvents_sh : shsOf Tryd.prog Tryd.f7.params.toList = some [.tc (.ki .i64) (.tc (.ki .i64) (.tc (.sl (.ki .u8)) (.tc (.sl (.ki .i64)) .t0))), .tc (.ki .i64) (.tc (.ki .i64) (.tc (.sl (.ki .u8)) (.tc (.sl (.ki .i64)) .t0)))] := by kernel_rfl

theorem rawEvents_star : "*" ++ "errors.errorString" = "*errors.errorString" := by decide
theorem rawEvents_row (u : TypeId) (h : Tryd.prog.typeName? 3 u = some "*errors.errorString") : u = 194 :=
  typeName_ptr_named (nm := "errors.errorString") (by rw [rawEvents_star]; kernel_rfl) (by kernel_rfl) (by decide) u (by rw [rawEvents_star]; exact h)

theorem rawEvents_errTy : ErrTy Tryd.prog "*errors.errorString" 26 194 196 9 := errTy_of (by kernel_rfl) rawEvents_row (by kernel_rfl) (by kernel_rfl) (by kernel_rfl) (by kernel_rfl) (by kernel_rfl)

theorem rawEvents_own : ownKnob Tryd.prog.godebug = none := by kernel_rfl
theorem rawEvents_met (os : Os) (args : Array Value) : laidMetH Tryd.prog Rows.rawEventsRow.laid ((World.laidAll Tryd.prog os Rows.rawEventsRow.laid).forCall (fun _ _ => 0) ⟨#[], args, []⟩).memory := by
  rw [MakeChecks.laidMetH_plain _ _ _ (by kernel_rfl)]; exact laidMet_laidAll _ (by kernel_rfl) (by kernel_rfl)
theorem rawEvents_plain (w : World) : laidMetH Tryd.prog Rows.rawEventsRow.laid w = laidMet Tryd.prog Rows.rawEventsRow.laid w := MakeChecks.laidMetH_plain _ _ _ (by kernel_rfl)

def rawEvents_texts : List (Nat × List UInt8) := [(21, [118, 97, 108, 117, 101, 32, 111, 117, 116, 32, 111, 102, 32, 114, 97, 110, 103, 101]), (20, [105, 110, 118, 97, 108, 105, 100, 32, 115, 121, 110, 116, 97, 120]), (1, [105, 116, 32, 105, 115, 32, 110, 111, 116, 32, 111, 102, 32, 105, 116, 115, 32, 102, 111, 114, 109])]
theorem rawEvents_sent : sentOf Tryd.prog "*errors.errorString" Rows.rawEventsRow.laid = some rawEvents_texts := by kernel_rfl

theorem rawEvents_readable : ∀ t ∈ Tryd.f7.params.toList, Tryd.prog.readableRec t = true ∧ t < Tryd.prog.types.size := by
  have h : (Tryd.f7.params.toList.all fun t => Tryd.prog.readableRec t && decide (t < Tryd.prog.types.size)) = true := by kernel_rfl
  intro t ht
  have := List.all_eq_true.1 h t ht
  simpa using this

theorem rawEvents_wants : ∀ t ∈ Tryd.f7.params.toList, Tryd.prog.wantsStandIn t = false := by
  have h : (Tryd.f7.params.toList.all fun t => !Tryd.prog.wantsStandIn t) = true := by kernel_rfl
  intro t ht
  have := List.all_eq_true.1 h t ht
  simpa using this

theorem rawEvents_lifted (os : Os) (started : os.Started) (H : Type) (enc : TypeId × Value → H) :
    ReturnsInHanded {} Tryd.checked os 7 .any (fun w args => (Rows.rawEventsSpec.pre enc Tryd.prog Tryd.f7 [] false w args ∧ laidMetH Tryd.prog Rows.rawEventsRow.laid w) ∧ sizedMet enc Tryd.prog Tryd.f7 (OpenSpec.ofChange Rows.rawEventsSpec) false w args)
      (Rows.rawEventsSpec.post enc Tryd.prog Tryd.f7 false true false false) := by
  refine returnsInHanded_of_change_and (C := Tryd.checked) (X := fun w _ => laidMetH Tryd.prog Rows.rawEventsRow.laid w) (fun _ _ _ hh h => h.of_heap hh) rawEvents_own started (by kernel_rfl) Tryd.func7
    (ChangeSpec.witness_shaped (enc := enc) (C := Tryd.checked) (os := os) (X := fun w _ => laidMetH Tryd.prog Rows.rawEventsRow.laid w) false (World.laidAll Tryd.prog os Rows.rawEventsRow.laid) #[.agg #[.int .i64 0, .int .i64 0, .slice none 0 0, .slice none 0 0], .agg #[.int .i64 0, .int .i64 0, .slice none 0 0, .slice none 0 0]] 8 (World.laidAll_os _ _ _) (World.shaped_of_ZipB (by kernel_rfl) (by kernel_rfl)) (by kernel_rfl) (by kernel_rfl) (by kernel_rfl) (rawEvents_met os _)) ?_
  intro W base args ds gs before hval hW _ _ hL _
  have hW' := hW
  obtain ⟨p, q, hA, hV, rfl, hfz, hnd⟩ := hW
  obtain ⟨rfl, rfl⟩ := trodVars_none hV
  rw [rawEvents_plain] at hL
  obtain ⟨s1, s2, s3⟩ := sents_open rawEvents_errTy hL rawEvents_sent (by kernel_rfl)
  have hT0 : TabAt W 17 powT.length (intTr .u64 powT) := int_tab (nm := "internal/strconv.uint64pow10") (t := 173) (e := 155) hL (List.mem_of_getElem? (show Rows.rawEventsRow.laid[2]? = some ("internal/strconv.uint64pow10", DataW.agg (powT.map fun s => .lit (.int .u64 s))) by kernel_rfl)) (by kernel_rfl) (by kernel_rfl) (by kernel_rfl) (by kernel_rfl) (by kernel_rfl)
  have hlt : (rawEvents_texts.all fun x => Nat.blt x.1 Tryd.prog.globals.size) = true := by kernel_rfl
  obtain ⟨s1, s2, s3⟩ := tabs_open (tb := [(17, powT.length, intTr .u64 powT)]) s1 s2 s3 (fun x hx => by have := List.all_eq_true.1 hlt x hx; simpa [Nat.blt_eq] using this) (fun x hx => by
    simp only [List.mem_cons, List.mem_nil_iff, or_false] at hx
    rcases hx with rfl
    · exact ⟨Nat.lt_of_lt_of_le (by decide : 17 < 24) (Nat.le_of_eq (show 24 = Tryd.prog.globals.size by kernel_rfl)), hT0⟩) (by kernel_rfl)
  have hG : Tryd.prog.globals.size = 24 := by kernel_rfl
  rw [hG] at s2 s3
  have g3 : ds.length = 2 := (args_open rawEvents_sh hA (fun j t v h1 h2 => hval j t v (by rw [← Array.getElem?_toList]; exact h1) (by rw [← Array.getElem?_toList]; exact h2))).2.2.1
  match ds, g3 with
  | [d1, d2], _ =>
    refine (law_calls Tryd.func7 (body := bodyOf Tryd.f7) (by kernel_rfl) rawEvents_sh hA hval (lab := 100) (n := 110) (n' := 6000) (L' := Sx.look []) gtopP s1 s2 (fun e he => ?_) (fun cs hcs hIs => ?_)).mono fun e W' ⟨he, hB⟩ => ⟨_, he, law_post (bt := 4) (by kernel_rfl) rawEvents_readable rfl (by kernel_rfl) (by kernel_rfl) hW' rfl hB⟩
    · obtain ⟨a1, a2, a3⟩ := s3 e he
      exact ⟨a1, Nat.lt_of_lt_of_le a2 gtopP, fun l hl => Nat.lt_of_lt_of_le (a3 l hl) gtopP⟩
    · clear hcs
      have hev := hIs
      obtain ⟨a1, r1, e1, l1, he, hrest⟩ := hev
      obtain ⟨a2, r2, e2, l2, he2, hrest2⟩ := hrest
      subst e2
      have hev := ev_arg (p := []) (r := a2 ++ r2) he 0 rfl
      rw [List.nil_append, ← e1] at hev
      obtain ⟨⟨hn0, hn1⟩, hB, hF⟩ := hev
      have hev := ev_arg (p := a1) (r := r2) he2 4 l1
      rw [← e1] at hev
      obtain ⟨⟨hn2, hn3⟩, hB2, hF2⟩ := hev
      refine RunsTo.start (cargs := [.agg (.tc (.vi .i64 fun _ => (Sx.intOf (Go.Sx.rd0 cs [] 0))) (.tc (.vi .i64 fun _ => (Sx.intOf (Go.Sx.rd0 cs [] 1))) (.tc (.vl 100 (fun _ => 0) 1 [] (fun _ => lenOf (Go.Sx.rd0 cs [] 2))) (.tc (.vl 101 (fun _ => 0) 1 [] (fun _ => lenOf (Go.Sx.rd0 cs [] 3))) .t0)))), .agg (.tc (.vi .i64 fun _ => (Sx.intOf (Go.Sx.rd0 cs [] 4))) (.tc (.vi .i64 fun _ => (Sx.intOf (Go.Sx.rd0 cs [] 5))) (.tc (.vl 102 (fun _ => 0) 1 [] (fun _ => lenOf (Go.Sx.rd0 cs [] 6))) (.tc (.vl 103 (fun _ => 0) 1 [] (fun _ => lenOf (Go.Sx.rd0 cs [] 7))) .t0))))]) ?_ ⟨⟨rfl, rfl, ⟨rfl, rfl⟩, ⟨rfl, rfl⟩⟩, ⟨rfl, rfl, ⟨rfl, rfl⟩, ⟨rfl, rfl⟩⟩, trivial⟩
      exact rawEvents_lawT _ _ _ (Sx.intOf (Go.Sx.rd0 cs [] 0)) (Sx.intOf (Go.Sx.rd0 cs [] 1)) (lenOf (Go.Sx.rd0 cs [] 2)) (lenOf (Go.Sx.rd0 cs [] 3)) (fun is => Sx.intOf (rdOf W 1 (Go.Sx.rd0 cs) 2 is 0)) (fun is => Sx.intOf (rdOf W 1 (Go.Sx.rd0 cs) 3 is 0)) (Sx.intOf (Go.Sx.rd0 cs [] 4)) (Sx.intOf (Go.Sx.rd0 cs [] 5)) (lenOf (Go.Sx.rd0 cs [] 6)) (lenOf (Go.Sx.rd0 cs [] 7)) (fun is => Sx.intOf (rdOf W 1 (Go.Sx.rd0 cs) 6 is 0)) (fun is => Sx.intOf (rdOf W 1 (Go.Sx.rd0 cs) 7 is 0)) hB hF hn1 hB2 hF2 hn3

theorem rawEvents_holds : Rows.RawEventsSaid :=
  OpenClaim.holds_of_wide 7 Tryd.f7 rfl rfl rfl rfl rfl rfl rfl ⟨rfl, rfl, rfl, rfl, rfl⟩ rfl rfl rfl rfl rfl (by kernel_rfl) Tryd.func7 (by kernel_rfl)
    (of_decide_eq_true (by kernel_rfl)) (by unfold Func.isWrapper; first | (rw [if_pos (by decide +kernel)]; kernel_rfl) | (rw [if_neg (by decide +kernel)]; exact ⟨rfl, rfl⟩))
    (fun os started H enc _ => rawEvents_lifted os started H enc)

theorem rawEvents_card_holds : Rows.RawEventsCardSaid :=
  Claim7.holds_tied_plain_at .later [] [.data, .data, .data, .data, .sentinel, .sentinel, .sentinel, .pinned] true (true, "871241c342c4b0cca9a2a826e3080e4457fc40cf57f47027a7914b297464df06") true
    rawEvents_holds (fun _ h => by cases h) (by kernel_rfl) (fun _ h => by cases h) rawEvents_row_tie rfl ⟨rfl, rfl⟩ (by kernel_rfl) rfl
    (fun f fn hf hfn => by
      obtain rfl : f = 7 := Option.some.inj ((show Tryd.prog.funcNamed "truchman/truchmanlaw36.RawEvents" = some 7 by kernel_rfl).symm.trans hf) |>.symm
      obtain rfl : fn = Tryd.f7 := (Option.some.inj (Tryd.func7.symm.trans hfn)).symm
      exact ⟨by kernel_rfl, fun j t ht => rawEvents_wants t (List.mem_of_getElem? (by rw [Array.getElem?_toList]; exact ht))⟩)
    (by kernel_rfl)
end Go.Proofs.YtankmgnjkcgpaaaDoor

