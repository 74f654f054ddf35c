/- Trace: the law TraceQuotes, joined. -/
import Derived.Test.YtaleenklamognaaDoorUcC
import Derived.Test.YtaleenklamognaaDoorSyY
import Derived.Test.YtaleenklamognaaDoorSyPl
import Derived.Lay
import Derived.Test.YtaleenklamognaaDoorTie
import Derived.Test.YtaleenklamognaaDoorCards
set_option linter.unusedSimpArgs false
set_option linter.unusedVariables false
set_option maxRecDepth 100000
namespace Go.Proofs.YtaleenklamognaaDoor
open Go.Sx WordR

theorem tolT_take (b : List UInt8) : ∀ k, k ≤ b.length → tolT b k = 34 :: ((b.take k).flatMap fun c => toldW (nat c) true)
  | 0, _ => by simp [tolT]
  | k + 1, h => by
    rw [tolT, tolT_take b k (by omega), List.take_succ_eq_append_getElem (by omega), List.flatMap_append]
    simp only [List.cons_append, List.flatMap_cons, List.flatMap_nil, List.append_nil]
    rw [List.getD_eq_getElem?_getD, List.getElem?_eq_getElem (by omega)]
    rfl
theorem quoT_body (b : List UInt8) (hb : b ≠ []) : quoT b = 34 :: (bodyL false [⟨[], b⟩] ++ [34]) := by
  rw [quoT, tolT_take b _ (Nat.le_refl _), List.take_length]
  cases b with
  | nil => exact absurd rfl hb
  | cons c r => simp [bodyL, toldL]
theorem traceQuotes_law (t0 t1 t2 t3 t4 t5 t6 t7 t8 t9 t10 t11 t12 t13 t14 t15 b : List UInt8) : RunsTo Tryd.prog 11 [.code (bodyOf Tryd.f11)] (envOf [vS b] Tryd.f11.ntmps) (Sx.look (tqS t0 t1 t2 t3 t4 t5 t6 t7 t8 t9 t10 t11 t12 t13 t14 t15 ++ ([]))) 80 (YES) (Sx.look []) 12000 := by
  by_cases h : 400 < b.length ∨ b.length = 0
  · exact tlq1 t0 t1 t2 t3 t4 t5 t6 t7 t8 t9 t10 t11 t12 t13 t14 t15 b h
  have hb : b ≠ [] := by intro e; subst e; simp at h
  have hl := tolT_len b b.length
  have hq : (quoT b).length ≤ 4000 := by rw [quoT, List.length_append, List.length_singleton]; omega
  have hf : fitsP [⟨[], b⟩] = true := by
    simp only [fitsP, List.length_cons]
    simp
    omega
  have hs := split_quoted [] [⟨[], b⟩] rfl (by simp [okL', hb]) hf [] rfl (by simp [← quoT_body b hb]; omega)
  simp only [List.nil_append] at hs
  rw [← quoT_body b hb] at hs
  exact tlq2 t0 t1 t2 t3 t4 t5 t6 t7 t8 t9 t10 t11 t12 t13 t14 t15 b _ (by omega) (by omega) hq (by rw [hs]) (by rw [hs]) rfl rfl rfl rfl rfl

end Go.Proofs.YtaleenklamognaaDoor

set_option maxRecDepth 100000
set_option linter.unusedSimpArgs false
set_option linter.unusedVariables false
namespace Go.Proofs.YtaleenklamognaaDoor
open Go.ChangeShapes Go.WideShapes Go.ChangeAt Go.RowKit
open Go.Sx

theorem traceQuotes_sh : shsOf Tryd.prog Tryd.f11.params.toList = some [.ks] := by kernel_rfl

theorem traceQuotes_star : "*" ++ "errors.errorString" = "*errors.errorString" := by decide
theorem traceQuotes_row (u : TypeId) (h : Tryd.prog.typeName? 3 u = some "*errors.errorString") : u = 213 :=
  typeName_ptr_named (nm := "errors.errorString") (by rw [traceQuotes_star]; kernel_rfl) (by kernel_rfl) (by decide) u (by rw [traceQuotes_star]; exact h)

theorem traceQuotes_errTy : ErrTy Tryd.prog "*errors.errorString" 25 213 215 9 := errTy_of (by kernel_rfl) traceQuotes_row (by kernel_rfl) (by kernel_rfl) (by kernel_rfl) (by kernel_rfl) (by kernel_rfl)

theorem traceQuotes_own : ownKnob Tryd.prog.godebug = none := by kernel_rfl
theorem traceQuotes_met (os : Os) (args : Array Value) : laidMetH Tryd.prog Rows.traceQuotesRow.laid ((World.laidAll Tryd.prog os Rows.traceQuotesRow.laid).forCall (fun _ _ => 0) ⟨#[], args, []⟩).memory := by
  rw [MakeChecks.laidMetH_plain _ _ _ (by kernel_rfl)]; exact laidMet_laidAll _ (by kernel_rfl) (by kernel_rfl)
theorem traceQuotes_plain (w : World) : laidMetH Tryd.prog Rows.traceQuotesRow.laid w = laidMet Tryd.prog Rows.traceQuotesRow.laid w := MakeChecks.laidMetH_plain _ _ _ (by kernel_rfl)

def traceQuotes_texts : List (Nat × List UInt8) := [(4, [97, 32, 110, 117, 109, 98, 101, 114, 32, 105, 115, 32, 111, 117, 116, 32, 111, 102, 32, 105, 116, 115, 32, 114, 97, 110, 103, 101]), (3, [116, 104, 101, 114, 101, 32, 105, 115, 32, 110, 111, 32, 109, 111, 114, 101, 32, 114, 111, 111, 109]), (5, [115, 111, 109, 101, 116, 104, 105, 110, 103, 32, 105, 115, 32, 109, 105, 115, 115, 105, 110, 103, 32, 97, 116, 32, 116, 104, 101, 32, 101, 110, 100]), (0, [116, 104, 101, 114, 101, 32, 105, 115, 32, 109, 111, 114, 101, 32, 116, 104, 97, 110, 32, 109, 97, 121, 32, 98, 101]), (6, [105, 116, 32, 105, 115, 32, 110, 111, 116, 32, 111, 102, 32, 105, 116, 115, 32, 102, 111, 114, 109]), (2, [116, 104, 101, 114, 101, 32, 105, 115, 32, 110, 111, 32, 115, 117, 99, 104, 32, 110, 97, 109, 101]), (7, [116, 104, 101, 114, 101, 32, 105, 115, 32, 110, 111, 110, 101]), (8, [105, 116, 32, 105, 115, 32, 116, 104, 101, 114, 101, 32, 97, 108, 114, 101, 97, 100, 121]), (9, [105, 116, 32, 105, 115, 32, 111, 102, 32, 97, 110, 111, 116, 104, 101, 114, 32, 107, 105, 110, 100]), (10, [105, 116, 32, 99, 97, 110, 32, 110, 111, 116, 32, 98, 101, 32, 100, 111, 110, 101, 32, 105, 110, 32, 116, 104, 105, 115, 32, 115, 116, 97, 116, 101]), (11, [105, 116, 32, 103, 111, 101, 115, 32, 116, 111, 111, 32, 100, 101, 101, 112]), (12, [116, 104, 101, 32, 102, 117, 101, 108, 32, 105, 115, 32, 115, 112, 101, 110, 116]), (13, [116, 104, 101, 114, 101, 32, 97, 114, 101, 32, 116, 111, 111, 32, 109, 97, 110, 121, 32, 99, 97, 108, 108, 115, 32, 119, 105, 116, 104, 105, 110, 32, 111, 110, 101, 32, 97, 110, 111, 116, 104, 101, 114]), (14, [105, 116, 32, 105, 115, 32, 99, 108, 111, 115, 101, 100]), (15, [105, 116, 32, 119, 111, 117, 108, 100, 32, 109, 97, 116, 99, 104, 32, 110, 111, 116, 104, 105, 110, 103, 32, 97, 116, 32, 97, 108, 108]), (1, [116, 104, 101, 32, 116, 101, 120, 116, 32, 105, 115, 32, 110, 111, 32, 110, 117, 109, 98, 101, 114])]
theorem traceQuotes_sent : sentOf Tryd.prog "*errors.errorString" Rows.traceQuotesRow.laid = some traceQuotes_texts := by kernel_rfl

theorem traceQuotes_readable : ∀ t ∈ Tryd.f11.params.toList, Tryd.prog.readableRec t = true ∧ t < Tryd.prog.types.size := by
  have h : (Tryd.f11.params.toList.all fun t => Tryd.prog.readableRec t && decide (t < Tryd.prog.types.size)) = true := by kernel_rfl
  intro t ht
  have := List.all_eq_true.1 h t ht
  simpa using this

theorem traceQuotes_wants : ∀ t ∈ Tryd.f11.params.toList, Tryd.prog.wantsStandIn t = false := by
  have h : (Tryd.f11.params.toList.all fun t => !Tryd.prog.wantsStandIn t) = true := by kernel_rfl
  intro t ht
  have := List.all_eq_true.1 h t ht
  simpa using this

theorem traceQuotes_lifted (os : Os) (started : os.Started) (H : Type) (enc : TypeId × Value → H) :
    ReturnsInHanded {} Tryd.checked os 11 .any (fun w args => (Rows.traceQuotesSpec.pre enc Tryd.prog Tryd.f11 [] false w args ∧ laidMetH Tryd.prog Rows.traceQuotesRow.laid w) ∧ sizedMet enc Tryd.prog Tryd.f11 (OpenSpec.ofChange Rows.traceQuotesSpec) false w args)
      (Rows.traceQuotesSpec.post enc Tryd.prog Tryd.f11 false true false false) := by
  refine returnsInHanded_of_change_and (C := Tryd.checked) (X := fun w _ => laidMetH Tryd.prog Rows.traceQuotesRow.laid w) (fun _ _ _ hh h => h.of_heap hh) traceQuotes_own started (by kernel_rfl) Tryd.func11
    (ChangeSpec.witness_shaped (enc := enc) (C := Tryd.checked) (os := os) (X := fun w _ => laidMetH Tryd.prog Rows.traceQuotesRow.laid w) false (World.laidAll Tryd.prog os Rows.traceQuotesRow.laid) #[.string ⟨#[]⟩] 8 (World.laidAll_os _ _ _) (World.shaped_of_ZipB (by kernel_rfl) (by kernel_rfl)) (by kernel_rfl) (by kernel_rfl) (by kernel_rfl) (traceQuotes_met os _)) ?_
  intro W base args ds gs before hval hW _ _ hL _
  have hW' := hW
  obtain ⟨p, q, hA, hV, rfl, hfz, hnd⟩ := hW
  obtain ⟨rfl, rfl⟩ := trodVars_none hV
  rw [traceQuotes_plain] at hL
  obtain ⟨s1, s2, s3⟩ := sents_open traceQuotes_errTy hL traceQuotes_sent (by kernel_rfl)
  have hG : Tryd.prog.globals.size = 23 := by kernel_rfl
  rw [hG] at s2 s3
  have g3 : ds.length = 1 := (args_open traceQuotes_sh hA (fun j t v h1 h2 => hval j t v (by rw [← Array.getElem?_toList]; exact h1) (by rw [← Array.getElem?_toList]; exact h2))).2.2.1
  match ds, g3 with
  | [d1], _ =>
    refine (law_calls Tryd.func11 (body := bodyOf Tryd.f11) (by kernel_rfl) traceQuotes_sh hA hval (lab := 100) (n := 80) (n' := 12000) (L' := Sx.look []) gtopP s1 s2 (fun e he => ?_) (fun cs hcs hIs => ?_)).mono fun e W' ⟨he, hB⟩ => ⟨_, he, law_post (bt := 4) (by kernel_rfl) traceQuotes_readable rfl (by kernel_rfl) (by kernel_rfl) hW' rfl hB⟩
    · obtain ⟨a1, a2, a3⟩ := s3 e he
      exact ⟨a1, Nat.lt_of_lt_of_le a2 gtopP, fun l hl => Nat.lt_of_lt_of_le (a3 l hl) gtopP⟩
    · clear hcs
      refine RunsTo.start (cargs := [.v (.vs fun _ => (Sx.strOf (Go.Sx.rd0 cs [] 0)))]) ?_ ⟨rfl, trivial⟩
      exact traceQuotes_law _ _ _ _ _ _ _ _ _ _ _ _ _ _ _ _ (Sx.strOf (Go.Sx.rd0 cs [] 0))

theorem traceQuotes_holds : Rows.TraceQuotesSaid :=
  OpenClaim.holds_of_wide 11 Tryd.f11 rfl rfl rfl rfl rfl rfl rfl ⟨rfl, rfl, rfl, rfl, rfl⟩ rfl rfl rfl rfl rfl (by kernel_rfl) Tryd.func11 (by kernel_rfl)
    (of_decide_eq_true (by kernel_rfl)) (by unfold Func.isWrapper; first | (rw [if_pos (by decide +kernel)]; kernel_rfl) | (rw [if_neg (by decide +kernel)]; exact ⟨rfl, rfl⟩))
    (fun os started H enc _ => traceQuotes_lifted os started H enc)

theorem traceQuotes_card_holds : Rows.TraceQuotesCardSaid :=
  Claim7.holds_tied_plain_at .later [] [.data, .data, .data, .sentinel, .sentinel, .sentinel, .sentinel, .sentinel, .sentinel, .sentinel, .sentinel, .sentinel, .sentinel, .sentinel, .sentinel, .sentinel, .sentinel, .sentinel, .sentinel, .widerDeep] true (true, "adce2fd5dd0887f6362622a91578a8c9f336eace8c67ecf4b186e5f5f59c33e1") true
    traceQuotes_holds (fun _ h => by cases h) (by kernel_rfl) (fun _ h => by cases h) traceQuotes_row_tie rfl ⟨rfl, rfl⟩ (by kernel_rfl) rfl
    (fun f fn hf hfn => by
      obtain rfl : f = 11 := Option.some.inj ((show Tryd.prog.funcNamed "truchman/truchmanlaw38.TraceQuotes" = some 11 by kernel_rfl).symm.trans hf) |>.symm
      obtain rfl : fn = Tryd.f11 := (Option.some.inj (Tryd.func11.symm.trans hfn)).symm
      exact ⟨by kernel_rfl, fun j t ht => traceQuotes_wants t (List.mem_of_getElem? (by rw [Array.getElem?_toList]; exact ht))⟩)
    (by kernel_rfl)
end Go.Proofs.YtaleenklamognaaDoor

