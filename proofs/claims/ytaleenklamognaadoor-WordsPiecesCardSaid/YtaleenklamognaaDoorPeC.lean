/- Words: the law WordsPieces, joined. -/
import Derived.Test.YtaleenklamognaaDoorPdC
import Derived.Test.YtaleenklamognaaDoorSyY
import Derived.Test.YtaleenklamognaaDoorSyPl
import Derived.Lay
import Derived.Test.YtaleenklamognaaDoorTie
import Derived.Test.YtaleenklamognaaDoorCards
set_option linter.unusedSimpArgs false
set_option linter.unusedVariables false
set_option maxRecDepth 100000
namespace Go.Proofs.YtaleenklamognaaDoor
open Go.Sx WordR

theorem wordsPieces_law (t0 t1 t2 : List UInt8) (n : Nat) (V L : Ix → List UInt8) (ka : Int) (xa : List UInt8) (ma pa : Int) (na : Nat) (VA LA : Ix → List UInt8) (kb : Int) (xb : List UInt8) (mb pb : Int) (nb : Nat) (VB LB : Ix → List UInt8) : RunsTo Tryd.prog 5 [.code (bodyOf Tryd.f5)] (envOf [vL 100 2 n, .agg (.tc (.vi .i64 fun _ => ka) (.tc (.vs fun _ => xa) (.tc (.vi .i64 fun _ => ma) (.tc (.vl 101 (fun _ => 0) 2 [] (fun _ => na)) (.tc (.vi .i64 fun _ => pa) .t0))))), .agg (.tc (.vi .i64 fun _ => kb) (.tc (.vs fun _ => xb) (.tc (.vi .i64 fun _ => mb) (.tc (.vl 102 (fun _ => 0) 2 [] (fun _ => nb)) (.tc (.vi .i64 fun _ => pb) .t0)))))] Tryd.f5.ntmps) (Sx.look (wpS t0 t1 t2 ++ (prX 100 n V L ++ (prX 101 na VA LA ++ prX 102 nb VB LB)) ++ ([]))) 110 (YES) (Sx.look []) 30000 := by
  cases h1 : lgI n V L with
  | true => exact lp1 t0 t1 t2 n V L ka xa ma pa na VA LA kb xb mb pb nb VB LB h1
  | false =>
  cases h2 : lgI na VA LA with
  | true => exact lp2 t0 t1 t2 n V L ka xa ma pa na VA LA kb xb mb pb nb VB LB h1 h2
  | false =>
  cases h3 : lgI nb VB LB with
  | true => exact lp3 t0 t1 t2 n V L ka xa ma pa na VA LA kb xb mb pb nb VB LB h1 h2 h3
  | false =>
  by_cases hx : 200 < xa.length ∨ 200 < xb.length
  · exact lp4 t0 t1 t2 n V L ka xa ma pa na VA LA kb xb mb pb nb VB LB h1 h2 h3 hx
  obtain ⟨hn, hl⟩ := lg_ln h1
  obtain ⟨hna, hla⟩ := lg_ln h2
  obtain ⟨hnb, hlb⟩ := lg_ln h3
  have l0 := pcsOf_len n V L
  have la := pcsOf_len na VA LA
  have lb := pcsOf_len nb VB LB
  have o0 := pr_on n V L
  have oa := pr_on na VA LA
  have ob := pr_on nb VB LB
  have e1 : rgtI n V L = rrI (pcsOf n V L).length (prV (pcsOf n V L)) (prL (pcsOf n V L)) := by rw [l0, rr_on o0]; exact rgt_rr n V L
  have e3 : (decide (ka = kb) && (decide (xa = xb) && (decide (ma = mb) && (decide (na = nb) && eqQs na VA LA VB LB)))) = (decide (ka = kb) && (decide (xa = xb) && (decide (ma = mb) && (decide ((pcsOf na VA LA).length = (pcsOf nb VB LB).length) && eqQs (pcsOf na VA LA).length (prV (pcsOf na VA LA)) (prL (pcsOf na VA LA)) (prV (pcsOf nb VB LB)) (prL (pcsOf nb VB LB)))))) := by
    rw [la, lb]
    by_cases e : na = nb
    · subst e
      rw [eq_on oa ob]
    · rw [decide_eq_false e, Bool.false_and, Bool.false_and]
  cases h0 : rgtI n V L with
  | true =>
    exact lp5 t0 t1 t2 n V L ka xa ma pa na VA LA kb xb mb pb nb VB LB _ _ _ h1 h2 h3 (by omega) (by omega) rfl rfl rfl l0 la lb hn hna hnb hl e1 e3 (by rw [← e1]; exact h0) h0 (by rw [l0, lnB_on o0]; exact hl) (by rw [l0, alt_on o0]; exact rgt_alt h0) (by rw [l0, quo_on o0])
  | false =>
    exact lp6 t0 t1 t2 n V L ka xa ma pa na VA LA kb xb mb pb nb VB LB _ _ _ h1 h2 h3 (by omega) (by omega) rfl rfl rfl l0 la lb hn hna hnb hl e1 e3 (by rw [← e1]; exact h0) h0

end Go.Proofs.YtaleenklamognaaDoor

set_option maxRecDepth 100000
set_option linter.unusedSimpArgs false
set_option linter.unusedVariables false
namespace Go.Proofs.YtaleenklamognaaDoor
open Go.ChangeShapes Go.WideShapes Go.ChangeAt Go.RowKit
open Go.Sx

theorem wordsPieces_sh : shsOf Tryd.prog Tryd.f5.params.toList = some [.sl (.tc .ks (.tc .ks .t0)), .tc (.ki .i64) (.tc .ks (.tc (.ki .i64) (.tc (.sl (.tc .ks (.tc .ks .t0))) (.tc (.ki .i64) .t0)))), .tc (.ki .i64) (.tc .ks (.tc (.ki .i64) (.tc (.sl (.tc .ks (.tc .ks .t0))) (.tc (.ki .i64) .t0))))] := by kernel_rfl

theorem wordsPieces_star : "*" ++ "errors.errorString" = "*errors.errorString" := by decide
theorem wordsPieces_row (u : TypeId) (h : Tryd.prog.typeName? 3 u = some "*errors.errorString") : u = 213 :=
  typeName_ptr_named (nm := "errors.errorString") (by rw [wordsPieces_star]; kernel_rfl) (by kernel_rfl) (by decide) u (by rw [wordsPieces_star]; exact h)

theorem wordsPieces_errTy : ErrTy Tryd.prog "*errors.errorString" 25 213 215 9 := errTy_of (by kernel_rfl) wordsPieces_row (by kernel_rfl) (by kernel_rfl) (by kernel_rfl) (by kernel_rfl) (by kernel_rfl)

theorem wordsPieces_own : ownKnob Tryd.prog.godebug = none := by kernel_rfl
theorem wordsPieces_met (os : Os) (args : Array Value) : laidMetH Tryd.prog Rows.wordsPiecesRow.laid ((World.laidAll Tryd.prog os Rows.wordsPiecesRow.laid).forCall (fun _ _ => 0) ⟨#[], args, []⟩).memory := by
  rw [MakeChecks.laidMetH_plain _ _ _ (by kernel_rfl)]; exact laidMet_laidAll _ (by kernel_rfl) (by kernel_rfl)
theorem wordsPieces_plain (w : World) : laidMetH Tryd.prog Rows.wordsPiecesRow.laid w = laidMet Tryd.prog Rows.wordsPiecesRow.laid w := MakeChecks.laidMetH_plain _ _ _ (by kernel_rfl)

def wordsPieces_texts : List (Nat × List UInt8) := [(5, [115, 111, 109, 101, 116, 104, 105, 110, 103, 32, 105, 115, 32, 109, 105, 115, 115, 105, 110, 103, 32, 97, 116, 32, 116, 104, 101, 32, 101, 110, 100]), (0, [116, 104, 101, 114, 101, 32, 105, 115, 32, 109, 111, 114, 101, 32, 116, 104, 97, 110, 32, 109, 97, 121, 32, 98, 101]), (6, [105, 116, 32, 105, 115, 32, 110, 111, 116, 32, 111, 102, 32, 105, 116, 115, 32, 102, 111, 114, 109])]
theorem wordsPieces_sent : sentOf Tryd.prog "*errors.errorString" Rows.wordsPiecesRow.laid = some wordsPieces_texts := by kernel_rfl

theorem wordsPieces_readable : ∀ t ∈ Tryd.f5.params.toList, Tryd.prog.readableRec t = true ∧ t < Tryd.prog.types.size := by
  have h : (Tryd.f5.params.toList.all fun t => Tryd.prog.readableRec t && decide (t < Tryd.prog.types.size)) = true := by kernel_rfl
  intro t ht
  have := List.all_eq_true.1 h t ht
  simpa using this

theorem wordsPieces_wants : ∀ t ∈ Tryd.f5.params.toList, Tryd.prog.wantsStandIn t = false := by
  have h : (Tryd.f5.params.toList.all fun t => !Tryd.prog.wantsStandIn t) = true := by kernel_rfl
  intro t ht
  have := List.all_eq_true.1 h t ht
  simpa using this

theorem wordsPieces_lifted (os : Os) (started : os.Started) (H : Type) (enc : TypeId × Value → H) :
    ReturnsInHanded {} Tryd.checked os 5 .any (fun w args => (Rows.wordsPiecesSpec.pre enc Tryd.prog Tryd.f5 [] false w args ∧ laidMetH Tryd.prog Rows.wordsPiecesRow.laid w) ∧ sizedMet enc Tryd.prog Tryd.f5 (OpenSpec.ofChange Rows.wordsPiecesSpec) false w args)
      (Rows.wordsPiecesSpec.post enc Tryd.prog Tryd.f5 false true false false) := by
  refine returnsInHanded_of_change_and (C := Tryd.checked) (X := fun w _ => laidMetH Tryd.prog Rows.wordsPiecesRow.laid w) (fun _ _ _ hh h => h.of_heap hh) wordsPieces_own started (by kernel_rfl) Tryd.func5
    (ChangeSpec.witness_shaped (enc := enc) (C := Tryd.checked) (os := os) (X := fun w _ => laidMetH Tryd.prog Rows.wordsPiecesRow.laid w) false (World.laidAll Tryd.prog os Rows.wordsPiecesRow.laid) #[.slice none 0 0, .agg #[.int .i64 0, .string ⟨#[]⟩, .int .i64 0, .slice none 0 0, .int .i64 0], .agg #[.int .i64 0, .string ⟨#[]⟩, .int .i64 0, .slice none 0 0, .int .i64 0]] 8 (World.laidAll_os _ _ _) (World.shaped_of_ZipB (by kernel_rfl) (by kernel_rfl)) (by kernel_rfl) (by kernel_rfl) (by kernel_rfl) (wordsPieces_met os _)) ?_
  intro W base args ds gs before hval hW _ _ hL _
  have hW' := hW
  obtain ⟨p, q, hA, hV, rfl, hfz, hnd⟩ := hW
  obtain ⟨rfl, rfl⟩ := trodVars_none hV
  rw [wordsPieces_plain] at hL
  obtain ⟨s1, s2, s3⟩ := sents_open wordsPieces_errTy hL wordsPieces_sent (by kernel_rfl)
  have hG : Tryd.prog.globals.size = 23 := by kernel_rfl
  rw [hG] at s2 s3
  have g3 : ds.length = 3 := (args_open wordsPieces_sh hA (fun j t v h1 h2 => hval j t v (by rw [← Array.getElem?_toList]; exact h1) (by rw [← Array.getElem?_toList]; exact h2))).2.2.1
  match ds, g3 with
  | [d1, d2, d3], _ =>
    refine (law_calls Tryd.func5 (body := bodyOf Tryd.f5) (by kernel_rfl) wordsPieces_sh hA hval (lab := 100) (n := 110) (n' := 30000) (L' := Sx.look []) gtopP s1 s2 (fun e he => ?_) (fun cs hcs hIs => ?_)).mono fun e W' ⟨he, hB⟩ => ⟨_, he, law_post (bt := 4) (by kernel_rfl) wordsPieces_readable rfl (by kernel_rfl) (by kernel_rfl) hW' rfl hB⟩
    · obtain ⟨a1, a2, a3⟩ := s3 e he
      exact ⟨a1, Nat.lt_of_lt_of_le a2 gtopP, fun l hl => Nat.lt_of_lt_of_le (a3 l hl) gtopP⟩
    · clear hcs
      refine RunsTo.start (cargs := [.v (.vl 100 (fun _ => 0) 2 [] (fun _ => lenOf (Go.Sx.rd0 cs [] 0))), .agg (.tc (.vi .i64 fun _ => (Sx.intOf (Go.Sx.rd0 cs [] 1))) (.tc (.vs fun _ => (Sx.strOf (Go.Sx.rd0 cs [] 2))) (.tc (.vi .i64 fun _ => (Sx.intOf (Go.Sx.rd0 cs [] 3))) (.tc (.vl 101 (fun _ => 0) 2 [] (fun _ => lenOf (Go.Sx.rd0 cs [] 4))) (.tc (.vi .i64 fun _ => (Sx.intOf (Go.Sx.rd0 cs [] 5))) .t0))))), .agg (.tc (.vi .i64 fun _ => (Sx.intOf (Go.Sx.rd0 cs [] 6))) (.tc (.vs fun _ => (Sx.strOf (Go.Sx.rd0 cs [] 7))) (.tc (.vi .i64 fun _ => (Sx.intOf (Go.Sx.rd0 cs [] 8))) (.tc (.vl 102 (fun _ => 0) 2 [] (fun _ => lenOf (Go.Sx.rd0 cs [] 9))) (.tc (.vi .i64 fun _ => (Sx.intOf (Go.Sx.rd0 cs [] 10))) .t0)))))]) ?_ ⟨⟨rfl, rfl⟩, ⟨rfl, rfl, rfl, ⟨rfl, rfl⟩, rfl⟩, ⟨rfl, rfl, rfl, ⟨rfl, rfl⟩, rfl⟩, trivial⟩
      exact wordsPieces_law _ _ _ (lenOf (Go.Sx.rd0 cs [] 0)) _ _ (Sx.intOf (Go.Sx.rd0 cs [] 1)) (Sx.strOf (Go.Sx.rd0 cs [] 2)) (Sx.intOf (Go.Sx.rd0 cs [] 3)) (Sx.intOf (Go.Sx.rd0 cs [] 5)) (lenOf (Go.Sx.rd0 cs [] 4)) _ _ (Sx.intOf (Go.Sx.rd0 cs [] 6)) (Sx.strOf (Go.Sx.rd0 cs [] 7)) (Sx.intOf (Go.Sx.rd0 cs [] 8)) (Sx.intOf (Go.Sx.rd0 cs [] 10)) (lenOf (Go.Sx.rd0 cs [] 9)) _ _

theorem wordsPieces_holds : Rows.WordsPiecesSaid :=
  OpenClaim.holds_of_wide 5 Tryd.f5 rfl rfl rfl rfl rfl rfl rfl ⟨rfl, rfl, rfl, rfl, rfl⟩ rfl rfl rfl rfl rfl (by kernel_rfl) Tryd.func5 (by kernel_rfl)
    (of_decide_eq_true (by kernel_rfl)) (by unfold Func.isWrapper; first | (rw [if_pos (by decide +kernel)]; kernel_rfl) | (rw [if_neg (by decide +kernel)]; exact ⟨rfl, rfl⟩))
    (fun os started H enc _ => wordsPieces_lifted os started H enc)

theorem wordsPieces_card_holds : Rows.WordsPiecesCardSaid :=
  Claim7.holds_tied_plain_at .later [] [.sentinel, .sentinel, .sentinel] true (true, "adce2fd5dd0887f6362622a91578a8c9f336eace8c67ecf4b186e5f5f59c33e1") true
    wordsPieces_holds (fun _ h => by cases h) (by kernel_rfl) (fun _ h => by cases h) wordsPieces_row_tie rfl ⟨rfl, rfl⟩ (by kernel_rfl) rfl
    (fun f fn hf hfn => by
      obtain rfl : f = 5 := Option.some.inj ((show Tryd.prog.funcNamed "truchman/truchmanlaw30.WordsPieces" = some 5 by kernel_rfl).symm.trans hf) |>.symm
      obtain rfl : fn = Tryd.f5 := (Option.some.inj (Tryd.func5.symm.trans hfn)).symm
      exact ⟨by kernel_rfl, fun j t ht => wordsPieces_wants t (List.mem_of_getElem? (by rw [Array.getElem?_toList]; exact ht))⟩)
    (by kernel_rfl)
end Go.Proofs.YtaleenklamognaaDoor

