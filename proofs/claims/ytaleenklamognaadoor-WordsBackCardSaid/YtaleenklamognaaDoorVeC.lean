/- Words: the law WordsBack, joined. -/
import Derived.Test.YtaleenklamognaaDoorVdC
import Derived.Test.YtaleenklamognaaDoorSyY
import Derived.Test.YtaleenklamognaaDoorSyPl
import Derived.Lay
import Derived.Test.YtaleenklamognaaDoorTie
import Derived.Test.YtaleenklamognaaDoorCards
set_option linter.unusedSimpArgs false
set_option linter.unusedVariables false
set_option maxRecDepth 100000
namespace Go.Proofs.YtaleenklamognaaDoor
open Go.Sx WordR

theorem lg_lnb {n : Nat} {V L : Ix → List UInt8} (h : lgI n V L = false) : n ≤ 60 ∧ lnB V L n = true := by
  unfold lgI at h
  simp only [Bool.or_eq_false_iff, decide_eq_false_iff_not, Bool.not_eq_false'] at h
  refine ⟨by omega, List.all_eq_true.2 fun i hi => ?_⟩
  have := of_decide_eq_true (List.all_eq_true.1 h.2 i hi)
  exact decide_eq_true (by omega)
theorem u64_nn (x : Int) : 0 ≤ IntKind.u64.wrap x := by
  simp only [IntKind.wrap, IntKind.bits, IntKind.signed]
  simp
  omega
theorem blk_len : ∀ q, (blkB q).length = q
  | 0 => rfl
  | q + 1 => by rw [blkB, List.length_cons, blk_len q]
theorem blk_bl : ∀ q, blanks (blkB q) = true
  | 0 => rfl
  | q + 1 => by
    have ih := blk_bl q
    unfold blanks at ih ⊢
    rw [blkB, List.all_cons, ih, Bool.and_true]
    unfold bch
    split
    · decide
    · split <;> decide
theorem quo_len (n : Nat) (V L : Ix → List UInt8) (hn : n ≤ 60) (hb : lnB V L n = true) : (quoI n V L).length ≤ 300000 := by
  have := quoA_len V L n hb n (Nat.le_refl _)
  rw [quoI, List.length_append, List.length_singleton]; omega
theorem pr_isb {n i : Nat} {V L : Ix → List UInt8} (hi : i < n) : ((pcsOf n V L).getD i zP).var = V [i] ∧ ((pcsOf n V L).getD i zP).lit = L [i] := by
  simp [pcsOf, List.getD_eq_getElem?_getD, List.getElem?_map, List.getElem?_range hi]
theorem wordsBack_law (t0 t1 t2 : List UInt8) (n : Nat) (V L : Ix → List UInt8) (bl : Int) : RunsTo Tryd.prog 6 [.code (bodyOf Tryd.f6)] (envOf [vL 100 2 n, vN bl] Tryd.f6.ntmps) (Sx.look (wbS t0 t1 t2 ++ prX 100 n V L ++ ([]))) 110 (YES) (Sx.look []) 30000 := by
  cases h1 : lgI n V L with
  | true => exact wbk1 t0 t1 t2 n V L bl h1
  | false =>
  obtain ⟨hn, hl⟩ := lg_lnb h1
  cases h2 : rgtI n V L with
  | false => exact wbk2 t0 t1 t2 n V L bl h1 hn hl h2
  | true =>
  have hu := u64_nn bl
  have hm : (IntKind.u64.wrap bl).tmod 9 = IntKind.u64.wrap bl % 9 := Int.tmod_eq_emod_of_nonneg hu
  obtain ⟨q, hq, hq9⟩ : ∃ q : Nat, IntKind.i64.wrap ((IntKind.u64.wrap bl).tmod 9) = (q : Int) ∧ q < 9 := by
    refine ⟨(IntKind.u64.wrap bl % 9).toNat, ?_, by omega⟩
    rw [hm, wr64 (by omega)]; omega
  have hql := quo_len n V L hn hl
  refine wbk0 t0 t1 t2 n V L bl q h1 hn hl h2 hq hq9 ?_
  suffices z : ∀ (k i : Nat), i + k = q → RunsTo Tryd.prog 6 (headOf Tryd.f6 0) (envAt Tryd.f6.ntmps ([(0, vL 100 2 n), (5, vS (blkB i ++ quoI n V L)), (6, vN (q : Nat)), (26, vN (q : Nat)), (27, vN (i : Nat))])) (Sx.look (wbS t0 t1 t2 ++ prX 100 n V L ++ ([]))) 110 (YES) (Sx.look []) 30000 from z q 0 (by omega)
  intro k
  induction k with
  | zero =>
    intro i hi
    have e : i = q := by omega
    subst e
    by_cases h : 3900 < (blkB i ++ quoI n V L).length
    · exact wbk4 t0 t1 t2 n V L bl i i _ rfl h
    obtain ⟨hok, hf⟩ := rgt_plain h2
    have hbl := blk_len i
    have hlen : (blkB i ++ quoI n V L).length ≤ 3900 := by omega
    have hw : (blkB i ++ quoI n V L) ++ behB = blkB i ++ (34 :: (bodyL false (pcsOf n V L) ++ 34 :: behB)) := by
      rw [quo_body]; simp
    have hs := split_quoted (blkB i) (pcsOf n V L) (blk_bl i) hok hf behB (by decide) (by
      rw [← hw, List.length_append]; have : behB.length = 9 := rfl; omega)
    rw [← hw, hbl] at hs
    refine wbk5 t0 t1 t2 n V L bl i i _ [⟨3, [], 0, pcsOf n V L, i⟩] rfl hq9 hn hlen (by rw [hs]) (by rw [hs]) rfl rfl rfl rfl rfl (pcsOf_len _ _ _) ?_
    refine List.all_eq_true.2 fun j hj => ?_
    have hj := List.mem_range.1 hj
    have hp := pr_isb (V := V) (L := L) hj
    exact decide_eq_true ⟨hp.1, hp.2⟩
  | succ k ih =>
    intro i hi
    exact wbk3 t0 t1 t2 n V L bl q i _ (by omega) hq9 (by rw [List.length_append, blk_len]; omega) (ih (i + 1) (by omega))

end Go.Proofs.YtaleenklamognaaDoor

set_option maxRecDepth 100000
set_option linter.unusedSimpArgs false
set_option linter.unusedVariables false
namespace Go.Proofs.YtaleenklamognaaDoor
open Go.ChangeShapes Go.WideShapes Go.ChangeAt Go.RowKit
open Go.Sx

theorem wordsBack_sh : shsOf Tryd.prog Tryd.f6.params.toList = some [.sl (.tc .ks (.tc .ks .t0)), .ki .i64] := by kernel_rfl

theorem wordsBack_star : "*" ++ "errors.errorString" = "*errors.errorString" := by decide
theorem wordsBack_row (u : TypeId) (h : Tryd.prog.typeName? 3 u = some "*errors.errorString") : u = 213 :=
  typeName_ptr_named (nm := "errors.errorString") (by rw [wordsBack_star]; kernel_rfl) (by kernel_rfl) (by decide) u (by rw [wordsBack_star]; exact h)

theorem wordsBack_errTy : ErrTy Tryd.prog "*errors.errorString" 25 213 215 9 := errTy_of (by kernel_rfl) wordsBack_row (by kernel_rfl) (by kernel_rfl) (by kernel_rfl) (by kernel_rfl) (by kernel_rfl)

theorem wordsBack_own : ownKnob Tryd.prog.godebug = none := by kernel_rfl
theorem wordsBack_met (os : Os) (args : Array Value) : laidMetH Tryd.prog Rows.wordsBackRow.laid ((World.laidAll Tryd.prog os Rows.wordsBackRow.laid).forCall (fun _ _ => 0) ⟨#[], args, []⟩).memory := by
  rw [MakeChecks.laidMetH_plain _ _ _ (by kernel_rfl)]; exact laidMet_laidAll _ (by kernel_rfl) (by kernel_rfl)
theorem wordsBack_plain (w : World) : laidMetH Tryd.prog Rows.wordsBackRow.laid w = laidMet Tryd.prog Rows.wordsBackRow.laid w := MakeChecks.laidMetH_plain _ _ _ (by kernel_rfl)

def wordsBack_texts : List (Nat × List UInt8) := [(5, [115, 111, 109, 101, 116, 104, 105, 110, 103, 32, 105, 115, 32, 109, 105, 115, 115, 105, 110, 103, 32, 97, 116, 32, 116, 104, 101, 32, 101, 110, 100]), (0, [116, 104, 101, 114, 101, 32, 105, 115, 32, 109, 111, 114, 101, 32, 116, 104, 97, 110, 32, 109, 97, 121, 32, 98, 101]), (6, [105, 116, 32, 105, 115, 32, 110, 111, 116, 32, 111, 102, 32, 105, 116, 115, 32, 102, 111, 114, 109])]
theorem wordsBack_sent : sentOf Tryd.prog "*errors.errorString" Rows.wordsBackRow.laid = some wordsBack_texts := by kernel_rfl

theorem wordsBack_readable : ∀ t ∈ Tryd.f6.params.toList, Tryd.prog.readableRec t = true ∧ t < Tryd.prog.types.size := by
  have h : (Tryd.f6.params.toList.all fun t => Tryd.prog.readableRec t && decide (t < Tryd.prog.types.size)) = true := by kernel_rfl
  intro t ht
  have := List.all_eq_true.1 h t ht
  simpa using this

theorem wordsBack_wants : ∀ t ∈ Tryd.f6.params.toList, Tryd.prog.wantsStandIn t = false := by
  have h : (Tryd.f6.params.toList.all fun t => !Tryd.prog.wantsStandIn t) = true := by kernel_rfl
  intro t ht
  have := List.all_eq_true.1 h t ht
  simpa using this

theorem wordsBack_lifted (os : Os) (started : os.Started) (H : Type) (enc : TypeId × Value → H) :
    ReturnsInHanded {} Tryd.checked os 6 .any (fun w args => (Rows.wordsBackSpec.pre enc Tryd.prog Tryd.f6 [] false w args ∧ laidMetH Tryd.prog Rows.wordsBackRow.laid w) ∧ sizedMet enc Tryd.prog Tryd.f6 (OpenSpec.ofChange Rows.wordsBackSpec) false w args)
      (Rows.wordsBackSpec.post enc Tryd.prog Tryd.f6 false true false false) := by
  refine returnsInHanded_of_change_and (C := Tryd.checked) (X := fun w _ => laidMetH Tryd.prog Rows.wordsBackRow.laid w) (fun _ _ _ hh h => h.of_heap hh) wordsBack_own started (by kernel_rfl) Tryd.func6
    (ChangeSpec.witness_shaped (enc := enc) (C := Tryd.checked) (os := os) (X := fun w _ => laidMetH Tryd.prog Rows.wordsBackRow.laid w) false (World.laidAll Tryd.prog os Rows.wordsBackRow.laid) #[.slice none 0 0, .int .i64 0] 8 (World.laidAll_os _ _ _) (World.shaped_of_ZipB (by kernel_rfl) (by kernel_rfl)) (by kernel_rfl) (by kernel_rfl) (by kernel_rfl) (wordsBack_met os _)) ?_
  intro W base args ds gs before hval hW _ _ hL _
  have hW' := hW
  obtain ⟨p, q, hA, hV, rfl, hfz, hnd⟩ := hW
  obtain ⟨rfl, rfl⟩ := trodVars_none hV
  rw [wordsBack_plain] at hL
  obtain ⟨s1, s2, s3⟩ := sents_open wordsBack_errTy hL wordsBack_sent (by kernel_rfl)
  have hG : Tryd.prog.globals.size = 23 := by kernel_rfl
  rw [hG] at s2 s3
  have g3 : ds.length = 2 := (args_open wordsBack_sh hA (fun j t v h1 h2 => hval j t v (by rw [← Array.getElem?_toList]; exact h1) (by rw [← Array.getElem?_toList]; exact h2))).2.2.1
  match ds, g3 with
  | [d1, d2], _ =>
    refine (law_calls Tryd.func6 (body := bodyOf Tryd.f6) (by kernel_rfl) wordsBack_sh hA hval (lab := 100) (n := 110) (n' := 30000) (L' := Sx.look []) gtopP s1 s2 (fun e he => ?_) (fun cs hcs hIs => ?_)).mono fun e W' ⟨he, hB⟩ => ⟨_, he, law_post (bt := 4) (by kernel_rfl) wordsBack_readable rfl (by kernel_rfl) (by kernel_rfl) hW' rfl hB⟩
    · obtain ⟨a1, a2, a3⟩ := s3 e he
      exact ⟨a1, Nat.lt_of_lt_of_le a2 gtopP, fun l hl => Nat.lt_of_lt_of_le (a3 l hl) gtopP⟩
    · clear hcs
      refine RunsTo.start (cargs := [.v (.vl 100 (fun _ => 0) 2 [] (fun _ => lenOf (Go.Sx.rd0 cs [] 0))), .v (.vi .i64 fun _ => (Sx.intOf (Go.Sx.rd0 cs [] 1)))]) ?_ ⟨⟨rfl, rfl⟩, rfl, trivial⟩
      exact wordsBack_law _ _ _ (lenOf (Go.Sx.rd0 cs [] 0)) _ _ (Sx.intOf (Go.Sx.rd0 cs [] 1))

theorem wordsBack_holds : Rows.WordsBackSaid :=
  OpenClaim.holds_of_wide 6 Tryd.f6 rfl rfl rfl rfl rfl rfl rfl ⟨rfl, rfl, rfl, rfl, rfl⟩ rfl rfl rfl rfl rfl (by kernel_rfl) Tryd.func6 (by kernel_rfl)
    (of_decide_eq_true (by kernel_rfl)) (by unfold Func.isWrapper; first | (rw [if_pos (by decide +kernel)]; kernel_rfl) | (rw [if_neg (by decide +kernel)]; exact ⟨rfl, rfl⟩))
    (fun os started H enc _ => wordsBack_lifted os started H enc)

theorem wordsBack_card_holds : Rows.WordsBackCardSaid :=
  Claim7.holds_tied_plain_at .later [] [.sentinel, .sentinel, .sentinel] true (true, "adce2fd5dd0887f6362622a91578a8c9f336eace8c67ecf4b186e5f5f59c33e1") true
    wordsBack_holds (fun _ h => by cases h) (by kernel_rfl) (fun _ h => by cases h) wordsBack_row_tie rfl ⟨rfl, rfl⟩ (by kernel_rfl) rfl
    (fun f fn hf hfn => by
      obtain rfl : f = 6 := Option.some.inj ((show Tryd.prog.funcNamed "truchman/truchmanlaw30.WordsBack" = some 6 by kernel_rfl).symm.trans hf) |>.symm
      obtain rfl : fn = Tryd.f6 := (Option.some.inj (Tryd.func6.symm.trans hfn)).symm
      exact ⟨by kernel_rfl, fun j t ht => wordsBack_wants t (List.mem_of_getElem? (by rw [Array.getElem?_toList]; exact ht))⟩)
    (by kernel_rfl)
end Go.Proofs.YtaleenklamognaaDoor

