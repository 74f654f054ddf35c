/- Words: the law WordsSplits, joined. -/
import Derived.Test.YtaleenklamognaaDoorUaC
import Derived.Test.YtaleenklamognaaDoorUdC
import Derived.Test.YtaleenklamognaaDoorSyY
import Derived.Test.YtaleenklamognaaDoorSyPl
import Derived.Lay
import Derived.Test.YtaleenklamognaaDoorTie
import Derived.Test.YtaleenklamognaaDoorCards
set_option linter.unusedSimpArgs false
set_option linter.unusedVariables false
set_option maxRecDepth 100000
namespace Go.Proofs.YtaleenklamognaaDoor
open Go.Sx WordR

theorem text_fits : ∀ (f : Nat) (l : List UInt8) (P : List Pc) (n : Nat) {t : Wt} {m : Nat}, fitsP P = true → textR f l P n = .ok t m → fitsP t.ps = true
  | 0, l, P, n, t, m, _, h => by cases h
  | f + 1, [], P, n, t, m, _, h => by cases h
  | f + 1, c :: r, P, n, t, m, hp, h => by
    rw [textR] at h
    split at h
    · injection h with h1 h2; rw [← h1]; exact hp
    · split at h
      · cases h
      · split at h
        · rename_i hf; exact text_fits f _ _ _ hf h
        · cases h
      · split at h
        · rename_i hf; exact text_fits f _ _ _ hf h
        · cases h
theorem tok_ps {l : List UInt8} {t : Wt} {n : Nat} (h : tokR l = .ok t n) : t.ps.length ≤ 40 := by
  cases l with
  | nil => cases h
  | cons c r =>
    rw [tokR] at h
    split at h
    · injection h with h1 h2; rw [← h1]; decide
    · split at h
      · rw [nameR] at h
        split at h
        · cases h
        · injection h with h1 h2; rw [← h1]; exact Nat.zero_le _
      · split at h
        · rw [number_ok h]; exact Nat.zero_le _
        · split at h
          · have := text_fits _ _ _ _ rfl h
            unfold fitsP at this
            simp only [Bool.and_eq_true, decide_eq_true_eq] at this
            exact this.1
          · rw [sign_ok h]; exact Nat.zero_le _
theorem split_all : ∀ (f a : Nat) (l : List UInt8), ((splitR f a l).1.length ≤ l.length ∧ ∀ t ∈ (splitR f a l).1, t.ps.length ≤ 40) ∧ ((splitR f a l).2.2 = 0 ∨ (splitR f a l).2.2 = 3 ∨ (splitR f a l).2.2 = 4 ∨ (splitR f a l).2.2 = 5)
  | 0, a, l => by simp [splitR]
  | f + 1, a, l => by
    rw [splitR]
    cases hl : l.drop (gapR false l) with
    | nil => simp
    | cons c r =>
      simp only
      cases hz : tokR (c :: r) with
      | err e =>
        simp only
        have := tok_e hz
        refine ⟨by simp, ?_⟩
        omega
      | ok t n =>
        simp only
        have hn := tok_n _ hz
        have ih := split_all f (a + gapR false l + n) ((c :: r).drop n)
        have hlen : (c :: r).length ≤ l.length := by rw [← hl, List.length_drop]; omega
        cases hr : splitR f (a + gapR false l + n) ((c :: r).drop n) with
        | mk T pe =>
          obtain ⟨p, e⟩ := pe
          rw [hr] at ih
          simp only [List.length_drop] at ih
          cases e with
          | zero =>
            simp only
            refine ⟨⟨by simp only [List.length_cons] at hn hlen ih ⊢; omega, fun t' ht => ?_⟩, .inl trivial⟩
            rcases List.mem_cons.1 ht with e | e
            · rw [e]; exact tok_ps (t := t) hz
            · exact ih.1.2 t' e
          | succ e => exact ⟨by simp, ih.2⟩
theorem wordsSplits_law (t0 t1 t2 t3 t4 t5 t6 t7 t8 t9 t10 t11 t12 t13 t14 t15 s : List UInt8) : RunsTo Tryd.prog 3 [.code (bodyOf Tryd.f3)] (envOf [vS s] Tryd.f3.ntmps) (Sx.look (wsS t0 t1 t2 t3 t4 t5 t6 t7 t8 t9 t10 t11 t12 t13 t14 t15 ++ ([]))) 110 (YES) (Sx.look []) 30000 := by
  by_cases h5 : 5000 < s.length
  · exact wsLong t0 t1 t2 t3 t4 t5 t6 t7 t8 t9 t10 t11 t12 t13 t14 t15 s h5
  have h5 : s.length ≤ 5000 := by omega
  have hall : ((splitS s).1.length ≤ s.length ∧ ∀ t ∈ (splitS s).1, t.ps.length ≤ 40) ∧ ((splitS s).2.2 = 0 ∨ (splitS s).2.2 = 3 ∨ (splitS s).2.2 = 4 ∨ (splitS s).2.2 = 5) := by
    unfold splitS
    split
    · simp
    · exact split_all _ _ _
  rcases hall.2 with he | he | he | he
  · have hT := hall.1
    generalize hTT : (splitS s).1 = T at hT
    refine wsOk t0 t1 t2 t3 t4 t5 t6 t7 t8 t9 t10 t11 t12 t13 t14 t15 s T h5 he hTT ?_
    suffices q : ∀ (k i : Nat), i + k = T.length → RunsTo Tryd.prog 3 (headOf Tryd.f3 0) (envAt Tryd.f3.ntmps ([(6, vL 123 5 T.length), (45, vL 121 5 T.length), (46, vN T.length), (47, vN (i : Nat))])) (Sx.look (wsS t0 t1 t2 t3 t4 t5 t6 t7 t8 t9 t10 t11 t12 t13 t14 t15 ++ (wtE 121 122 T ++ wtE 123 124 T))) 110 (YES) (Sx.look []) 30000 from q T.length 0 (by omega)
    intro k
    induction k with
    | zero => intro i hi; exact wsEnd t0 t1 t2 t3 t4 t5 t6 t7 t8 t9 t10 t11 t12 t13 t14 t15 s T i (by omega)
    | succ k ih =>
      intro i hi
      have hps : wL T [i] ≤ 40 := by
        simp only [wL, List.headD]
        rw [List.getD_eq_getElem?_getD, List.getElem?_eq_getElem (show i < T.length by omega), Option.getD_some]
        exact hT.2 _ (List.getElem_mem _)
      refine wsR t0 t1 t2 t3 t4 t5 t6 t7 t8 t9 t10 t11 t12 t13 t14 t15 s T i (by omega) (by omega) (by omega) ?_ (ih (i + 1) (by omega))
      refine List.all_eq_true.2 fun j hj => decide_eq_true ?_
      have hj := List.mem_range.1 hj
      rw [pcsOf_len] at hj
      have e := pcsOf_at (fun js => gpV T (wM T [i] :: js)) (fun js => gpT T (wM T [i] :: js)) hj
      simp only [prV, prL, List.headD, e, and_self]
  · exact wsESh t0 t1 t2 t3 t4 t5 t6 t7 t8 t9 t10 t11 t12 t13 t14 t15 s h5 he
  · exact wsELo t0 t1 t2 t3 t4 t5 t6 t7 t8 t9 t10 t11 t12 t13 t14 t15 s h5 he
  · exact wsEFo t0 t1 t2 t3 t4 t5 t6 t7 t8 t9 t10 t11 t12 t13 t14 t15 s h5 he
end Go.Proofs.YtaleenklamognaaDoor

set_option maxRecDepth 100000
set_option linter.unusedSimpArgs false
set_option linter.unusedVariables false
namespace Go.Proofs.YtaleenklamognaaDoor
open Go.ChangeShapes Go.WideShapes Go.ChangeAt Go.RowKit
open Go.Sx

theorem wordsSplits_sh : shsOf Tryd.prog Tryd.f3.params.toList = some [.ks] := by kernel_rfl

theorem wordsSplits_star : "*" ++ "errors.errorString" = "*errors.errorString" := by decide
theorem wordsSplits_row (u : TypeId) (h : Tryd.prog.typeName? 3 u = some "*errors.errorString") : u = 213 :=
  typeName_ptr_named (nm := "errors.errorString") (by rw [wordsSplits_star]; kernel_rfl) (by kernel_rfl) (by decide) u (by rw [wordsSplits_star]; exact h)

theorem wordsSplits_errTy : ErrTy Tryd.prog "*errors.errorString" 25 213 215 9 := errTy_of (by kernel_rfl) wordsSplits_row (by kernel_rfl) (by kernel_rfl) (by kernel_rfl) (by kernel_rfl) (by kernel_rfl)

theorem wordsSplits_own : ownKnob Tryd.prog.godebug = none := by kernel_rfl
theorem wordsSplits_met (os : Os) (args : Array Value) : laidMetH Tryd.prog Rows.wordsSplitsRow.laid ((World.laidAll Tryd.prog os Rows.wordsSplitsRow.laid).forCall (fun _ _ => 0) ⟨#[], args, []⟩).memory := by
  rw [MakeChecks.laidMetH_plain _ _ _ (by kernel_rfl)]; exact laidMet_laidAll _ (by kernel_rfl) (by kernel_rfl)
theorem wordsSplits_plain (w : World) : laidMetH Tryd.prog Rows.wordsSplitsRow.laid w = laidMet Tryd.prog Rows.wordsSplitsRow.laid w := MakeChecks.laidMetH_plain _ _ _ (by kernel_rfl)

def wordsSplits_texts : List (Nat × List UInt8) := [(4, [97, 32, 110, 117, 109, 98, 101, 114, 32, 105, 115, 32, 111, 117, 116, 32, 111, 102, 32, 105, 116, 115, 32, 114, 97, 110, 103, 101]), (3, [116, 104, 101, 114, 101, 32, 105, 115, 32, 110, 111, 32, 109, 111, 114, 101, 32, 114, 111, 111, 109]), (5, [115, 111, 109, 101, 116, 104, 105, 110, 103, 32, 105, 115, 32, 109, 105, 115, 115, 105, 110, 103, 32, 97, 116, 32, 116, 104, 101, 32, 101, 110, 100]), (0, [116, 104, 101, 114, 101, 32, 105, 115, 32, 109, 111, 114, 101, 32, 116, 104, 97, 110, 32, 109, 97, 121, 32, 98, 101]), (6, [105, 116, 32, 105, 115, 32, 110, 111, 116, 32, 111, 102, 32, 105, 116, 115, 32, 102, 111, 114, 109]), (2, [116, 104, 101, 114, 101, 32, 105, 115, 32, 110, 111, 32, 115, 117, 99, 104, 32, 110, 97, 109, 101]), (7, [116, 104, 101, 114, 101, 32, 105, 115, 32, 110, 111, 110, 101]), (8, [105, 116, 32, 105, 115, 32, 116, 104, 101, 114, 101, 32, 97, 108, 114, 101, 97, 100, 121]), (9, [105, 116, 32, 105, 115, 32, 111, 102, 32, 97, 110, 111, 116, 104, 101, 114, 32, 107, 105, 110, 100]), (10, [105, 116, 32, 99, 97, 110, 32, 110, 111, 116, 32, 98, 101, 32, 100, 111, 110, 101, 32, 105, 110, 32, 116, 104, 105, 115, 32, 115, 116, 97, 116, 101]), (11, [105, 116, 32, 103, 111, 101, 115, 32, 116, 111, 111, 32, 100, 101, 101, 112]), (12, [116, 104, 101, 32, 102, 117, 101, 108, 32, 105, 115, 32, 115, 112, 101, 110, 116]), (13, [116, 104, 101, 114, 101, 32, 97, 114, 101, 32, 116, 111, 111, 32, 109, 97, 110, 121, 32, 99, 97, 108, 108, 115, 32, 119, 105, 116, 104, 105, 110, 32, 111, 110, 101, 32, 97, 110, 111, 116, 104, 101, 114]), (14, [105, 116, 32, 105, 115, 32, 99, 108, 111, 115, 101, 100]), (15, [105, 116, 32, 119, 111, 117, 108, 100, 32, 109, 97, 116, 99, 104, 32, 110, 111, 116, 104, 105, 110, 103, 32, 97, 116, 32, 97, 108, 108]), (1, [116, 104, 101, 32, 116, 101, 120, 116, 32, 105, 115, 32, 110, 111, 32, 110, 117, 109, 98, 101, 114])]
theorem wordsSplits_sent : sentOf Tryd.prog "*errors.errorString" Rows.wordsSplitsRow.laid = some wordsSplits_texts := by kernel_rfl

theorem wordsSplits_readable : ∀ t ∈ Tryd.f3.params.toList, Tryd.prog.readableRec t = true ∧ t < Tryd.prog.types.size := by
  have h : (Tryd.f3.params.toList.all fun t => Tryd.prog.readableRec t && decide (t < Tryd.prog.types.size)) = true := by kernel_rfl
  intro t ht
  have := List.all_eq_true.1 h t ht
  simpa using this

theorem wordsSplits_wants : ∀ t ∈ Tryd.f3.params.toList, Tryd.prog.wantsStandIn t = false := by
  have h : (Tryd.f3.params.toList.all fun t => !Tryd.prog.wantsStandIn t) = true := by kernel_rfl
  intro t ht
  have := List.all_eq_true.1 h t ht
  simpa using this

theorem wordsSplits_lifted (os : Os) (started : os.Started) (H : Type) (enc : TypeId × Value → H) :
    ReturnsInHanded {} Tryd.checked os 3 .any (fun w args => (Rows.wordsSplitsSpec.pre enc Tryd.prog Tryd.f3 [] false w args ∧ laidMetH Tryd.prog Rows.wordsSplitsRow.laid w) ∧ sizedMet enc Tryd.prog Tryd.f3 (OpenSpec.ofChange Rows.wordsSplitsSpec) false w args)
      (Rows.wordsSplitsSpec.post enc Tryd.prog Tryd.f3 false true false false) := by
  refine returnsInHanded_of_change_and (C := Tryd.checked) (X := fun w _ => laidMetH Tryd.prog Rows.wordsSplitsRow.laid w) (fun _ _ _ hh h => h.of_heap hh) wordsSplits_own started (by kernel_rfl) Tryd.func3
    (ChangeSpec.witness_shaped (enc := enc) (C := Tryd.checked) (os := os) (X := fun w _ => laidMetH Tryd.prog Rows.wordsSplitsRow.laid w) false (World.laidAll Tryd.prog os Rows.wordsSplitsRow.laid) #[.string ⟨#[]⟩] 8 (World.laidAll_os _ _ _) (World.shaped_of_ZipB (by kernel_rfl) (by kernel_rfl)) (by kernel_rfl) (by kernel_rfl) (by kernel_rfl) (wordsSplits_met os _)) ?_
  intro W base args ds gs before hval hW _ _ hL _
  have hW' := hW
  obtain ⟨p, q, hA, hV, rfl, hfz, hnd⟩ := hW
  obtain ⟨rfl, rfl⟩ := trodVars_none hV
  rw [wordsSplits_plain] at hL
  obtain ⟨s1, s2, s3⟩ := sents_open wordsSplits_errTy hL wordsSplits_sent (by kernel_rfl)
  have hG : Tryd.prog.globals.size = 23 := by kernel_rfl
  rw [hG] at s2 s3
  have g3 : ds.length = 1 := (args_open wordsSplits_sh hA (fun j t v h1 h2 => hval j t v (by rw [← Array.getElem?_toList]; exact h1) (by rw [← Array.getElem?_toList]; exact h2))).2.2.1
  match ds, g3 with
  | [d1], _ =>
    refine (law_calls Tryd.func3 (body := bodyOf Tryd.f3) (by kernel_rfl) wordsSplits_sh hA hval (lab := 100) (n := 110) (n' := 30000) (L' := Sx.look []) gtopP s1 s2 (fun e he => ?_) (fun cs hcs hIs => ?_)).mono fun e W' ⟨he, hB⟩ => ⟨_, he, law_post (bt := 4) (by kernel_rfl) wordsSplits_readable rfl (by kernel_rfl) (by kernel_rfl) hW' rfl hB⟩
    · obtain ⟨a1, a2, a3⟩ := s3 e he
      exact ⟨a1, Nat.lt_of_lt_of_le a2 gtopP, fun l hl => Nat.lt_of_lt_of_le (a3 l hl) gtopP⟩
    · clear hcs
      refine RunsTo.start (cargs := [.v (.vs fun _ => (Sx.strOf (Go.Sx.rd0 cs [] 0)))]) ?_ ⟨rfl, trivial⟩
      exact wordsSplits_law _ _ _ _ _ _ _ _ _ _ _ _ _ _ _ _ (Sx.strOf (Go.Sx.rd0 cs [] 0))

theorem wordsSplits_holds : Rows.WordsSplitsSaid :=
  OpenClaim.holds_of_wide 3 Tryd.f3 rfl rfl rfl rfl rfl rfl rfl ⟨rfl, rfl, rfl, rfl, rfl⟩ rfl rfl rfl rfl rfl (by kernel_rfl) Tryd.func3 (by kernel_rfl)
    (of_decide_eq_true (by kernel_rfl)) (by unfold Func.isWrapper; first | (rw [if_pos (by decide +kernel)]; kernel_rfl) | (rw [if_neg (by decide +kernel)]; exact ⟨rfl, rfl⟩))
    (fun os started H enc _ => wordsSplits_lifted os started H enc)

theorem wordsSplits_card_holds : Rows.WordsSplitsCardSaid :=
  Claim7.holds_tied_plain_at .later [] [.sentinel, .sentinel, .sentinel, .sentinel, .sentinel, .sentinel, .sentinel, .sentinel, .sentinel, .sentinel, .sentinel, .sentinel, .sentinel, .sentinel, .sentinel, .sentinel] true (true, "adce2fd5dd0887f6362622a91578a8c9f336eace8c67ecf4b186e5f5f59c33e1") true
    wordsSplits_holds (fun _ h => by cases h) (by kernel_rfl) (fun _ h => by cases h) wordsSplits_row_tie rfl ⟨rfl, rfl⟩ (by kernel_rfl) rfl
    (fun f fn hf hfn => by
      obtain rfl : f = 3 := Option.some.inj ((show Tryd.prog.funcNamed "truchman/truchmanlaw30.WordsSplits" = some 3 by kernel_rfl).symm.trans hf) |>.symm
      obtain rfl : fn = Tryd.f3 := (Option.some.inj (Tryd.func3.symm.trans hfn)).symm
      exact ⟨by kernel_rfl, fun j t ht => wordsSplits_wants t (List.mem_of_getElem? (by rw [Array.getElem?_toList]; exact ht))⟩)
    (by kernel_rfl)
end Go.Proofs.YtaleenklamognaaDoor

