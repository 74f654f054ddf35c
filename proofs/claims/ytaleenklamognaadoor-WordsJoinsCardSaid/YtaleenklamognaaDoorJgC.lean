/- Words: the law WordsJoins, joined. -/
import Derived.Test.YtaleenklamognaaDoorJfC
import Derived.Test.YtaleenklamognaaDoorSyY
import Derived.Test.YtaleenklamognaaDoorSyPl
import Derived.Lay
import Derived.Test.YtaleenklamognaaDoorTie
import Derived.Test.YtaleenklamognaaDoorCards
set_option linter.unusedSimpArgs false
set_option linter.unusedVariables false
set_option maxRecDepth 100000
namespace Go.Proofs.YtaleenklamognaaDoor
open Go.Sx WordR

theorem text_fits : ∀ (f : Nat) (l : List UInt8) (P : List Pc) (n : Nat) {t : Wt} {m : Nat}, fitsP P = true → textR f l P n = .ok t m → fitsP t.ps = true
  | 0, l, P, n, t, m, _, h => by cases h
  | f + 1, [], P, n, t, m, _, h => by cases h
  | f + 1, c :: r, P, n, t, m, hp, h => by
    rw [textR] at h
    split at h
    · injection h with h1 h2; rw [← h1]; exact hp
    · split at h
      · cases h
      · split at h
        · rename_i hf; exact text_fits f _ _ _ hf h
        · cases h
      · split at h
        · rename_i hf; exact text_fits f _ _ _ hf h
        · cases h
theorem tok_ps {l : List UInt8} {t : Wt} {n : Nat} (h : tokR l = .ok t n) : t.ps.length ≤ 40 := by
  cases l with
  | nil => cases h
  | cons c r =>
    rw [tokR] at h
    split at h
    · injection h with h1 h2; rw [← h1]; decide
    · split at h
      · rw [nameR] at h
        split at h
        · cases h
        · injection h with h1 h2; rw [← h1]; exact Nat.zero_le _
      · split at h
        · rw [number_ok h]; exact Nat.zero_le _
        · split at h
          · have := text_fits _ _ _ _ rfl h
            unfold fitsP at this
            simp only [Bool.and_eq_true, decide_eq_true_eq] at this
            exact this.1
          · rw [sign_ok h]; exact Nat.zero_le _
theorem split_all : ∀ (f a : Nat) (l : List UInt8), (((splitR f a l).1.length ≤ l.length ∧ ∀ t ∈ (splitR f a l).1, t.ps.length ≤ 40 ∧ t.pos ≤ a + l.length) ∧ ((splitR f a l).2.2 = 0 ∨ (splitR f a l).2.2 = 3 ∨ (splitR f a l).2.2 = 4 ∨ (splitR f a l).2.2 = 5)) ∧ (splitR f a l).2.1 ≤ a + l.length ∧ ((splitR f a l).2.2 = 0 → (splitR f a l).2.1 = 0)
  | 0, a, l => by simp [splitR]
  | f + 1, a, l => by
    have hg := gap_le false l
    rw [splitR]
    cases hl : l.drop (gapR false l) with
    | nil => simp
    | cons c r =>
      have hlen : (c :: r).length = l.length - gapR false l := by rw [← hl, List.length_drop]
      simp only
      cases hz : tokR (c :: r) with
      | err e =>
        simp only
        have := tok_e hz
        refine ⟨⟨by simp, by omega⟩, by omega, by omega⟩
      | ok t n =>
        simp only
        have hn := tok_n _ hz
        have ih := split_all f (a + gapR false l + n) ((c :: r).drop n)
        cases hr : splitR f (a + gapR false l + n) ((c :: r).drop n) with
        | mk T pe =>
          obtain ⟨p, e⟩ := pe
          rw [hr] at ih
          simp only [List.length_drop] at ih
          cases e with
          | zero =>
            simp only
            refine ⟨⟨⟨by simp only [List.length_cons] at hn hlen ih ⊢; omega, fun t' ht => ?_⟩, .inl trivial⟩, by omega, fun _ => ih.2.2 rfl⟩
            rcases List.mem_cons.1 ht with e | e
            · rw [e]; exact ⟨tok_ps (t := t) hz, by simp only; omega⟩
            · have := ih.1.1.2 t' e; exact ⟨this.1, by omega⟩
          | succ e => exact ⟨⟨by simp, ih.1.2⟩, by simp only; omega, fun h => by simp at h⟩
theorem splitS_short {s : List UInt8} (h : s.length ≤ 4000) : splitS s = splitR (s.length + 1) 0 s := by unfold splitS; rw [if_neg (by omega)]
theorem splitS_join {A B : List UInt8} (h : A.length + B.length ≤ 3000) (he : (splitS A).2.2 = 0) : splitS (A ++ [10] ++ B) = joinR (splitS A).1 A.length (splitS B) := by
  rw [splitS_short (s := A) (by omega)] at he ⊢
  rw [splitS_short (s := B) (by omega), show A ++ [10] ++ B = A ++ 10 :: B by simp, splitS_short (by simp; omega)]
  have := split_join B (fun hh => (split_all _ _ _).2.2 hh) (A.length + 1) 0 A ((A ++ 10 :: B).length + 1) (by omega) (by simp; omega) he
  rw [this, Nat.zero_add]
theorem gp_eq {T Z : List Wt} {i j : Nat} (n : Nat) (hi : i < T.length) (hj : j < Z.length) (h : (T.getD i zW).ps = (Z.getD j zW).ps) : eqPs n (fun js => gpV T (wM T [i] :: js)) (fun js => gpT T (wM T [i] :: js)) (fun js => gpV Z (wM Z [j] :: js)) (fun js => gpT Z (wM Z [j] :: js)) = true := by
  refine List.all_eq_true.2 fun k _ => decide_eq_true ?_
  show ((T.getD (T.length - 1 - (T.length - 1 - i)) zW).ps.getD k zP).var = ((Z.getD (Z.length - 1 - (Z.length - 1 - j)) zW).ps.getD k zP).var ∧ ((T.getD (T.length - 1 - (T.length - 1 - i)) zW).ps.getD k zP).lit = ((Z.getD (Z.length - 1 - (Z.length - 1 - j)) zW).ps.getD k zP).lit
  rw [show T.length - 1 - (T.length - 1 - i) = i by omega, show Z.length - 1 - (Z.length - 1 - j) = j by omega, h]; exact ⟨rfl, rfl⟩
def jn (T U : List Wt) (q : Nat) : List Wt := T ++ ⟨5, [], 0, [], q⟩ :: sh (q + 1) U
theorem jn_len (T U : List Wt) (q : Nat) : (jn T U q).length = T.length + 1 + U.length := by simp [jn, sh]; omega
theorem jn_l {T U : List Wt} {q i : Nat} (h : i < T.length) : (jn T U q).getD i zW = T.getD i zW := by
  simp only [jn, List.getD_eq_getElem?_getD]; rw [List.getElem?_append_left h]
theorem jn_m {T U : List Wt} {q : Nat} : (jn T U q).getD T.length zW = ⟨5, [], 0, [], q⟩ := by
  simp [jn, List.getD_eq_getElem?_getD]
theorem jn_r {T U : List Wt} {q i : Nat} (h : i < U.length) : (jn T U q).getD (T.length + 1 + i) zW = ⟨(U.getD i zW).kind, (U.getD i zW).text, (U.getD i zW).num, (U.getD i zW).ps, (U.getD i zW).pos + (q + 1)⟩ := by
  simp only [jn, sh, List.getD_eq_getElem?_getD]
  rw [List.getElem?_append_right (by omega), show T.length + 1 + i - T.length = i + 1 by omega, List.getElem?_cons_succ, List.getElem?_map, List.getElem?_eq_getElem h]
  rfl
theorem wt_mem {T : List Wt} {i : Nat} (h : i < T.length) : T.getD i zW ∈ T := by
  rw [List.getD_eq_getElem?_getD, List.getElem?_eq_getElem h, Option.getD_some]; exact List.getElem_mem _
theorem wordsJoins_law (t0 t1 t2 t3 t4 t5 t6 t7 t8 t9 t10 t11 t12 t13 t14 t15 A B : List UInt8) (h2 : A.length ≤ 1000000000000000) (h3 : B.length ≤ 1000000000000000) : RunsTo Tryd.prog 4 [.code (bodyOf Tryd.f4)] (envOf [vS A, vS B] Tryd.f4.ntmps) (Sx.look (wsS t0 t1 t2 t3 t4 t5 t6 t7 t8 t9 t10 t11 t12 t13 t14 t15 ++ ([]))) 110 (YES) (Sx.look []) 30000 := by
  by_cases h5 : 3000 < A.length + B.length
  · exact jLong t0 t1 t2 t3 t4 t5 t6 t7 t8 t9 t10 t11 t12 t13 t14 t15 A B h5 h2 h3
  have h5 : A.length + B.length ≤ 3000 := by omega
  have aA := split_all (A.length + 1) 0 A
  rw [← splitS_short (s := A) (by omega)] at aA
  have aB := split_all (B.length + 1) 0 B
  rw [← splitS_short (s := B) (by omega)] at aB
  have aZ := split_all ((A ++ [10] ++ B).length + 1) 0 (A ++ [10] ++ B)
  rw [← splitS_short (s := A ++ [10] ++ B) (by simp; omega)] at aZ
  have jE : ∀ q : List UInt8, RunsTo Tryd.prog 4 (cutOf Tryd.f4 4) (envAt Tryd.f4.ntmps ([(0, vS A), (1, vS B), (7, .v (.ve 213 (.vp 140 (fun _ => 0) [])))])) (Sx.look (wsS t0 t1 t2 t3 t4 t5 t6 t7 t8 t9 t10 t11 t12 t13 t14 t15 ++ ([⟨140, false, none, 1, .tc (.vs fun _ => q) .t0⟩]))) 110 (YES) (Sx.look []) 30000 := by
    intro q
    suffices z : RunsTo Tryd.prog 4 (cutOf Tryd.f4 5) (envAt Tryd.f4.ntmps ([(0, vS A), (1, vS B), (7, .v (.ve 213 (.vp 140 (fun _ => 0) [])))])) (Sx.look (wsS t0 t1 t2 t3 t4 t5 t6 t7 t8 t9 t10 t11 t12 t13 t14 t15 ++ ([⟨140, false, none, 1, .tc (.vs fun _ => q) .t0⟩]))) 110 (YES) (Sx.look []) 30000 by
      rcases aB.1.2 with he | he | he | he
      · exact jE1Ok t0 t1 t2 t3 t4 t5 t6 t7 t8 t9 t10 t11 t12 t13 t14 t15 A B q he z
      · exact jE1Sh t0 t1 t2 t3 t4 t5 t6 t7 t8 t9 t10 t11 t12 t13 t14 t15 A B q he z
      · exact jE1Lo t0 t1 t2 t3 t4 t5 t6 t7 t8 t9 t10 t11 t12 t13 t14 t15 A B q he z
      · exact jE1Fo t0 t1 t2 t3 t4 t5 t6 t7 t8 t9 t10 t11 t12 t13 t14 t15 A B q he z
    rcases aZ.1.2 with he | he | he | he
    · exact jE2Ok t0 t1 t2 t3 t4 t5 t6 t7 t8 t9 t10 t11 t12 t13 t14 t15 A B q h5 he
    · exact jE2Sh t0 t1 t2 t3 t4 t5 t6 t7 t8 t9 t10 t11 t12 t13 t14 t15 A B q h5 he
    · exact jE2Lo t0 t1 t2 t3 t4 t5 t6 t7 t8 t9 t10 t11 t12 t13 t14 t15 A B q h5 he
    · exact jE2Fo t0 t1 t2 t3 t4 t5 t6 t7 t8 t9 t10 t11 t12 t13 t14 t15 A B q h5 he
  rcases aA.1.2 with he | he | he | he
  · have hJ := splitS_join h5 he
    have aT := aA.1.1
    generalize hTT : (splitS A).1 = T at hJ aT
    refine jA t0 t1 t2 t3 t4 t5 t6 t7 t8 t9 t10 t11 t12 t13 t14 t15 A B T h5 he hTT ?_
    have ez : ∀ {p e : Nat} {U : List Wt}, splitS B = (U, p, e + 1) → (splitS (A ++ [10] ++ B)).2.2 = e + 1 ∧ (splitS (A ++ [10] ++ B)).2.1 = p + (A.length + 1) := fun h => by rw [hJ, h]; exact ⟨rfl, rfl⟩
    have hp4 := aB.2.1
    cases hB : splitS B with
    | mk U pe =>
    obtain ⟨p, e⟩ := pe
    have hp : (splitS B).2.1 = p := by rw [hB]
    rcases aB.1.2 with he2 | he2 | he2 | he2
    · have h0 : e = 0 := by rw [hB] at he2; exact he2
      have hU : (splitS B).1 = U := by rw [hB]
      have hp0 : p = 0 := by rw [← hp]; exact aB.2.2 he2
      subst h0
      have aU := aB.1.1
      rw [hU] at aU
      have hZ : splitS (A ++ [10] ++ B) = (jn T U A.length, 0, 0) := by rw [hJ, hB]; rfl
      have hZl := jn_len T U A.length
      have hl := @jn_l T U A.length
      have hm := @jn_m T U A.length
      have hr := @jn_r T U A.length
      refine jB t0 t1 t2 t3 t4 t5 t6 t7 t8 t9 t10 t11 t12 t13 t14 t15 A B T U he2 hU ?_
      generalize hZZ : jn T U A.length = Z at hZ hZl hl hm hr
      refine jC t0 t1 t2 t3 t4 t5 t6 t7 t8 t9 t10 t11 t12 t13 t14 t15 A B T U Z h5 (by rw [hZ]) (by rw [hZ]) ?_
      refine jD t0 t1 t2 t3 t4 t5 t6 t7 t8 t9 t10 t11 t12 t13 t14 t15 A B T U Z hZl (by omega) (by omega) (by show ((Z.getD T.length zW).kind : Int) = 5; rw [hm]; rfl) ?_
      have w1 : RunsTo Tryd.prog 4 (headOf Tryd.f4 1) (envAt Tryd.f4.ntmps ([(0, vS A), (5, vL 121 5 T.length), (11, vL 125 5 Z.length), (118, vL 123 5 U.length), (119, vN U.length), (120, vN (0 : Nat))])) (Sx.look (wsS t0 t1 t2 t3 t4 t5 t6 t7 t8 t9 t10 t11 t12 t13 t14 t15 ++ (wtE 121 122 T ++ (wtE 123 124 U ++ wtE 125 126 Z)))) 110 (YES) (Sx.look []) 30000 := by
        suffices q : ∀ (k i : Nat), i + k = U.length → RunsTo Tryd.prog 4 (headOf Tryd.f4 1) (envAt Tryd.f4.ntmps ([(0, vS A), (5, vL 121 5 T.length), (11, vL 125 5 Z.length), (118, vL 123 5 U.length), (119, vN U.length), (120, vN (i : Nat))])) (Sx.look (wsS t0 t1 t2 t3 t4 t5 t6 t7 t8 t9 t10 t11 t12 t13 t14 t15 ++ (wtE 121 122 T ++ (wtE 123 124 U ++ wtE 125 126 Z)))) 110 (YES) (Sx.look []) 30000 from q U.length 0 (by omega)
        intro k
        induction k with
        | zero => intro i hi; exact jEnd t0 t1 t2 t3 t4 t5 t6 t7 t8 t9 t10 t11 t12 t13 t14 t15 A B T U Z i (by omega)
        | succ k ih =>
          intro i hi
          have hi' : i < U.length := by omega
          have hmem := aU.2 _ (wt_mem hi')
          have hz := hr hi'
          refine jR1 t0 t1 t2 t3 t4 t5 t6 t7 t8 t9 t10 t11 t12 t13 t14 t15 A B T U Z i hi' (by omega) (by omega) (by omega) (by omega) (by omega) (Int.natCast_nonneg _) (by show ((U.getD i zW).pos : Int) ≤ 4000; omega) (by show ((Z.getD (T.length + 1 + i) zW).pos : Int) = ((U.getD i zW).pos : Int) + (A.length : Int) + 1; rw [hz]; simp only; omega)
            (by show ((U.getD i zW).kind : Int) = ((Z.getD (T.length + 1 + i) zW).kind : Int); rw [hz]) (by show (U.getD i zW).text = (Z.getD (T.length + 1 + i) zW).text; rw [hz]) (by show (U.getD i zW).num = (Z.getD (T.length + 1 + i) zW).num; rw [hz]) (by show (U.getD i zW).ps.length = (Z.getD (T.length + 1 + i) zW).ps.length; rw [hz]) (by show (Z.getD (T.length + 1 + i) zW).ps.length ≤ 1000; rw [hz]; simp only; omega)
            (gp_eq _ hi' (by omega) (by rw [hz])) (ih (i + 1) (by omega))
      suffices q : ∀ (k i : Nat), i + k = T.length → RunsTo Tryd.prog 4 (headOf Tryd.f4 0) (envAt Tryd.f4.ntmps ([(0, vS A), (5, vL 121 5 T.length), (8, vL 123 5 U.length), (11, vL 125 5 Z.length), (93, vL 121 5 T.length), (94, vN T.length), (95, vN (i : Nat))])) (Sx.look (wsS t0 t1 t2 t3 t4 t5 t6 t7 t8 t9 t10 t11 t12 t13 t14 t15 ++ (wtE 121 122 T ++ (wtE 123 124 U ++ wtE 125 126 Z)))) 110 (YES) (Sx.look []) 30000 from q T.length 0 (by omega)
      intro k
      induction k with
      | zero => intro i hi; exact jM t0 t1 t2 t3 t4 t5 t6 t7 t8 t9 t10 t11 t12 t13 t14 t15 A B T U Z i (by omega) w1
      | succ k ih =>
        intro i hi
        have hi' : i < T.length := by omega
        have hmem := aT.2 _ (wt_mem hi')
        have hz := hl hi'
        refine jR0 t0 t1 t2 t3 t4 t5 t6 t7 t8 t9 t10 t11 t12 t13 t14 t15 A B T U Z i hi' (by omega) (by omega) (by omega) (by omega) (by omega) (by show ((T.getD i zW).pos : Int) = ((Z.getD i zW).pos : Int); rw [hz])
          (by show ((T.getD i zW).kind : Int) = ((Z.getD i zW).kind : Int); rw [hz]) (by show (T.getD i zW).text = (Z.getD i zW).text; rw [hz]) (by show (T.getD i zW).num = (Z.getD i zW).num; rw [hz]) (by show (T.getD i zW).ps.length = (Z.getD i zW).ps.length; rw [hz]) (by show (Z.getD i zW).ps.length ≤ 1000; rw [hz]; omega)
          (gp_eq _ hi' (by omega) (by rw [hz])) (ih (i + 1) (by omega))
    · have h0 : e = 2 + 1 := by rw [hB] at he2; exact he2
      subst h0
      exact jBSh t0 t1 t2 t3 t4 t5 t6 t7 t8 t9 t10 t11 t12 t13 t14 t15 A B T p he2 hp (jCSh t0 t1 t2 t3 t4 t5 t6 t7 t8 t9 t10 t11 t12 t13 t14 t15 A B p h5 (by omega) (by omega) (ez hB).1 (ez hB).2)
    · have h0 : e = 3 + 1 := by rw [hB] at he2; exact he2
      subst h0
      exact jBLo t0 t1 t2 t3 t4 t5 t6 t7 t8 t9 t10 t11 t12 t13 t14 t15 A B T p he2 hp (jCLo t0 t1 t2 t3 t4 t5 t6 t7 t8 t9 t10 t11 t12 t13 t14 t15 A B p h5 (by omega) (by omega) (ez hB).1 (ez hB).2)
    · have h0 : e = 4 + 1 := by rw [hB] at he2; exact he2
      subst h0
      exact jBFo t0 t1 t2 t3 t4 t5 t6 t7 t8 t9 t10 t11 t12 t13 t14 t15 A B T p he2 hp (jCFo t0 t1 t2 t3 t4 t5 t6 t7 t8 t9 t10 t11 t12 t13 t14 t15 A B p h5 (by omega) (by omega) (ez hB).1 (ez hB).2)
  · exact jASh t0 t1 t2 t3 t4 t5 t6 t7 t8 t9 t10 t11 t12 t13 t14 t15 A B _ h5 he rfl (jE _)
  · exact jALo t0 t1 t2 t3 t4 t5 t6 t7 t8 t9 t10 t11 t12 t13 t14 t15 A B _ h5 he rfl (jE _)
  · exact jAFo t0 t1 t2 t3 t4 t5 t6 t7 t8 t9 t10 t11 t12 t13 t14 t15 A B _ h5 he rfl (jE _)
end Go.Proofs.YtaleenklamognaaDoor

set_option maxRecDepth 100000
set_option linter.unusedSimpArgs false
set_option linter.unusedVariables false
namespace Go.Proofs.YtaleenklamognaaDoor
open Go.ChangeShapes Go.WideShapes Go.ChangeAt Go.RowKit
open Go.Sx

theorem wordsJoins_sh : shsOf Tryd.prog Tryd.f4.params.toList = some [.ks, .ks] := by kernel_rfl

theorem wordsJoins_star : "*" ++ "errors.errorString" = "*errors.errorString" := by decide
theorem wordsJoins_row (u : TypeId) (h : Tryd.prog.typeName? 3 u = some "*errors.errorString") : u = 213 :=
  typeName_ptr_named (nm := "errors.errorString") (by rw [wordsJoins_star]; kernel_rfl) (by kernel_rfl) (by decide) u (by rw [wordsJoins_star]; exact h)

theorem wordsJoins_errTy : ErrTy Tryd.prog "*errors.errorString" 25 213 215 9 := errTy_of (by kernel_rfl) wordsJoins_row (by kernel_rfl) (by kernel_rfl) (by kernel_rfl) (by kernel_rfl) (by kernel_rfl)

theorem wordsJoins_own : ownKnob Tryd.prog.godebug = none := by kernel_rfl
theorem wordsJoins_met (os : Os) (args : Array Value) : laidMetH Tryd.prog Rows.wordsJoinsRow.laid ((World.laidAll Tryd.prog os Rows.wordsJoinsRow.laid).forCall (fun _ _ => 0) ⟨#[], args, []⟩).memory := by
  rw [MakeChecks.laidMetH_plain _ _ _ (by kernel_rfl)]; exact laidMet_laidAll _ (by kernel_rfl) (by kernel_rfl)
theorem wordsJoins_plain (w : World) : laidMetH Tryd.prog Rows.wordsJoinsRow.laid w = laidMet Tryd.prog Rows.wordsJoinsRow.laid w := MakeChecks.laidMetH_plain _ _ _ (by kernel_rfl)

def wordsJoins_texts : List (Nat × List UInt8) := [(4, [97, 32, 110, 117, 109, 98, 101, 114, 32, 105, 115, 32, 111, 117, 116, 32, 111, 102, 32, 105, 116, 115, 32, 114, 97, 110, 103, 101]), (3, [116, 104, 101, 114, 101, 32, 105, 115, 32, 110, 111, 32, 109, 111, 114, 101, 32, 114, 111, 111, 109]), (5, [115, 111, 109, 101, 116, 104, 105, 110, 103, 32, 105, 115, 32, 109, 105, 115, 115, 105, 110, 103, 32, 97, 116, 32, 116, 104, 101, 32, 101, 110, 100]), (0, [116, 104, 101, 114, 101, 32, 105, 115, 32, 109, 111, 114, 101, 32, 116, 104, 97, 110, 32, 109, 97, 121, 32, 98, 101]), (6, [105, 116, 32, 105, 115, 32, 110, 111, 116, 32, 111, 102, 32, 105, 116, 115, 32, 102, 111, 114, 109]), (2, [116, 104, 101, 114, 101, 32, 105, 115, 32, 110, 111, 32, 115, 117, 99, 104, 32, 110, 97, 109, 101]), (7, [116, 104, 101, 114, 101, 32, 105, 115, 32, 110, 111, 110, 101]), (8, [105, 116, 32, 105, 115, 32, 116, 104, 101, 114, 101, 32, 97, 108, 114, 101, 97, 100, 121]), (9, [105, 116, 32, 105, 115, 32, 111, 102, 32, 97, 110, 111, 116, 104, 101, 114, 32, 107, 105, 110, 100]), (10, [105, 116, 32, 99, 97, 110, 32, 110, 111, 116, 32, 98, 101, 32, 100, 111, 110, 101, 32, 105, 110, 32, 116, 104, 105, 115, 32, 115, 116, 97, 116, 101]), (11, [105, 116, 32, 103, 111, 101, 115, 32, 116, 111, 111, 32, 100, 101, 101, 112]), (12, [116, 104, 101, 32, 102, 117, 101, 108, 32, 105, 115, 32, 115, 112, 101, 110, 116]), (13, [116, 104, 101, 114, 101, 32, 97, 114, 101, 32, 116, 111, 111, 32, 109, 97, 110, 121, 32, 99, 97, 108, 108, 115, 32, 119, 105, 116, 104, 105, 110, 32, 111, 110, 101, 32, 97, 110, 111, 116, 104, 101, 114]), (14, [105, 116, 32, 105, 115, 32, 99, 108, 111, 115, 101, 100]), (15, [105, 116, 32, 119, 111, 117, 108, 100, 32, 109, 97, 116, 99, 104, 32, 110, 111, 116, 104, 105, 110, 103, 32, 97, 116, 32, 97, 108, 108]), (1, [116, 104, 101, 32, 116, 101, 120, 116, 32, 105, 115, 32, 110, 111, 32, 110, 117, 109, 98, 101, 114])]
theorem wordsJoins_sent : sentOf Tryd.prog "*errors.errorString" Rows.wordsJoinsRow.laid = some wordsJoins_texts := by kernel_rfl

theorem wordsJoins_readable : ∀ t ∈ Tryd.f4.params.toList, Tryd.prog.readableRec t = true ∧ t < Tryd.prog.types.size := by
  have h : (Tryd.f4.params.toList.all fun t => Tryd.prog.readableRec t && decide (t < Tryd.prog.types.size)) = true := by kernel_rfl
  intro t ht
  have := List.all_eq_true.1 h t ht
  simpa using this

theorem wordsJoins_wants : ∀ t ∈ Tryd.f4.params.toList, Tryd.prog.wantsStandIn t = false := by
  have h : (Tryd.f4.params.toList.all fun t => !Tryd.prog.wantsStandIn t) = true := by kernel_rfl
  intro t ht
  have := List.all_eq_true.1 h t ht
  simpa using this

theorem str2_bound {H : Type} {enc : TypeId × Value → H} {P : Program} {w : World} {held : Bool} {t1 t2 : TypeId} (u1 : P.underlying t1 = some .string) (u2 : P.underlying t2 = some .string) :
    ∀ {args : List Value} {d1 d2 : DataW H} {p : List MemPlace} {cs : List Value}, DataW.TrodAll enc P w 0 (fun _ => true) held [t1, t2] args [d1, d2] p → (DataW.weightsEach P [t1, t2] [d1, d2]).all (· ≤ reachBytes) = true → cs = (args.flatMap fun v => v.cells.toList) →
      (Sx.strOf (Go.Sx.rd0 cs [] 0)).length ≤ 1000000000000000 ∧ (Sx.strOf (Go.Sx.rd0 cs [] 1)).length ≤ 1000000000000000
  | [], d1, d2, p, cs, h, hw, e => h.elim
  | [a], d1, d2, p, cs, h, hw, e => by obtain ⟨p1, p2, ⟨f1, h1⟩, h2, _⟩ := h; exact h2.elim
  | a :: b :: r, d1, d2, p, cs, h, hw, e => by
    obtain ⟨p1, p2, ⟨f1, h1⟩, ⟨p3, p4, ⟨f2, h2⟩, h3, _⟩, _⟩ := h
    obtain ⟨s1, c1, x1, _⟩ := DataW.trod_string u1 h1
    obtain ⟨s2, c2, x2, _⟩ := DataW.trod_string u2 h2
    injection x1 with y1 _
    injection x2 with y2 _
    subst y1 y2 e
    have hr : reachBytes = 140737488351232 := rfl
    have k1 : s1.data.toList.length ≤ reachBytes := of_decide_eq_true (List.all_eq_true.1 hw _ (by simp only [DataW.weightsEach, DataW.weights]; exact List.mem_cons_self))
    have k2 : s2.data.toList.length ≤ reachBytes := of_decide_eq_true (List.all_eq_true.1 hw _ (by simp only [DataW.weightsEach, DataW.weights]; exact List.mem_cons_of_mem _ List.mem_cons_self))
    have e0 : Sx.strOf (Go.Sx.rd0 ((a :: b :: r).flatMap fun v => v.cells.toList) [] 0) = s1.data.toList := by simp [rd0, c1, Sx.strOf]
    have e1 : Sx.strOf (Go.Sx.rd0 ((a :: b :: r).flatMap fun v => v.cells.toList) [] 1) = s2.data.toList := by simp [rd0, c1, c2, Sx.strOf]
    rw [e0, e1]
    exact ⟨by omega, by omega⟩

theorem wordsJoins_lifted (os : Os) (started : os.Started) (H : Type) (enc : TypeId × Value → H) :
    ReturnsInHanded {} Tryd.checked os 4 .any (fun w args => (Rows.wordsJoinsSpec.pre enc Tryd.prog Tryd.f4 [] false w args ∧ laidMetH Tryd.prog Rows.wordsJoinsRow.laid w) ∧ sizedMet enc Tryd.prog Tryd.f4 (OpenSpec.ofChange Rows.wordsJoinsSpec) false w args)
      (Rows.wordsJoinsSpec.post enc Tryd.prog Tryd.f4 false true false false) := by
  refine returnsInHanded_of_change_and (C := Tryd.checked) (X := fun w _ => laidMetH Tryd.prog Rows.wordsJoinsRow.laid w) (fun _ _ _ hh h => h.of_heap hh) wordsJoins_own started (by kernel_rfl) Tryd.func4
    (ChangeSpec.witness_shaped (enc := enc) (C := Tryd.checked) (os := os) (X := fun w _ => laidMetH Tryd.prog Rows.wordsJoinsRow.laid w) false (World.laidAll Tryd.prog os Rows.wordsJoinsRow.laid) #[.string ⟨#[]⟩, .string ⟨#[]⟩] 8 (World.laidAll_os _ _ _) (World.shaped_of_ZipB (by kernel_rfl) (by kernel_rfl)) (by kernel_rfl) (by kernel_rfl) (by kernel_rfl) (wordsJoins_met os _)) ?_
  intro W base args ds gs before hval hW _ hsz hL _
  have hW' := hW
  obtain ⟨p, q, hA, hV, rfl, hfz, hnd⟩ := hW
  obtain ⟨rfl, rfl⟩ := trodVars_none hV
  rw [wordsJoins_plain] at hL
  obtain ⟨s1, s2, s3⟩ := sents_open wordsJoins_errTy hL wordsJoins_sent (by kernel_rfl)
  have hG : Tryd.prog.globals.size = 23 := by kernel_rfl
  rw [hG] at s2 s3
  have g3 : ds.length = 2 := (args_open wordsJoins_sh hA (fun j t v h1 h2 => hval j t v (by rw [← Array.getElem?_toList]; exact h1) (by rw [← Array.getElem?_toList]; exact h2))).2.2.1
  match ds, g3 with
  | [d1, d2], _ =>
    have hb0 := fun cs => str2_bound (cs := cs) (t1 := 9) (t2 := 9) (by kernel_rfl) (by kernel_rfl) hA hsz
    refine (law_calls Tryd.func4 (body := bodyOf Tryd.f4) (by kernel_rfl) wordsJoins_sh hA hval (lab := 100) (n := 110) (n' := 30000) (L' := Sx.look []) gtopP s1 s2 (fun e he => ?_) (fun cs hcs hIs => ?_)).mono fun e W' ⟨he, hB⟩ => ⟨_, he, law_post (bt := 4) (by kernel_rfl) wordsJoins_readable rfl (by kernel_rfl) (by kernel_rfl) hW' rfl hB⟩
    · obtain ⟨a1, a2, a3⟩ := s3 e he
      exact ⟨a1, Nat.lt_of_lt_of_le a2 gtopP, fun l hl => Nat.lt_of_lt_of_le (a3 l hl) gtopP⟩
    · have hb := hb0 cs hcs
      clear hcs
      refine RunsTo.start (cargs := [.v (.vs fun _ => (Sx.strOf (Go.Sx.rd0 cs [] 0))), .v (.vs fun _ => (Sx.strOf (Go.Sx.rd0 cs [] 1)))]) ?_ ⟨rfl, rfl, trivial⟩
      exact wordsJoins_law _ _ _ _ _ _ _ _ _ _ _ _ _ _ _ _ (Sx.strOf (Go.Sx.rd0 cs [] 0)) (Sx.strOf (Go.Sx.rd0 cs [] 1)) hb.1 hb.2

theorem wordsJoins_holds : Rows.WordsJoinsSaid :=
  OpenClaim.holds_of_wide 4 Tryd.f4 rfl rfl rfl rfl rfl rfl rfl ⟨rfl, rfl, rfl, rfl, rfl⟩ rfl rfl rfl rfl rfl (by kernel_rfl) Tryd.func4 (by kernel_rfl)
    (of_decide_eq_true (by kernel_rfl)) (by unfold Func.isWrapper; first | (rw [if_pos (by decide +kernel)]; kernel_rfl) | (rw [if_neg (by decide +kernel)]; exact ⟨rfl, rfl⟩))
    (fun os started H enc _ => wordsJoins_lifted os started H enc)

theorem wordsJoins_card_holds : Rows.WordsJoinsCardSaid :=
  Claim7.holds_tied_plain_at .later [] [.sentinel, .sentinel, .sentinel, .sentinel, .sentinel, .sentinel, .sentinel, .sentinel, .sentinel, .sentinel, .sentinel, .sentinel, .sentinel, .sentinel, .sentinel, .sentinel] true (true, "adce2fd5dd0887f6362622a91578a8c9f336eace8c67ecf4b186e5f5f59c33e1") true
    wordsJoins_holds (fun _ h => by cases h) (by kernel_rfl) (fun _ h => by cases h) wordsJoins_row_tie rfl ⟨rfl, rfl⟩ (by kernel_rfl) rfl
    (fun f fn hf hfn => by
      obtain rfl : f = 4 := Option.some.inj ((show Tryd.prog.funcNamed "truchman/truchmanlaw30.WordsJoins" = some 4 by kernel_rfl).symm.trans hf) |>.symm
      obtain rfl : fn = Tryd.f4 := (Option.some.inj (Tryd.func4.symm.trans hfn)).symm
      exact ⟨by kernel_rfl, fun j t ht => wordsJoins_wants t (List.mem_of_getElem? (by rw [Array.getElem?_toList]; exact ht))⟩)
    (by kernel_rfl)
end Go.Proofs.YtaleenklamognaaDoor

