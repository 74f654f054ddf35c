/- Status: lines. -/
import Derived.Test.YtealbjkhjpmilaaDoorXbC
set_option linter.unusedSimpArgs false
set_option linter.unusedVariables false
set_option maxRecDepth 100000
namespace Go.Proofs.YtealbjkhjpmilaaDoor
open Go.Sx

open DecR
theorem tq_len {s : List UInt8} {n : Nat} (h : s.length ≤ n) (h1 : 1 ≤ n) : (tq s).length ≤ n := by
  unfold tq; split
  · simpa using h1
  · exact h
theorem name_len8 (c : Int) : (nameC c).length ≤ 8 := by
  have hd : ∀ n, (dec n).length ≤ 3 := fun n => by unfold dec; split <;> (try split) <;> simp
  unfold nameC
  split
  · simp
  · split
    · have := hd c.toNat; omega
    · rcases wd_cases c with h0 | rfl | rfl | rfl | rfl | rfl | rfl | rfl | rfl
      · rw [h0]; simp
      all_goals decide
theorem word_len {F : Ix → List UInt8} (h : lenB F = true) (c : Int) : (wordG F c).length ≤ 100 := by
  unfold wordG
  split
  · have := List.all_eq_true.1 h (c - 240).toNat (by simp; omega)
    simpa using this
  · simp
theorem liI (N : Nat) (V O : Ix → Int) (F : Ix → List UInt8) (G : Ix → Int) (hN : N ≤ 1000) (hF : lenB F = true) (hG : G [2] = 100) (hj : (joinS (rowS (partF F V O) [] 0 N) [44, 32]).length ≤ 100000) : RunsTo Tryd.prog 57 [.code (bodyOf Tryd.f57)] (envOf [vL 60 2 N] Tryd.f57.ntmps) (Sx.look ((eE 60 N V O ++ (tabW F ++ tabF G)) ++ ([]))) 80 (vS (joinS (rowS (partF F V O) [] 0 N) [44, 32])) (Sx.look []) 500 := by
  refine liStart N V O F G _ _ ?_
  suffices h : ∀ (k i : Nat), i + k = N → RunsTo Tryd.prog 57 (headOf Tryd.f57 0) (envAt Tryd.f57.ntmps ([(3, vL 101 1 (i)), (6, vL 60 2 N), (7, vN N), (8, vN (i : Nat))])) (Sx.look ((eE 60 N V O ++ (tabW F ++ tabF G)) ++ ([⟨101, true, none, 1, .ta (i) (.vs (partF F V O))⟩]))) 80 (vS (joinS (rowS (partF F V O) [] 0 N) [44, 32])) (Sx.look []) 500 from h N 0 (by omega)
  intro k
  induction k with
  | zero => intro i hi
            have : i = N := by omega
            subst this
            exact liEnd i V O F G hN hj
  | succ k ih => intro i hi; exact liRound N V O F G i (by omega) hN hG (tq_len (word_len hF _) (by omega)) (tq_len (by have := name_len8 (O [i]); omega) (by omega)) _ _ (ih (i + 1) (by omega))
def liP : PC := { args := [.v (.vl 60 2 0)], heap := [⟨60, false, 2, .ta 0 (.tc (.vi .i64 1) (.tc (.vi .i64 2) .t0))⟩], fams := [], tabs := [⟨6, false, 16, .tn 16 (.vs 8)⟩, ⟨20, false, 20, .tn 20 (.vi .u64 9)⟩], gs := [], G := 25, tp := 223, n := 80, n' := 500, cond := fun e => decide (eN e 0 ≤ 1000) && lenB (eS e 8) && decide (eI e 9 [2] = 100) && decide ((joinS (rowS (partF (eS e 8) (eI e 1) (eI e 2)) [] 0 (eN e 0)) [44, 32]).length ≤ 100000), v := fun e => vS (joinS (rowS (partF (eS e 8) (eI e 1) (eI e 2)) [] 0 (eN e 0)) [44, 32]), post := fun e => [] }
theorem liP_pc : PC.Runs Tryd.prog 57 Tryd.f57 (bodyOf Tryd.f57) liP := ⟨Tryd.func57, by kernel_rfl, (fun g hg => by first | (cases hg; done) | (revert g; show ∀ g ∈ ([] : List Nat), g < 25; decide)), fun e H hc => by
  have hc : (decide (eN e 0 ≤ 1000) && lenB (eS e 8) && decide (eI e 9 [2] = 100) && decide ((joinS (rowS (partF (eS e 8) (eI e 1) (eI e 2)) [] 0 (eN e 0)) [44, 32]).length ≤ 100000)) = true := hc
  try simp only [Bool.and_eq_true, decide_eq_true_eq, Nat.beq_eq] at hc
  exact liI (eN e 0) (eI e 1) (eI e 2) (eS e 8) (eI e 9) hc.1.1.1 hc.1.1.2 hc.1.2 hc.2⟩
def sumsZ : List (FuncId × Summ) := [(46, rwP.summ 50), (73, rnP.summ 50)]
theorem baseZ : Base0 Tryd.prog sumsZ := ((baseO.cons Tryd.func73 (by kernel_rfl) (PC.summ_ok rnP_pc gtopG)).cons Tryd.func46 (by kernel_rfl) (PC.summ_ok rwP_pc gtopG))
theorem rlStart_p0 (N : Nat) (V O : Ix → Int) :
    isMore (evTill Tryd.prog sumsZ 600 (behind Tryd.f58 0) 900 58 [.code (bodyOf Tryd.f58)] (envOf [vL 60 2 N] Tryd.f58.ntmps) (eE 60 N V O ++ ([])) ⟨[], 80⟩) (moreP (headOf Tryd.f58 0) ([]) Tryd.f58.ntmps ([(3, vS ([])), (8, vL 60 2 N), (9, vN N), (10, vN (0 : Nat))]) ([]) 600) =
    (OkL [] ∧ headOf Tryd.f58 (0 : Nat) = headOf Tryd.f58 (0 : Nat) ∧ (([] : List UInt8) = [] ∧ ((0 : Nat) = (0 : Nat) ∧ N = N) ∧ (↑N : Int) = (↑N : Int) ∧ (↑(0 : Nat) : Int) = (0 : Int)) ∧ True) := by kernel_rfl

set_option maxHeartbeats 4000000 in
theorem rlStart (N : Nat) (V O : Ix → Int)  (v : SV) (L' : HF) (next : RunsTo Tryd.prog 58 (headOf Tryd.f58 0) (envAt Tryd.f58.ntmps ([(3, vS ([])), (8, vL 60 2 N), (9, vN N), (10, vN (0 : Nat))])) (Sx.look (eE 60 N V O ++ ([]))) 80 (v) (L') 600) :
    RunsTo Tryd.prog 58 [.code (bodyOf Tryd.f58)] (envOf [vL 60 2 N] Tryd.f58.ntmps) (Sx.look (eE 60 N V O ++ ([]))) 80 (v) (L') 600 := by
  refine runs_more baseZ (More.of (rlStart_p0 N V O) ⟨?oo, rfl, ?rr⟩) (by kernel_rfl) (by kernel_rfl) rfl (gtL (by decide)) (by decide) next
  case oo =>
    clear next
    refine okn
    all_goals ((try simp (disch := omega) only [SS]); first | done | omega | assumption | (simp (disch := omega) only [SS] at *; first | done | omega | assumption) | (simp_all; done))
  case rr =>
    clear next
    try simp (disch := omega) only [SS]
    repeat' apply And.intro
    all_goals first | exact True.intro | with_reducible rfl | omega | (intros; first | exact True.intro | with_reducible rfl | omega | (simp_all; done)) | (simp_all; done) | rfl

theorem wF_len (n : Nat) : (wF [n]).length ≤ 100 := by
  have h : wordsT.all (fun w => decide (w.length ≤ 100)) = true := by decide
  show (wordsT.getD n []).length ≤ 100
  rw [List.getD_eq_getElem?_getD]
  cases hn : wordsT[n]? with
  | none => simp
  | some w => simpa using List.all_eq_true.1 h w (List.mem_of_getElem? hn)
theorem rlA00z_p0 (N : Nat) (V O : Ix → Int) :
    isMore (evTill Tryd.prog sumsZ 600 (behind Tryd.f58 0) 900 58 (headOf Tryd.f58 0) (envAt Tryd.f58.ntmps ([(3, vS ([])), (8, vL 60 2 N), (9, vN N), (10, vN (0 : Nat))])) (eE 60 N V O ++ ([])) ⟨[.s true, .s true, .s true, .s true, .f, .t, .t, .t, .t, .t, .t, .f, .s true, .t, .t, .t, .t, .t, .t, .t, .s true, .t, .f], 120⟩) (moreP (headOf Tryd.f58 0) ([]) Tryd.f58.ntmps ([(3, vS ([63] ++ [32] ++ [63])), (8, vL 60 2 N), (9, vN N), (10, vN (1 : Nat))]) ([]) 600) =
    (OkL [(decide ((↑(0 : Nat) : Int) < (↑N : Int)), true), (decide ((0 : Int) ≤ (↑(0 : Nat) : Int) ∧ (↑(0 : Nat) : Int) < (↑N : Int)), true), (Nat.blt (0 : Nat) N, true), (Nat.blt (0 : Nat) N, true), ((↑(upd (upd (fun is => []) [(0 : Nat)] (wordC (V [(0 : Nat)]))) [(1 : Nat)] (nameC (O [(0 : Nat)])) [(0 : Nat)]).length : Int) == (0 : Int), true), ((↑(upd (upd (fun is => []) [(0 : Nat)] (wordC (V [(0 : Nat)]))) [(1 : Nat)] (nameC (O [(0 : Nat)])) [(1 : Nat)]).length : Int) == (0 : Int), true)] ∧ headOf Tryd.f58 (0 : Nat) = headOf Tryd.f58 (0 : Nat) ∧ ([(63 : UInt8)] ++ [(32 : UInt8)] ++ [(63 : UInt8)] = [] ++ [(63 : UInt8)] ++ [(32 : UInt8)] ++ [(63 : UInt8)] ∧ ((0 : Nat) = (0 : Nat) ∧ N = N) ∧ (↑N : Int) = (↑N : Int) ∧ (↑(1 : Nat) : Int) = IntKind.i64.wrap ((↑(0 : Nat) : Int) + (1 : Int))) ∧ True) := by kernel_rfl

set_option maxHeartbeats 4000000 in
theorem rlA00z (N : Nat) (V O : Ix → Int) (hi : 0 < N) (c1 : wordC (V [0]) = []) (c2 : nameC (O [0]) = [])  (v : SV) (L' : HF) (next : RunsTo Tryd.prog 58 (headOf Tryd.f58 0) (envAt Tryd.f58.ntmps ([(3, vS ([63] ++ [32] ++ [63])), (8, vL 60 2 N), (9, vN N), (10, vN (1 : Nat))])) (Sx.look (eE 60 N V O ++ ([]))) 80 (v) (L') 600) :
    RunsTo Tryd.prog 58 (headOf Tryd.f58 0) (envAt Tryd.f58.ntmps ([(3, vS ([])), (8, vL 60 2 N), (9, vN N), (10, vN (0 : Nat))])) (Sx.look (eE 60 N V O ++ ([]))) 80 (v) (L') 600 := by
  have hw : IntKind.i64.wrap ((0 : Int) + 1) = 1 := by decide
  have q1 : (wordC (V [0])).length ≤ 100 := by unfold wordC; split <;> first | (exact wF_len _) | simp
  have q2 : (nameC (O [0])).length ≤ 8 := name_len8 _
  refine runs_more baseZ (More.of (rlA00z_p0 N V O) ⟨?oo, rfl, ?rr⟩) (by kernel_rfl) (by kernel_rfl) rfl (gtL (by decide)) (by decide) next
  case oo =>
    clear next
    refine (okc ?_ (okc ?_ (okc ?_ (okc ?_ (okc ?_ (okc ?_ okn))))))
    all_goals first | omega | assumption | ((try simp (disch := omega) only [SS, upd, hw, c1, c2, List.length_append, List.length_cons, List.length_nil]); first | done | omega | assumption) | (simp_all [upd]; done) | (simp_all [upd]; omega)
  case rr =>
    clear next
    simp (disch := omega) only [SS, hw]
    repeat' apply And.intro
    all_goals first | exact True.intro | with_reducible rfl | omega | (simp_all [upd]; done) | rfl

theorem rlA00_p0 (N : Nat) (V O : Ix → Int) (t : List UInt8) (i : Nat) :
    isMore (evTill Tryd.prog sumsZ 600 (behind Tryd.f58 0) 900 58 (headOf Tryd.f58 0) (envAt Tryd.f58.ntmps ([(3, vS (t)), (8, vL 60 2 N), (9, vN N), (10, vN (i : Nat))])) (eE 60 N V O ++ ([])) ⟨[.s true, .s true, .s true, .s true, .s true, .s true, .t, .t, .t, .t, .t, .t, .f, .s true, .s true, .t, .t, .t, .t, .t, .s true, .s true, .s true, .f], 120⟩) (moreP (headOf Tryd.f58 0) ([]) Tryd.f58.ntmps ([(3, vS (t ++ [44, 32] ++ [63] ++ [32] ++ [63])), (8, vL 60 2 N), (9, vN N), (10, vN (i + 1 : Nat))]) ([]) 600) =
    (OkL [(decide ((↑i : Int) < (↑N : Int)), true), (decide ((0 : Int) ≤ (↑i : Int) ∧ (↑i : Int) < (↑N : Int)), true), (((0 : Nat) + (↑i : Int).toNat).blt N, true), (((0 : Nat) + (↑i : Int).toNat).blt N, true), (decide ((↑i : Int) > (0 : Int)), true), (decide (t.length + (2 : Nat) ≤ (9223372036854775807 : Nat)), true), ((↑(upd (upd (fun is => []) [(0 : Nat)] (wordC (V [(0 : Nat) + (↑i : Int).toNat]))) [(1 : Nat)] (nameC (O [(0 : Nat) + (↑i : Int).toNat])) [(0 : Nat)]).length : Int) == (0 : Int), true), (decide ((t ++ [(44 : UInt8), (32 : UInt8)]).length + (1 : Nat) ≤ (9223372036854775807 : Nat)), true), (decide ((t ++ [(44 : UInt8), (32 : UInt8)] ++ [(63 : UInt8)]).length + (1 : Nat) ≤ (9223372036854775807 : Nat)), true), ((↑(upd (upd (fun is => []) [(0 : Nat)] (wordC (V [(0 : Nat) + (↑i : Int).toNat]))) [(1 : Nat)] (nameC (O [(0 : Nat) + (↑i : Int).toNat])) [(1 : Nat)]).length : Int) == (0 : Int), true), (decide ((t ++ [(44 : UInt8), (32 : UInt8)] ++ [(63 : UInt8)] ++ [(32 : UInt8)]).length + (1 : Nat) ≤ (9223372036854775807 : Nat)), true)] ∧ headOf Tryd.f58 (0 : Nat) = headOf Tryd.f58 (0 : Nat) ∧ (t ++ [(44 : UInt8), (32 : UInt8)] ++ [(63 : UInt8)] ++ [(32 : UInt8)] ++ [(63 : UInt8)] = t ++ [(44 : UInt8), (32 : UInt8)] ++ [(63 : UInt8)] ++ [(32 : UInt8)] ++ [(63 : UInt8)] ∧ ((0 : Nat) = (0 : Nat) ∧ N = N) ∧ (↑N : Int) = (↑N : Int) ∧ (↑(i + (1 : Nat)) : Int) = IntKind.i64.wrap ((↑i : Int) + (1 : Int))) ∧ True) := by kernel_rfl

set_option maxHeartbeats 4000000 in
theorem rlA00 (N : Nat) (V O : Ix → Int) (t : List UInt8) (i : Nat) (hi : i < N) (h0 : 0 < i) (hN : N ≤ 1000) (ht : t.length ≤ 1000000) (c1 : wordC (V [i]) = []) (c2 : nameC (O [i]) = [])  (v : SV) (L' : HF) (next : RunsTo Tryd.prog 58 (headOf Tryd.f58 0) (envAt Tryd.f58.ntmps ([(3, vS (t ++ [44, 32] ++ [63] ++ [32] ++ [63])), (8, vL 60 2 N), (9, vN N), (10, vN (i + 1 : Nat))])) (Sx.look (eE 60 N V O ++ ([]))) 80 (v) (L') 600) :
    RunsTo Tryd.prog 58 (headOf Tryd.f58 0) (envAt Tryd.f58.ntmps ([(3, vS (t)), (8, vL 60 2 N), (9, vN N), (10, vN (i : Nat))])) (Sx.look (eE 60 N V O ++ ([]))) 80 (v) (L') 600 := by
  have hw : IntKind.i64.wrap ((i : Int) + 1) = ((i + 1 : Nat) : Int) := by rw [wr64 (by omega)]; rfl
  have q1 : (wordC (V [i])).length ≤ 100 := by unfold wordC; split <;> first | (exact wF_len _) | simp
  have q2 : (nameC (O [i])).length ≤ 8 := name_len8 _
  refine runs_more baseZ (More.of (rlA00_p0 N V O t i) ⟨?oo, rfl, ?rr⟩) (by kernel_rfl) (by kernel_rfl) rfl (gtL (by decide)) (by decide) next
  case oo =>
    clear next
    refine (okc ?_ (okc ?_ (okc ?_ (okc ?_ (okc ?_ (okc ?_ (okc ?_ (okc ?_ (okc ?_ (okc ?_ (okc ?_ okn)))))))))))
    all_goals first | omega | assumption | ((try simp (disch := omega) only [SS, upd, hw, c1, c2, List.length_append, List.length_cons, List.length_nil]); first | done | omega | assumption) | (simp_all [upd]; done) | (simp_all [upd]; omega)
  case rr =>
    clear next
    simp (disch := omega) only [SS, hw]
    repeat' apply And.intro
    all_goals first | exact True.intro | with_reducible rfl | omega | (simp_all [upd]; done) | rfl

theorem rlA01z_p0 (N : Nat) (V O : Ix → Int) :
    isMore (evTill Tryd.prog sumsZ 600 (behind Tryd.f58 0) 900 58 (headOf Tryd.f58 0) (envAt Tryd.f58.ntmps ([(3, vS ([])), (8, vL 60 2 N), (9, vN N), (10, vN (0 : Nat))])) (eE 60 N V O ++ ([])) ⟨[.s true, .s true, .s true, .s true, .f, .t, .t, .t, .t, .t, .t, .f, .s true, .t, .t, .t, .t, .t, .t, .t, .s false, .s true, .f], 120⟩) (moreP (headOf Tryd.f58 0) ([]) Tryd.f58.ntmps ([(3, vS ([63] ++ [32] ++ nameC (O [0]))), (8, vL 60 2 N), (9, vN N), (10, vN (1 : Nat))]) ([]) 600) =
    (OkL [(decide ((↑(0 : Nat) : Int) < (↑N : Int)), true), (decide ((0 : Int) ≤ (↑(0 : Nat) : Int) ∧ (↑(0 : Nat) : Int) < (↑N : Int)), true), (Nat.blt (0 : Nat) N, true), (Nat.blt (0 : Nat) N, true), ((↑(upd (upd (fun is => []) [(0 : Nat)] (wordC (V [(0 : Nat)]))) [(1 : Nat)] (nameC (O [(0 : Nat)])) [(0 : Nat)]).length : Int) == (0 : Int), true), ((↑(upd (upd (fun is => []) [(0 : Nat)] (wordC (V [(0 : Nat)]))) [(1 : Nat)] (nameC (O [(0 : Nat)])) [(1 : Nat)]).length : Int) == (0 : Int), false), (decide ((2 : Nat) + (upd (upd (fun is => []) [(0 : Nat)] (wordC (V [(0 : Nat)]))) [(1 : Nat)] (nameC (O [(0 : Nat)])) [(1 : Nat)]).length ≤ (9223372036854775807 : Nat)), true)] ∧ headOf Tryd.f58 (0 : Nat) = headOf Tryd.f58 (0 : Nat) ∧ ([(63 : UInt8)] ++ [(32 : UInt8)] ++ nameC (O [(0 : Nat)]) = [] ++ [(63 : UInt8)] ++ [(32 : UInt8)] ++ upd (upd (fun is => []) [(0 : Nat)] (wordC (V [(0 : Nat)]))) [(1 : Nat)] (nameC (O [(0 : Nat)])) [(1 : Nat)] ∧ ((0 : Nat) = (0 : Nat) ∧ N = N) ∧ (↑N : Int) = (↑N : Int) ∧ (↑(1 : Nat) : Int) = IntKind.i64.wrap ((↑(0 : Nat) : Int) + (1 : Int))) ∧ True) := by kernel_rfl

set_option maxHeartbeats 4000000 in
theorem rlA01z (N : Nat) (V O : Ix → Int) (hi : 0 < N) (c1 : wordC (V [0]) = []) (c2 : nameC (O [0]) ≠ [])  (v : SV) (L' : HF) (next : RunsTo Tryd.prog 58 (headOf Tryd.f58 0) (envAt Tryd.f58.ntmps ([(3, vS ([63] ++ [32] ++ nameC (O [0]))), (8, vL 60 2 N), (9, vN N), (10, vN (1 : Nat))])) (Sx.look (eE 60 N V O ++ ([]))) 80 (v) (L') 600) :
    RunsTo Tryd.prog 58 (headOf Tryd.f58 0) (envAt Tryd.f58.ntmps ([(3, vS ([])), (8, vL 60 2 N), (9, vN N), (10, vN (0 : Nat))])) (Sx.look (eE 60 N V O ++ ([]))) 80 (v) (L') 600 := by
  have hw : IntKind.i64.wrap ((0 : Int) + 1) = 1 := by decide
  have q1 : (wordC (V [0])).length ≤ 100 := by unfold wordC; split <;> first | (exact wF_len _) | simp
  have q2 : (nameC (O [0])).length ≤ 8 := name_len8 _
  refine runs_more baseZ (More.of (rlA01z_p0 N V O) ⟨?oo, rfl, ?rr⟩) (by kernel_rfl) (by kernel_rfl) rfl (gtL (by decide)) (by decide) next
  case oo =>
    clear next
    refine (okc ?_ (okc ?_ (okc ?_ (okc ?_ (okc ?_ (okc ?_ (okc ?_ okn)))))))
    all_goals first | omega | assumption | ((try simp (disch := omega) only [SS, upd, hw, c1, c2, List.length_append, List.length_cons, List.length_nil]); first | done | omega | assumption) | (simp_all [upd]; done) | (simp_all [upd]; omega)
  case rr =>
    clear next
    simp (disch := omega) only [SS, hw]
    repeat' apply And.intro
    all_goals first | exact True.intro | with_reducible rfl | omega | (simp_all [upd]; done) | rfl

theorem rlA01_p0 (N : Nat) (V O : Ix → Int) (t : List UInt8) (i : Nat) :
    isMore (evTill Tryd.prog sumsZ 600 (behind Tryd.f58 0) 900 58 (headOf Tryd.f58 0) (envAt Tryd.f58.ntmps ([(3, vS (t)), (8, vL 60 2 N), (9, vN N), (10, vN (i : Nat))])) (eE 60 N V O ++ ([])) ⟨[.s true, .s true, .s true, .s true, .s true, .s true, .t, .t, .t, .t, .t, .t, .f, .s true, .s true, .t, .t, .t, .t, .t, .s true, .s false, .s true, .f], 120⟩) (moreP (headOf Tryd.f58 0) ([]) Tryd.f58.ntmps ([(3, vS (t ++ [44, 32] ++ [63] ++ [32] ++ nameC (O [i]))), (8, vL 60 2 N), (9, vN N), (10, vN (i + 1 : Nat))]) ([]) 600) =
    (OkL [(decide ((↑i : Int) < (↑N : Int)), true), (decide ((0 : Int) ≤ (↑i : Int) ∧ (↑i : Int) < (↑N : Int)), true), (((0 : Nat) + (↑i : Int).toNat).blt N, true), (((0 : Nat) + (↑i : Int).toNat).blt N, true), (decide ((↑i : Int) > (0 : Int)), true), (decide (t.length + (2 : Nat) ≤ (9223372036854775807 : Nat)), true), ((↑(upd (upd (fun is => []) [(0 : Nat)] (wordC (V [(0 : Nat) + (↑i : Int).toNat]))) [(1 : Nat)] (nameC (O [(0 : Nat) + (↑i : Int).toNat])) [(0 : Nat)]).length : Int) == (0 : Int), true), (decide ((t ++ [(44 : UInt8), (32 : UInt8)]).length + (1 : Nat) ≤ (9223372036854775807 : Nat)), true), (decide ((t ++ [(44 : UInt8), (32 : UInt8)] ++ [(63 : UInt8)]).length + (1 : Nat) ≤ (9223372036854775807 : Nat)), true), ((↑(upd (upd (fun is => []) [(0 : Nat)] (wordC (V [(0 : Nat) + (↑i : Int).toNat]))) [(1 : Nat)] (nameC (O [(0 : Nat) + (↑i : Int).toNat])) [(1 : Nat)]).length : Int) == (0 : Int), false), (decide ((t ++ [(44 : UInt8), (32 : UInt8)] ++ [(63 : UInt8)] ++ [(32 : UInt8)]).length + (upd (upd (fun is => []) [(0 : Nat)] (wordC (V [(0 : Nat) + (↑i : Int).toNat]))) [(1 : Nat)] (nameC (O [(0 : Nat) + (↑i : Int).toNat])) [(1 : Nat)]).length ≤ (9223372036854775807 : Nat)), true)] ∧ headOf Tryd.f58 (0 : Nat) = headOf Tryd.f58 (0 : Nat) ∧ (t ++ [(44 : UInt8), (32 : UInt8)] ++ [(63 : UInt8)] ++ [(32 : UInt8)] ++ nameC (O [i]) = t ++ [(44 : UInt8), (32 : UInt8)] ++ [(63 : UInt8)] ++ [(32 : UInt8)] ++ upd (upd (fun is => []) [(0 : Nat)] (wordC (V [(0 : Nat) + (↑i : Int).toNat]))) [(1 : Nat)] (nameC (O [(0 : Nat) + (↑i : Int).toNat])) [(1 : Nat)] ∧ ((0 : Nat) = (0 : Nat) ∧ N = N) ∧ (↑N : Int) = (↑N : Int) ∧ (↑(i + (1 : Nat)) : Int) = IntKind.i64.wrap ((↑i : Int) + (1 : Int))) ∧ True) := by kernel_rfl

set_option maxHeartbeats 4000000 in
theorem rlA01 (N : Nat) (V O : Ix → Int) (t : List UInt8) (i : Nat) (hi : i < N) (h0 : 0 < i) (hN : N ≤ 1000) (ht : t.length ≤ 1000000) (c1 : wordC (V [i]) = []) (c2 : nameC (O [i]) ≠ [])  (v : SV) (L' : HF) (next : RunsTo Tryd.prog 58 (headOf Tryd.f58 0) (envAt Tryd.f58.ntmps ([(3, vS (t ++ [44, 32] ++ [63] ++ [32] ++ nameC (O [i]))), (8, vL 60 2 N), (9, vN N), (10, vN (i + 1 : Nat))])) (Sx.look (eE 60 N V O ++ ([]))) 80 (v) (L') 600) :
    RunsTo Tryd.prog 58 (headOf Tryd.f58 0) (envAt Tryd.f58.ntmps ([(3, vS (t)), (8, vL 60 2 N), (9, vN N), (10, vN (i : Nat))])) (Sx.look (eE 60 N V O ++ ([]))) 80 (v) (L') 600 := by
  have hw : IntKind.i64.wrap ((i : Int) + 1) = ((i + 1 : Nat) : Int) := by rw [wr64 (by omega)]; rfl
  have q1 : (wordC (V [i])).length ≤ 100 := by unfold wordC; split <;> first | (exact wF_len _) | simp
  have q2 : (nameC (O [i])).length ≤ 8 := name_len8 _
  refine runs_more baseZ (More.of (rlA01_p0 N V O t i) ⟨?oo, rfl, ?rr⟩) (by kernel_rfl) (by kernel_rfl) rfl (gtL (by decide)) (by decide) next
  case oo =>
    clear next
    refine (okc ?_ (okc ?_ (okc ?_ (okc ?_ (okc ?_ (okc ?_ (okc ?_ (okc ?_ (okc ?_ (okc ?_ (okc ?_ okn)))))))))))
    all_goals first | omega | assumption | ((try simp (disch := omega) only [SS, upd, hw, c1, c2, List.length_append, List.length_cons, List.length_nil]); first | done | omega | assumption) | (simp_all [upd]; done) | (simp_all [upd]; omega)
  case rr =>
    clear next
    simp (disch := omega) only [SS, hw]
    repeat' apply And.intro
    all_goals first | exact True.intro | with_reducible rfl | omega | (simp_all [upd]; done) | rfl

theorem rlA10z_p0 (N : Nat) (V O : Ix → Int) :
    isMore (evTill Tryd.prog sumsZ 600 (behind Tryd.f58 0) 900 58 (headOf Tryd.f58 0) (envAt Tryd.f58.ntmps ([(3, vS ([])), (8, vL 60 2 N), (9, vN N), (10, vN (0 : Nat))])) (eE 60 N V O ++ ([])) ⟨[.s true, .s true, .s true, .s true, .f, .t, .t, .t, .t, .t, .t, .f, .s false, .s true, .t, .t, .t, .t, .t, .s true, .s true, .s true, .f], 120⟩) (moreP (headOf Tryd.f58 0) ([]) Tryd.f58.ntmps ([(3, vS (wordC (V [0]) ++ [32] ++ [63])), (8, vL 60 2 N), (9, vN N), (10, vN (1 : Nat))]) ([]) 600) =
    (OkL [(decide ((↑(0 : Nat) : Int) < (↑N : Int)), true), (decide ((0 : Int) ≤ (↑(0 : Nat) : Int) ∧ (↑(0 : Nat) : Int) < (↑N : Int)), true), (Nat.blt (0 : Nat) N, true), (Nat.blt (0 : Nat) N, true), ((↑(upd (upd (fun is => []) [(0 : Nat)] (wordC (V [(0 : Nat)]))) [(1 : Nat)] (nameC (O [(0 : Nat)])) [(0 : Nat)]).length : Int) == (0 : Int), false), (decide ((0 : Nat) + (upd (upd (fun is => []) [(0 : Nat)] (wordC (V [(0 : Nat)]))) [(1 : Nat)] (nameC (O [(0 : Nat)])) [(0 : Nat)]).length ≤ (9223372036854775807 : Nat)), true), (decide (([] ++ upd (upd (fun is => []) [(0 : Nat)] (wordC (V [(0 : Nat)]))) [(1 : Nat)] (nameC (O [(0 : Nat)])) [(0 : Nat)]).length + (1 : Nat) ≤ (9223372036854775807 : Nat)), true), ((↑(upd (upd (fun is => []) [(0 : Nat)] (wordC (V [(0 : Nat)]))) [(1 : Nat)] (nameC (O [(0 : Nat)])) [(1 : Nat)]).length : Int) == (0 : Int), true), (decide (([] ++ upd (upd (fun is => []) [(0 : Nat)] (wordC (V [(0 : Nat)]))) [(1 : Nat)] (nameC (O [(0 : Nat)])) [(0 : Nat)] ++ [(32 : UInt8)]).length + (1 : Nat) ≤ (9223372036854775807 : Nat)), true)] ∧ headOf Tryd.f58 (0 : Nat) = headOf Tryd.f58 (0 : Nat) ∧ (wordC (V [(0 : Nat)]) ++ [(32 : UInt8)] ++ [(63 : UInt8)] = [] ++ upd (upd (fun is => []) [(0 : Nat)] (wordC (V [(0 : Nat)]))) [(1 : Nat)] (nameC (O [(0 : Nat)])) [(0 : Nat)] ++ [(32 : UInt8)] ++ [(63 : UInt8)] ∧ ((0 : Nat) = (0 : Nat) ∧ N = N) ∧ (↑N : Int) = (↑N : Int) ∧ (↑(1 : Nat) : Int) = IntKind.i64.wrap ((↑(0 : Nat) : Int) + (1 : Int))) ∧ True) := by kernel_rfl

set_option maxHeartbeats 4000000 in
theorem rlA10z (N : Nat) (V O : Ix → Int) (hi : 0 < N) (c1 : wordC (V [0]) ≠ []) (c2 : nameC (O [0]) = [])  (v : SV) (L' : HF) (next : RunsTo Tryd.prog 58 (headOf Tryd.f58 0) (envAt Tryd.f58.ntmps ([(3, vS (wordC (V [0]) ++ [32] ++ [63])), (8, vL 60 2 N), (9, vN N), (10, vN (1 : Nat))])) (Sx.look (eE 60 N V O ++ ([]))) 80 (v) (L') 600) :
    RunsTo Tryd.prog 58 (headOf Tryd.f58 0) (envAt Tryd.f58.ntmps ([(3, vS ([])), (8, vL 60 2 N), (9, vN N), (10, vN (0 : Nat))])) (Sx.look (eE 60 N V O ++ ([]))) 80 (v) (L') 600 := by
  have hw : IntKind.i64.wrap ((0 : Int) + 1) = 1 := by decide
  have q1 : (wordC (V [0])).length ≤ 100 := by unfold wordC; split <;> first | (exact wF_len _) | simp
  have q2 : (nameC (O [0])).length ≤ 8 := name_len8 _
  refine runs_more baseZ (More.of (rlA10z_p0 N V O) ⟨?oo, rfl, ?rr⟩) (by kernel_rfl) (by kernel_rfl) rfl (gtL (by decide)) (by decide) next
  case oo =>
    clear next
    refine (okc ?_ (okc ?_ (okc ?_ (okc ?_ (okc ?_ (okc ?_ (okc ?_ (okc ?_ (okc ?_ okn)))))))))
    all_goals first | omega | assumption | ((try simp (disch := omega) only [SS, upd, hw, c1, c2, List.length_append, List.length_cons, List.length_nil]); first | done | omega | assumption) | (simp_all [upd]; done) | (simp_all [upd]; omega)
  case rr =>
    clear next
    simp (disch := omega) only [SS, hw]
    repeat' apply And.intro
    all_goals first | exact True.intro | with_reducible rfl | omega | (simp_all [upd]; done) | rfl

theorem rlA10_p0 (N : Nat) (V O : Ix → Int) (t : List UInt8) (i : Nat) :
    isMore (evTill Tryd.prog sumsZ 600 (behind Tryd.f58 0) 900 58 (headOf Tryd.f58 0) (envAt Tryd.f58.ntmps ([(3, vS (t)), (8, vL 60 2 N), (9, vN N), (10, vN (i : Nat))])) (eE 60 N V O ++ ([])) ⟨[.s true, .s true, .s true, .s true, .s true, .s true, .t, .t, .t, .t, .t, .t, .f, .s false, .s true, .t, .t, .t, .t, .t, .s true, .s true, .s true, .f], 120⟩) (moreP (headOf Tryd.f58 0) ([]) Tryd.f58.ntmps ([(3, vS (t ++ [44, 32] ++ wordC (V [i]) ++ [32] ++ [63])), (8, vL 60 2 N), (9, vN N), (10, vN (i + 1 : Nat))]) ([]) 600) =
    (OkL [(decide ((↑i : Int) < (↑N : Int)), true), (decide ((0 : Int) ≤ (↑i : Int) ∧ (↑i : Int) < (↑N : Int)), true), (((0 : Nat) + (↑i : Int).toNat).blt N, true), (((0 : Nat) + (↑i : Int).toNat).blt N, true), (decide ((↑i : Int) > (0 : Int)), true), (decide (t.length + (2 : Nat) ≤ (9223372036854775807 : Nat)), true), ((↑(upd (upd (fun is => []) [(0 : Nat)] (wordC (V [(0 : Nat) + (↑i : Int).toNat]))) [(1 : Nat)] (nameC (O [(0 : Nat) + (↑i : Int).toNat])) [(0 : Nat)]).length : Int) == (0 : Int), false), (decide ((t ++ [(44 : UInt8), (32 : UInt8)]).length + (upd (upd (fun is => []) [(0 : Nat)] (wordC (V [(0 : Nat) + (↑i : Int).toNat]))) [(1 : Nat)] (nameC (O [(0 : Nat) + (↑i : Int).toNat])) [(0 : Nat)]).length ≤ (9223372036854775807 : Nat)), true), (decide ((t ++ [(44 : UInt8), (32 : UInt8)] ++ upd (upd (fun is => []) [(0 : Nat)] (wordC (V [(0 : Nat) + (↑i : Int).toNat]))) [(1 : Nat)] (nameC (O [(0 : Nat) + (↑i : Int).toNat])) [(0 : Nat)]).length + (1 : Nat) ≤ (9223372036854775807 : Nat)), true), ((↑(upd (upd (fun is => []) [(0 : Nat)] (wordC (V [(0 : Nat) + (↑i : Int).toNat]))) [(1 : Nat)] (nameC (O [(0 : Nat) + (↑i : Int).toNat])) [(1 : Nat)]).length : Int) == (0 : Int), true), (decide ((t ++ [(44 : UInt8), (32 : UInt8)] ++ upd (upd (fun is => []) [(0 : Nat)] (wordC (V [(0 : Nat) + (↑i : Int).toNat]))) [(1 : Nat)] (nameC (O [(0 : Nat) + (↑i : Int).toNat])) [(0 : Nat)] ++ [(32 : UInt8)]).length + (1 : Nat) ≤ (9223372036854775807 : Nat)), true)] ∧ headOf Tryd.f58 (0 : Nat) = headOf Tryd.f58 (0 : Nat) ∧ (t ++ [(44 : UInt8), (32 : UInt8)] ++ wordC (V [i]) ++ [(32 : UInt8)] ++ [(63 : UInt8)] = t ++ [(44 : UInt8), (32 : UInt8)] ++ upd (upd (fun is => []) [(0 : Nat)] (wordC (V [(0 : Nat) + (↑i : Int).toNat]))) [(1 : Nat)] (nameC (O [(0 : Nat) + (↑i : Int).toNat])) [(0 : Nat)] ++ [(32 : UInt8)] ++ [(63 : UInt8)] ∧ ((0 : Nat) = (0 : Nat) ∧ N = N) ∧ (↑N : Int) = (↑N : Int) ∧ (↑(i + (1 : Nat)) : Int) = IntKind.i64.wrap ((↑i : Int) + (1 : Int))) ∧ True) := by kernel_rfl

set_option maxHeartbeats 4000000 in
theorem rlA10 (N : Nat) (V O : Ix → Int) (t : List UInt8) (i : Nat) (hi : i < N) (h0 : 0 < i) (hN : N ≤ 1000) (ht : t.length ≤ 1000000) (c1 : wordC (V [i]) ≠ []) (c2 : nameC (O [i]) = [])  (v : SV) (L' : HF) (next : RunsTo Tryd.prog 58 (headOf Tryd.f58 0) (envAt Tryd.f58.ntmps ([(3, vS (t ++ [44, 32] ++ wordC (V [i]) ++ [32] ++ [63])), (8, vL 60 2 N), (9, vN N), (10, vN (i + 1 : Nat))])) (Sx.look (eE 60 N V O ++ ([]))) 80 (v) (L') 600) :
    RunsTo Tryd.prog 58 (headOf Tryd.f58 0) (envAt Tryd.f58.ntmps ([(3, vS (t)), (8, vL 60 2 N), (9, vN N), (10, vN (i : Nat))])) (Sx.look (eE 60 N V O ++ ([]))) 80 (v) (L') 600 := by
  have hw : IntKind.i64.wrap ((i : Int) + 1) = ((i + 1 : Nat) : Int) := by rw [wr64 (by omega)]; rfl
  have q1 : (wordC (V [i])).length ≤ 100 := by unfold wordC; split <;> first | (exact wF_len _) | simp
  have q2 : (nameC (O [i])).length ≤ 8 := name_len8 _
  refine runs_more baseZ (More.of (rlA10_p0 N V O t i) ⟨?oo, rfl, ?rr⟩) (by kernel_rfl) (by kernel_rfl) rfl (gtL (by decide)) (by decide) next
  case oo =>
    clear next
    refine (okc ?_ (okc ?_ (okc ?_ (okc ?_ (okc ?_ (okc ?_ (okc ?_ (okc ?_ (okc ?_ (okc ?_ (okc ?_ okn)))))))))))
    all_goals first | omega | assumption | ((try simp (disch := omega) only [SS, upd, hw, c1, c2, List.length_append, List.length_cons, List.length_nil]); first | done | omega | assumption) | (simp_all [upd]; done) | (simp_all [upd]; omega)
  case rr =>
    clear next
    simp (disch := omega) only [SS, hw]
    repeat' apply And.intro
    all_goals first | exact True.intro | with_reducible rfl | omega | (simp_all [upd]; done) | rfl

theorem rlA11z_p0 (N : Nat) (V O : Ix → Int) :
    isMore (evTill Tryd.prog sumsZ 600 (behind Tryd.f58 0) 900 58 (headOf Tryd.f58 0) (envAt Tryd.f58.ntmps ([(3, vS ([])), (8, vL 60 2 N), (9, vN N), (10, vN (0 : Nat))])) (eE 60 N V O ++ ([])) ⟨[.s true, .s true, .s true, .s true, .f, .t, .t, .t, .t, .t, .t, .f, .s false, .s true, .t, .t, .t, .t, .t, .s true, .s false, .s true, .f], 120⟩) (moreP (headOf Tryd.f58 0) ([]) Tryd.f58.ntmps ([(3, vS (wordC (V [0]) ++ [32] ++ nameC (O [0]))), (8, vL 60 2 N), (9, vN N), (10, vN (1 : Nat))]) ([]) 600) =
    (OkL [(decide ((↑(0 : Nat) : Int) < (↑N : Int)), true), (decide ((0 : Int) ≤ (↑(0 : Nat) : Int) ∧ (↑(0 : Nat) : Int) < (↑N : Int)), true), (Nat.blt (0 : Nat) N, true), (Nat.blt (0 : Nat) N, true), ((↑(upd (upd (fun is => []) [(0 : Nat)] (wordC (V [(0 : Nat)]))) [(1 : Nat)] (nameC (O [(0 : Nat)])) [(0 : Nat)]).length : Int) == (0 : Int), false), (decide ((0 : Nat) + (upd (upd (fun is => []) [(0 : Nat)] (wordC (V [(0 : Nat)]))) [(1 : Nat)] (nameC (O [(0 : Nat)])) [(0 : Nat)]).length ≤ (9223372036854775807 : Nat)), true), (decide (([] ++ upd (upd (fun is => []) [(0 : Nat)] (wordC (V [(0 : Nat)]))) [(1 : Nat)] (nameC (O [(0 : Nat)])) [(0 : Nat)]).length + (1 : Nat) ≤ (9223372036854775807 : Nat)), true), ((↑(upd (upd (fun is => []) [(0 : Nat)] (wordC (V [(0 : Nat)]))) [(1 : Nat)] (nameC (O [(0 : Nat)])) [(1 : Nat)]).length : Int) == (0 : Int), false), (decide (([] ++ upd (upd (fun is => []) [(0 : Nat)] (wordC (V [(0 : Nat)]))) [(1 : Nat)] (nameC (O [(0 : Nat)])) [(0 : Nat)] ++ [(32 : UInt8)]).length + (upd (upd (fun is => []) [(0 : Nat)] (wordC (V [(0 : Nat)]))) [(1 : Nat)] (nameC (O [(0 : Nat)])) [(1 : Nat)]).length ≤ (9223372036854775807 : Nat)), true)] ∧ headOf Tryd.f58 (0 : Nat) = headOf Tryd.f58 (0 : Nat) ∧ (wordC (V [(0 : Nat)]) ++ [(32 : UInt8)] ++ nameC (O [(0 : Nat)]) = [] ++ upd (upd (fun is => []) [(0 : Nat)] (wordC (V [(0 : Nat)]))) [(1 : Nat)] (nameC (O [(0 : Nat)])) [(0 : Nat)] ++ [(32 : UInt8)] ++ upd (upd (fun is => []) [(0 : Nat)] (wordC (V [(0 : Nat)]))) [(1 : Nat)] (nameC (O [(0 : Nat)])) [(1 : Nat)] ∧ ((0 : Nat) = (0 : Nat) ∧ N = N) ∧ (↑N : Int) = (↑N : Int) ∧ (↑(1 : Nat) : Int) = IntKind.i64.wrap ((↑(0 : Nat) : Int) + (1 : Int))) ∧ True) := by kernel_rfl

set_option maxHeartbeats 4000000 in
theorem rlA11z (N : Nat) (V O : Ix → Int) (hi : 0 < N) (c1 : wordC (V [0]) ≠ []) (c2 : nameC (O [0]) ≠ [])  (v : SV) (L' : HF) (next : RunsTo Tryd.prog 58 (headOf Tryd.f58 0) (envAt Tryd.f58.ntmps ([(3, vS (wordC (V [0]) ++ [32] ++ nameC (O [0]))), (8, vL 60 2 N), (9, vN N), (10, vN (1 : Nat))])) (Sx.look (eE 60 N V O ++ ([]))) 80 (v) (L') 600) :
    RunsTo Tryd.prog 58 (headOf Tryd.f58 0) (envAt Tryd.f58.ntmps ([(3, vS ([])), (8, vL 60 2 N), (9, vN N), (10, vN (0 : Nat))])) (Sx.look (eE 60 N V O ++ ([]))) 80 (v) (L') 600 := by
  have hw : IntKind.i64.wrap ((0 : Int) + 1) = 1 := by decide
  have q1 : (wordC (V [0])).length ≤ 100 := by unfold wordC; split <;> first | (exact wF_len _) | simp
  have q2 : (nameC (O [0])).length ≤ 8 := name_len8 _
  refine runs_more baseZ (More.of (rlA11z_p0 N V O) ⟨?oo, rfl, ?rr⟩) (by kernel_rfl) (by kernel_rfl) rfl (gtL (by decide)) (by decide) next
  case oo =>
    clear next
    refine (okc ?_ (okc ?_ (okc ?_ (okc ?_ (okc ?_ (okc ?_ (okc ?_ (okc ?_ (okc ?_ okn)))))))))
    all_goals first | omega | assumption | ((try simp (disch := omega) only [SS, upd, hw, c1, c2, List.length_append, List.length_cons, List.length_nil]); first | done | omega | assumption) | (simp_all [upd]; done) | (simp_all [upd]; omega)
  case rr =>
    clear next
    simp (disch := omega) only [SS, hw]
    repeat' apply And.intro
    all_goals first | exact True.intro | with_reducible rfl | omega | (simp_all [upd]; done) | rfl

theorem rlA11_p0 (N : Nat) (V O : Ix → Int) (t : List UInt8) (i : Nat) :
    isMore (evTill Tryd.prog sumsZ 600 (behind Tryd.f58 0) 900 58 (headOf Tryd.f58 0) (envAt Tryd.f58.ntmps ([(3, vS (t)), (8, vL 60 2 N), (9, vN N), (10, vN (i : Nat))])) (eE 60 N V O ++ ([])) ⟨[.s true, .s true, .s true, .s true, .s true, .s true, .t, .t, .t, .t, .t, .t, .f, .s false, .s true, .t, .t, .t, .t, .t, .s true, .s false, .s true, .f], 120⟩) (moreP (headOf Tryd.f58 0) ([]) Tryd.f58.ntmps ([(3, vS (t ++ [44, 32] ++ wordC (V [i]) ++ [32] ++ nameC (O [i]))), (8, vL 60 2 N), (9, vN N), (10, vN (i + 1 : Nat))]) ([]) 600) =
    (OkL [(decide ((↑i : Int) < (↑N : Int)), true), (decide ((0 : Int) ≤ (↑i : Int) ∧ (↑i : Int) < (↑N : Int)), true), (((0 : Nat) + (↑i : Int).toNat).blt N, true), (((0 : Nat) + (↑i : Int).toNat).blt N, true), (decide ((↑i : Int) > (0 : Int)), true), (decide (t.length + (2 : Nat) ≤ (9223372036854775807 : Nat)), true), ((↑(upd (upd (fun is => []) [(0 : Nat)] (wordC (V [(0 : Nat) + (↑i : Int).toNat]))) [(1 : Nat)] (nameC (O [(0 : Nat) + (↑i : Int).toNat])) [(0 : Nat)]).length : Int) == (0 : Int), false), (decide ((t ++ [(44 : UInt8), (32 : UInt8)]).length + (upd (upd (fun is => []) [(0 : Nat)] (wordC (V [(0 : Nat) + (↑i : Int).toNat]))) [(1 : Nat)] (nameC (O [(0 : Nat) + (↑i : Int).toNat])) [(0 : Nat)]).length ≤ (9223372036854775807 : Nat)), true), (decide ((t ++ [(44 : UInt8), (32 : UInt8)] ++ upd (upd (fun is => []) [(0 : Nat)] (wordC (V [(0 : Nat) + (↑i : Int).toNat]))) [(1 : Nat)] (nameC (O [(0 : Nat) + (↑i : Int).toNat])) [(0 : Nat)]).length + (1 : Nat) ≤ (9223372036854775807 : Nat)), true), ((↑(upd (upd (fun is => []) [(0 : Nat)] (wordC (V [(0 : Nat) + (↑i : Int).toNat]))) [(1 : Nat)] (nameC (O [(0 : Nat) + (↑i : Int).toNat])) [(1 : Nat)]).length : Int) == (0 : Int), false), (decide ((t ++ [(44 : UInt8), (32 : UInt8)] ++ upd (upd (fun is => []) [(0 : Nat)] (wordC (V [(0 : Nat) + (↑i : Int).toNat]))) [(1 : Nat)] (nameC (O [(0 : Nat) + (↑i : Int).toNat])) [(0 : Nat)] ++ [(32 : UInt8)]).length + (upd (upd (fun is => []) [(0 : Nat)] (wordC (V [(0 : Nat) + (↑i : Int).toNat]))) [(1 : Nat)] (nameC (O [(0 : Nat) + (↑i : Int).toNat])) [(1 : Nat)]).length ≤ (9223372036854775807 : Nat)), true)] ∧ headOf Tryd.f58 (0 : Nat) = headOf Tryd.f58 (0 : Nat) ∧ (t ++ [(44 : UInt8), (32 : UInt8)] ++ wordC (V [i]) ++ [(32 : UInt8)] ++ nameC (O [i]) = t ++ [(44 : UInt8), (32 : UInt8)] ++ upd (upd (fun is => []) [(0 : Nat)] (wordC (V [(0 : Nat) + (↑i : Int).toNat]))) [(1 : Nat)] (nameC (O [(0 : Nat) + (↑i : Int).toNat])) [(0 : Nat)] ++ [(32 : UInt8)] ++ upd (upd (fun is => []) [(0 : Nat)] (wordC (V [(0 : Nat) + (↑i : Int).toNat]))) [(1 : Nat)] (nameC (O [(0 : Nat) + (↑i : Int).toNat])) [(1 : Nat)] ∧ ((0 : Nat) = (0 : Nat) ∧ N = N) ∧ (↑N : Int) = (↑N : Int) ∧ (↑(i + (1 : Nat)) : Int) = IntKind.i64.wrap ((↑i : Int) + (1 : Int))) ∧ True) := by kernel_rfl

set_option maxHeartbeats 4000000 in
theorem rlA11 (N : Nat) (V O : Ix → Int) (t : List UInt8) (i : Nat) (hi : i < N) (h0 : 0 < i) (hN : N ≤ 1000) (ht : t.length ≤ 1000000) (c1 : wordC (V [i]) ≠ []) (c2 : nameC (O [i]) ≠ [])  (v : SV) (L' : HF) (next : RunsTo Tryd.prog 58 (headOf Tryd.f58 0) (envAt Tryd.f58.ntmps ([(3, vS (t ++ [44, 32] ++ wordC (V [i]) ++ [32] ++ nameC (O [i]))), (8, vL 60 2 N), (9, vN N), (10, vN (i + 1 : Nat))])) (Sx.look (eE 60 N V O ++ ([]))) 80 (v) (L') 600) :
    RunsTo Tryd.prog 58 (headOf Tryd.f58 0) (envAt Tryd.f58.ntmps ([(3, vS (t)), (8, vL 60 2 N), (9, vN N), (10, vN (i : Nat))])) (Sx.look (eE 60 N V O ++ ([]))) 80 (v) (L') 600 := by
  have hw : IntKind.i64.wrap ((i : Int) + 1) = ((i + 1 : Nat) : Int) := by rw [wr64 (by omega)]; rfl
  have q1 : (wordC (V [i])).length ≤ 100 := by unfold wordC; split <;> first | (exact wF_len _) | simp
  have q2 : (nameC (O [i])).length ≤ 8 := name_len8 _
  refine runs_more baseZ (More.of (rlA11_p0 N V O t i) ⟨?oo, rfl, ?rr⟩) (by kernel_rfl) (by kernel_rfl) rfl (gtL (by decide)) (by decide) next
  case oo =>
    clear next
    refine (okc ?_ (okc ?_ (okc ?_ (okc ?_ (okc ?_ (okc ?_ (okc ?_ (okc ?_ (okc ?_ (okc ?_ (okc ?_ okn)))))))))))
    all_goals first | omega | assumption | ((try simp (disch := omega) only [SS, upd, hw, c1, c2, List.length_append, List.length_cons, List.length_nil]); first | done | omega | assumption) | (simp_all [upd]; done) | (simp_all [upd]; omega)
  case rr =>
    clear next
    simp (disch := omega) only [SS, hw]
    repeat' apply And.intro
    all_goals first | exact True.intro | with_reducible rfl | omega | (simp_all [upd]; done) | rfl

theorem rlEnd_p0 (N : Nat) (V O : Ix → Int) (t : List UInt8) (i : Nat) :
    isEnd (evTill Tryd.prog sumsZ 600 (99) 900 58 (headOf Tryd.f58 0) (envAt Tryd.f58.ntmps ([(3, vS (t)), (8, vL 60 2 N), (9, vN N), (10, vN (i : Nat))])) (eE 60 N V O ++ ([])) ⟨[.s false], 120⟩) (endP ([]) (vS t) ([]) 600) =
    (OkL [(decide ((↑i : Int) < (↑N : Int)), false)] ∧ t = t ∧ True) := by kernel_rfl

set_option maxHeartbeats 4000000 in
theorem rlEnd (N : Nat) (V O : Ix → Int) (t : List UInt8) (i : Nat) (hi : i = N) :
    RunsTo Tryd.prog 58 (headOf Tryd.f58 0) (envAt Tryd.f58.ntmps ([(3, vS (t)), (8, vL 60 2 N), (9, vN N), (10, vN (i : Nat))])) (Sx.look (eE 60 N V O ++ ([]))) 80 (vS t) (Sx.look ([])) 600 := by
  refine runs_last baseZ (Sx.Ends.of (rlEnd_p0 N V O t i) ⟨?oo, ?rr⟩) (by kernel_rfl) rfl (gtL (by decide)) (by decide)
  case oo =>
    refine (okc ?_ okn)
    all_goals ((try simp (disch := omega) only [SS]); first | done | omega | assumption | (simp (disch := omega) only [SS] at *; first | done | omega | assumption) | (simp_all; done))
  case rr =>
    try simp (disch := omega) only [SS]
    repeat' apply And.intro
    all_goals first | exact True.intro | with_reducible rfl | omega | (intros; first | exact True.intro | with_reducible rfl | omega | (simp_all; done)) | (simp_all; done) | rfl

end Go.Proofs.YtealbjkhjpmilaaDoor

set_option linter.unusedSimpArgs false
set_option linter.unusedVariables false
set_option maxRecDepth 100000
namespace Go.Proofs.YtealbjkhjpmilaaDoor
open Go.Sx

open DecR
def cutOf (fn : Func) (k : Nat) : List Item := match dropC k (bodyOf fn) with | .seq a b => [.code a, .code b] | c => [.code c]
def lineP (P : Ix → List UInt8) : Nat → List UInt8
  | 0 => []
  | i + 1 => lineP P i ++ ((if 0 < i then [44, 32] else []) ++ P [i])
def powS : List Int := [1, 10, 100, 1000, 10000, 100000, 1000000, 10000000, 100000000, 1000000000, 10000000000, 100000000000, 1000000000000, 10000000000000, 100000000000000, 1000000000000000, 10000000000000000, 100000000000000000, 1000000000000000000, 10000000000000000000]
def powG : Ix → Int := fun is => powS.getD (is.headD 0) 0
theorem lineR_P (V O : Ix → Int) : ∀ n, lineR V O n = lineP (partF wF V O) n
  | 0 => rfl
  | n + 1 => by simp only [lineR, lineP, lineR_P V O n]; rfl
theorem row_snoc (P : Ix → List UInt8) (n : Nat) : rowS P [] 0 (n + 1) = rowS P [] 0 n ++ [P [n]] := by
  simp [rowS, List.range_succ]
theorem join_snoc (sep x : List UInt8) : ∀ xs : List (List UInt8), xs ≠ [] → joinS (xs ++ [x]) sep = joinS xs sep ++ (sep ++ x)
  | [], h => absurd rfl h
  | y :: r, _ => by
    unfold joinS
    rw [List.cons_append, Lib.join_cons, Lib.join_cons]
    simp [Lib.joinTail, List.append_assoc]
theorem join_line (P : Ix → List UInt8) : ∀ n, joinS (rowS P [] 0 n) [44, 32] = lineP P n
  | 0 => rfl
  | n + 1 => by
    rw [row_snoc]
    rcases Nat.eq_zero_or_pos n with h0 | h0
    · subst h0
      exact (Lib.join_one _ _).trans (by simp [lineP])
    · rw [join_snoc _ _ _ (by
        intro e
        have := congrArg List.length e
        simp [rowS] at this
        omega), join_line P n]
      simp only [lineP, if_pos h0]
theorem part_len (v o : Int) : (part wF v o).length ≤ 110 := by
  have h1 : (tq (wordG wF v)).length ≤ 100 := tq_len (word_len (by decide) v) (by omega)
  have h2 : (tq (nameC o)).length ≤ 8 := tq_len (name_len8 o) (by omega)
  unfold part
  simp only [List.length_append, List.length_cons, List.length_nil]
  omega
theorem lineR_len (V O : Ix → Int) : ∀ n, (lineR V O n).length ≤ 120 * n
  | 0 => by simp [lineR]
  | n + 1 => by
    have h1 := lineR_len V O n
    have h2 := part_len (V [n]) (O [n])
    have h3 : (if 0 < n then ([44, 32] : List UInt8) else []).length ≤ 2 := by split <;> simp
    simp only [lineR, List.length_append]
    omega
theorem rlL (N : Nat) (V O : Ix → Int) (hN : N ≤ 1000) : ∀ (k i : Nat), i + k = N → RunsTo Tryd.prog 58 (headOf Tryd.f58 0) (envAt Tryd.f58.ntmps ([(3, vS (lineR V O i)), (8, vL 60 2 N), (9, vN N), (10, vN (i : Nat))])) (Sx.look (eE 60 N V O ++ ([]))) 80 (vS (lineR V O N)) (Sx.look []) 600 := by
  intro k
  induction k with
  | zero => intro i hi
            have : i = N := by omega
            subst this
            exact rlEnd i V O _ i rfl
  | succ k ih =>
    intro i hi
    have h := ih (i + 1) (by omega)
    have hl := lineR_len V O i
    rcases Nat.eq_zero_or_pos i with h0 | h0
    · subst h0
      have e : lineR V O (0 + 1) = part wF (V [0]) (O [0]) := by simp [lineR]
      rw [e] at h
      by_cases c1 : wordC (V [0]) = []
      · by_cases c2 : nameC (O [0]) = []
        · have : part wF (V [0]) (O [0]) = [63] ++ [32] ++ [63] := by unfold part tq; rw [if_pos (show wordG wF (V [0]) = [] from c1), if_pos c2]
          rw [this] at h; exact rlA00z N V O (by omega) c1 c2 _ _ h
        · have : part wF (V [0]) (O [0]) = [63] ++ [32] ++ nameC (O [0]) := by unfold part tq; rw [if_pos (show wordG wF (V [0]) = [] from c1), if_neg c2]
          rw [this] at h; exact rlA01z N V O (by omega) c1 c2 _ _ h
      · by_cases c2 : nameC (O [0]) = []
        · have : part wF (V [0]) (O [0]) = wordC (V [0]) ++ [32] ++ [63] := by unfold part tq; rw [if_neg (show ¬ wordG wF (V [0]) = [] from c1), if_pos c2]; rfl
          rw [this] at h; exact rlA10z N V O (by omega) c1 c2 _ _ h
        · have : part wF (V [0]) (O [0]) = wordC (V [0]) ++ [32] ++ nameC (O [0]) := by unfold part tq; rw [if_neg (show ¬ wordG wF (V [0]) = [] from c1), if_neg c2]; rfl
          rw [this] at h; exact rlA11z N V O (by omega) c1 c2 _ _ h
    · have e : lineR V O (i + 1) = lineR V O i ++ ([44, 32] ++ part wF (V [i]) (O [i])) := by simp only [lineR, if_pos h0]
      by_cases c1 : wordC (V [i]) = []
      · by_cases c2 : nameC (O [i]) = []
        · have : lineR V O (i + 1) = lineR V O i ++ [44, 32] ++ [63] ++ [32] ++ [63] := by rw [e]; unfold part tq; rw [if_pos (show wordG wF (V [i]) = [] from c1), if_pos c2]; simp [List.append_assoc]
          rw [this] at h; exact rlA00 N V O _ i (by omega) h0 hN (by omega) c1 c2 _ _ h
        · have : lineR V O (i + 1) = lineR V O i ++ [44, 32] ++ [63] ++ [32] ++ nameC (O [i]) := by rw [e]; unfold part tq; rw [if_pos (show wordG wF (V [i]) = [] from c1), if_neg c2]; simp [List.append_assoc]
          rw [this] at h; exact rlA01 N V O _ i (by omega) h0 hN (by omega) c1 c2 _ _ h
      · by_cases c2 : nameC (O [i]) = []
        · have : lineR V O (i + 1) = lineR V O i ++ [44, 32] ++ wordC (V [i]) ++ [32] ++ [63] := by rw [e]; unfold part tq; rw [if_neg (show ¬ wordG wF (V [i]) = [] from c1), if_pos c2]; simp [List.append_assoc]; rfl
          rw [this] at h; exact rlA10 N V O _ i (by omega) h0 hN (by omega) c1 c2 _ _ h
        · have : lineR V O (i + 1) = lineR V O i ++ [44, 32] ++ wordC (V [i]) ++ [32] ++ nameC (O [i]) := by rw [e]; unfold part tq; rw [if_neg (show ¬ wordG wF (V [i]) = [] from c1), if_neg c2]; simp [List.append_assoc]; rfl
          rw [this] at h; exact rlA11 N V O _ i (by omega) h0 hN (by omega) c1 c2 _ _ h
theorem rlI (N : Nat) (V O : Ix → Int) (hN : N ≤ 1000) : RunsTo Tryd.prog 58 [.code (bodyOf Tryd.f58)] (envOf [vL 60 2 N] Tryd.f58.ntmps) (Sx.look (eE 60 N V O ++ ([]))) 80 (vS (lineR V O N)) (Sx.look []) 600 := rlStart N V O _ _ (rlL N V O hN N 0 (by omega))
theorem sameF0 (a b c d : Ix → Int) : sameF 0 0 a b c d = true := rfl
theorem nmK : numOf 25 = 5 ∧ numOf 28 = 3 ∧ numOf 29 = 4 ∧ numOf 30 = 9 ∧ numOf 32 = 1 := ⟨rfl, rfl, rfl, rfl, rfl⟩
def rlP : PC := { args := [.v (.vl 60 2 0)], heap := [⟨60, false, 2, .ta 0 (.tc (.vi .i64 1) (.tc (.vi .i64 2) .t0))⟩], gs := [], G := 25, tp := 223, n := 80, n' := 600, cond := fun e => decide (eN e 0 ≤ 1000), v := fun e => vS (lineR (eI e 1) (eI e 2) (eN e 0)), post := fun e => [] }
theorem rlP_pc : PC.Runs Tryd.prog 58 Tryd.f58 (bodyOf Tryd.f58) rlP := ⟨Tryd.func58, by kernel_rfl, (fun g hg => by first | (cases hg; done) | (revert g; show ∀ g ∈ ([] : List Nat), g < 25; decide)), fun e H hc => by
  have hc : (decide (eN e 0 ≤ 1000)) = true := hc
  try simp only [Bool.and_eq_true, decide_eq_true_eq, Nat.beq_eq] at hc
  exact rlI (eN e 0) (eI e 1) (eI e 2) hc⟩
def allS (t0 t1 t2 t3 t4 t5 t6 t7 t8 t9 t10 t11 t12 t13 t14 t15 : List UInt8) : List Ent := sentEnts 25 223 [(7, t0), (8, t1), (3, t2), (4, t3), (0, t4), (9, t5), (10, t6), (2, t7), (5, t8), (1, t9), (11, t10), (12, t11), (13, t12), (14, t13), (15, t14), (16, t15)]
def XL (t0 t1 t2 t3 t4 t5 t6 t7 t8 t9 t10 t11 t12 t13 t14 t15 : List UInt8) (N n : Nat) (V O B : Ix → Int) : List Ent := (allS t0 t1 t2 t3 t4 t5 t6 t7 t8 t9 t10 t11 t12 t13 t14 t15 ++ (tabF powG ++ tabW wF)) ++ (eE 100 N V O ++ [⟨101, false, none, 1, .ta n (.vi .u8 B)⟩])
def sumsBOk : List (FuncId × Summ) := [(55, bdOkP.summ 50), (59, paOkP.summ 50), (54, of2P.summ 50), (56, rbP.summ 50), (57, liP.summ 50), (58, rlP.summ 50), (60, saP.summ 50), (61, rpP.summ 50), (35, numS)]
theorem baseBOk : Base0 Tryd.prog sumsBOk := (((((((((baseO.cons Tryd.func35 (by kernel_rfl) numS_ok).cons Tryd.func61 (by kernel_rfl) (PC.summ_ok rpP_pc gtopG)).cons Tryd.func60 (by kernel_rfl) (PC.summ_ok saP_pc gtopG)).cons Tryd.func58 (by kernel_rfl) (PC.summ_ok rlP_pc gtopG)).cons Tryd.func57 (by kernel_rfl) (PC.summ_ok liP_pc gtopG)).cons Tryd.func56 (by kernel_rfl) (PC.summ_ok rbP_pc gtopG)).cons Tryd.func54 (by kernel_rfl) (PC.summ_ok of2P_pc gtopG)).cons Tryd.func59 (by kernel_rfl) (PC.summ_ok paOkP_pc gtopG)).cons Tryd.func55 (by kernel_rfl) (PC.summ_ok bdOkP_pc gtopG))
def sumsBLo : List (FuncId × Summ) := [(55, bdLoP.summ 50), (59, paOkP.summ 50), (54, of2P.summ 50), (56, rbP.summ 50), (57, liP.summ 50), (58, rlP.summ 50), (60, saP.summ 50), (61, rpP.summ 50), (35, numS)]
theorem baseBLo : Base0 Tryd.prog sumsBLo := (((((((((baseO.cons Tryd.func35 (by kernel_rfl) numS_ok).cons Tryd.func61 (by kernel_rfl) (PC.summ_ok rpP_pc gtopG)).cons Tryd.func60 (by kernel_rfl) (PC.summ_ok saP_pc gtopG)).cons Tryd.func58 (by kernel_rfl) (PC.summ_ok rlP_pc gtopG)).cons Tryd.func57 (by kernel_rfl) (PC.summ_ok liP_pc gtopG)).cons Tryd.func56 (by kernel_rfl) (PC.summ_ok rbP_pc gtopG)).cons Tryd.func54 (by kernel_rfl) (PC.summ_ok of2P_pc gtopG)).cons Tryd.func59 (by kernel_rfl) (PC.summ_ok paOkP_pc gtopG)).cons Tryd.func55 (by kernel_rfl) (PC.summ_ok bdLoP_pc gtopG))
def sumsBKi : List (FuncId × Summ) := [(55, bdKiP.summ 50), (59, paOkP.summ 50), (54, of2P.summ 50), (56, rbP.summ 50), (57, liP.summ 50), (58, rlP.summ 50), (60, saP.summ 50), (61, rpP.summ 50), (35, numS)]
theorem baseBKi : Base0 Tryd.prog sumsBKi := (((((((((baseO.cons Tryd.func35 (by kernel_rfl) numS_ok).cons Tryd.func61 (by kernel_rfl) (PC.summ_ok rpP_pc gtopG)).cons Tryd.func60 (by kernel_rfl) (PC.summ_ok saP_pc gtopG)).cons Tryd.func58 (by kernel_rfl) (PC.summ_ok rlP_pc gtopG)).cons Tryd.func57 (by kernel_rfl) (PC.summ_ok liP_pc gtopG)).cons Tryd.func56 (by kernel_rfl) (PC.summ_ok rbP_pc gtopG)).cons Tryd.func54 (by kernel_rfl) (PC.summ_ok of2P_pc gtopG)).cons Tryd.func59 (by kernel_rfl) (PC.summ_ok paOkP_pc gtopG)).cons Tryd.func55 (by kernel_rfl) (PC.summ_ok bdKiP_pc gtopG))
def sumsBRa : List (FuncId × Summ) := [(55, bdRaP.summ 50), (59, paOkP.summ 50), (54, of2P.summ 50), (56, rbP.summ 50), (57, liP.summ 50), (58, rlP.summ 50), (60, saP.summ 50), (61, rpP.summ 50), (35, numS)]
theorem baseBRa : Base0 Tryd.prog sumsBRa := (((((((((baseO.cons Tryd.func35 (by kernel_rfl) numS_ok).cons Tryd.func61 (by kernel_rfl) (PC.summ_ok rpP_pc gtopG)).cons Tryd.func60 (by kernel_rfl) (PC.summ_ok saP_pc gtopG)).cons Tryd.func58 (by kernel_rfl) (PC.summ_ok rlP_pc gtopG)).cons Tryd.func57 (by kernel_rfl) (PC.summ_ok liP_pc gtopG)).cons Tryd.func56 (by kernel_rfl) (PC.summ_ok rbP_pc gtopG)).cons Tryd.func54 (by kernel_rfl) (PC.summ_ok of2P_pc gtopG)).cons Tryd.func59 (by kernel_rfl) (PC.summ_ok paOkP_pc gtopG)).cons Tryd.func55 (by kernel_rfl) (PC.summ_ok bdRaP_pc gtopG))
def sumsPSh : List (FuncId × Summ) := [(59, paShP.summ 50), (54, of2P.summ 50), (56, rbP.summ 50), (57, liP.summ 50), (58, rlP.summ 50), (60, saP.summ 50), (61, rpP.summ 50), (35, numS)]
theorem basePSh : Base0 Tryd.prog sumsPSh := ((((((((baseO.cons Tryd.func35 (by kernel_rfl) numS_ok).cons Tryd.func61 (by kernel_rfl) (PC.summ_ok rpP_pc gtopG)).cons Tryd.func60 (by kernel_rfl) (PC.summ_ok saP_pc gtopG)).cons Tryd.func58 (by kernel_rfl) (PC.summ_ok rlP_pc gtopG)).cons Tryd.func57 (by kernel_rfl) (PC.summ_ok liP_pc gtopG)).cons Tryd.func56 (by kernel_rfl) (PC.summ_ok rbP_pc gtopG)).cons Tryd.func54 (by kernel_rfl) (PC.summ_ok of2P_pc gtopG)).cons Tryd.func59 (by kernel_rfl) (PC.summ_ok paShP_pc gtopG))
def sumsPLo : List (FuncId × Summ) := [(59, paLoP.summ 50), (54, of2P.summ 50), (56, rbP.summ 50), (57, liP.summ 50), (58, rlP.summ 50), (60, saP.summ 50), (61, rpP.summ 50), (35, numS)]
theorem basePLo : Base0 Tryd.prog sumsPLo := ((((((((baseO.cons Tryd.func35 (by kernel_rfl) numS_ok).cons Tryd.func61 (by kernel_rfl) (PC.summ_ok rpP_pc gtopG)).cons Tryd.func60 (by kernel_rfl) (PC.summ_ok saP_pc gtopG)).cons Tryd.func58 (by kernel_rfl) (PC.summ_ok rlP_pc gtopG)).cons Tryd.func57 (by kernel_rfl) (PC.summ_ok liP_pc gtopG)).cons Tryd.func56 (by kernel_rfl) (PC.summ_ok rbP_pc gtopG)).cons Tryd.func54 (by kernel_rfl) (PC.summ_ok of2P_pc gtopG)).cons Tryd.func59 (by kernel_rfl) (PC.summ_ok paLoP_pc gtopG))
def sumsPAs : List (FuncId × Summ) := [(59, paAsP.summ 50), (54, of2P.summ 50), (56, rbP.summ 50), (57, liP.summ 50), (58, rlP.summ 50), (60, saP.summ 50), (61, rpP.summ 50), (35, numS)]
theorem basePAs : Base0 Tryd.prog sumsPAs := ((((((((baseO.cons Tryd.func35 (by kernel_rfl) numS_ok).cons Tryd.func61 (by kernel_rfl) (PC.summ_ok rpP_pc gtopG)).cons Tryd.func60 (by kernel_rfl) (PC.summ_ok saP_pc gtopG)).cons Tryd.func58 (by kernel_rfl) (PC.summ_ok rlP_pc gtopG)).cons Tryd.func57 (by kernel_rfl) (PC.summ_ok liP_pc gtopG)).cons Tryd.func56 (by kernel_rfl) (PC.summ_ok rbP_pc gtopG)).cons Tryd.func54 (by kernel_rfl) (PC.summ_ok of2P_pc gtopG)).cons Tryd.func59 (by kernel_rfl) (PC.summ_ok paAsP_pc gtopG))
def sumsPFo : List (FuncId × Summ) := [(59, paFoP.summ 50), (54, of2P.summ 50), (56, rbP.summ 50), (57, liP.summ 50), (58, rlP.summ 50), (60, saP.summ 50), (61, rpP.summ 50), (35, numS)]
theorem basePFo : Base0 Tryd.prog sumsPFo := ((((((((baseO.cons Tryd.func35 (by kernel_rfl) numS_ok).cons Tryd.func61 (by kernel_rfl) (PC.summ_ok rpP_pc gtopG)).cons Tryd.func60 (by kernel_rfl) (PC.summ_ok saP_pc gtopG)).cons Tryd.func58 (by kernel_rfl) (PC.summ_ok rlP_pc gtopG)).cons Tryd.func57 (by kernel_rfl) (PC.summ_ok liP_pc gtopG)).cons Tryd.func56 (by kernel_rfl) (PC.summ_ok rbP_pc gtopG)).cons Tryd.func54 (by kernel_rfl) (PC.summ_ok of2P_pc gtopG)).cons Tryd.func59 (by kernel_rfl) (PC.summ_ok paFoP_pc gtopG))
def sumsPEv : List (FuncId × Summ) := [(59, paEvP.summ 50), (54, of2P.summ 50), (56, rbP.summ 50), (57, liP.summ 50), (58, rlP.summ 50), (60, saP.summ 50), (61, rpP.summ 50), (35, numS)]
theorem basePEv : Base0 Tryd.prog sumsPEv := ((((((((baseO.cons Tryd.func35 (by kernel_rfl) numS_ok).cons Tryd.func61 (by kernel_rfl) (PC.summ_ok rpP_pc gtopG)).cons Tryd.func60 (by kernel_rfl) (PC.summ_ok saP_pc gtopG)).cons Tryd.func58 (by kernel_rfl) (PC.summ_ok rlP_pc gtopG)).cons Tryd.func57 (by kernel_rfl) (PC.summ_ok liP_pc gtopG)).cons Tryd.func56 (by kernel_rfl) (PC.summ_ok rbP_pc gtopG)).cons Tryd.func54 (by kernel_rfl) (PC.summ_ok of2P_pc gtopG)).cons Tryd.func59 (by kernel_rfl) (PC.summ_ok paEvP_pc gtopG))
def sumsPOk : List (FuncId × Summ) := [(59, paOkP.summ 50), (54, of2P.summ 50), (56, rbP.summ 50), (57, liP.summ 50), (58, rlP.summ 50), (60, saP.summ 50), (61, rpP.summ 50), (35, numS)]
theorem basePOk : Base0 Tryd.prog sumsPOk := ((((((((baseO.cons Tryd.func35 (by kernel_rfl) numS_ok).cons Tryd.func61 (by kernel_rfl) (PC.summ_ok rpP_pc gtopG)).cons Tryd.func60 (by kernel_rfl) (PC.summ_ok saP_pc gtopG)).cons Tryd.func58 (by kernel_rfl) (PC.summ_ok rlP_pc gtopG)).cons Tryd.func57 (by kernel_rfl) (PC.summ_ok liP_pc gtopG)).cons Tryd.func56 (by kernel_rfl) (PC.summ_ok rbP_pc gtopG)).cons Tryd.func54 (by kernel_rfl) (PC.summ_ok of2P_pc gtopG)).cons Tryd.func59 (by kernel_rfl) (PC.summ_ok paOkP_pc gtopG))
def sumsPKi : List (FuncId × Summ) := [(59, paKiP.summ 50), (54, of2P.summ 50), (56, rbP.summ 50), (57, liP.summ 50), (58, rlP.summ 50), (60, saP.summ 50), (61, rpP.summ 50), (35, numS)]
theorem basePKi : Base0 Tryd.prog sumsPKi := ((((((((baseO.cons Tryd.func35 (by kernel_rfl) numS_ok).cons Tryd.func61 (by kernel_rfl) (PC.summ_ok rpP_pc gtopG)).cons Tryd.func60 (by kernel_rfl) (PC.summ_ok saP_pc gtopG)).cons Tryd.func58 (by kernel_rfl) (PC.summ_ok rlP_pc gtopG)).cons Tryd.func57 (by kernel_rfl) (PC.summ_ok liP_pc gtopG)).cons Tryd.func56 (by kernel_rfl) (PC.summ_ok rbP_pc gtopG)).cons Tryd.func54 (by kernel_rfl) (PC.summ_ok of2P_pc gtopG)).cons Tryd.func59 (by kernel_rfl) (PC.summ_ok paKiP_pc gtopG))
theorem stN_p0 (t0 t1 t2 t3 t4 t5 t6 t7 t8 t9 t10 t11 t12 t13 t14 t15 : List UInt8) (N n : Nat) (V O B : Ix → Int) :
    isEnd (evTill Tryd.prog sumsBOk 600 (99) 900 10 [.code (bodyOf Tryd.f10)] (envOf [vL 100 2 N, vL 101 1 n] Tryd.f10.ntmps) (XL t0 t1 t2 t3 t4 t5 t6 t7 t8 t9 t10 t11 t12 t13 t14 t15 N n V O B ++ ([])) ⟨[.t, .t, .t, .f, .s true], 110⟩) (endP ([]) (YES) ([]) 4000) =
    (OkL [(decide ((↑N : Int) > (150 : Int)), true)] ∧ true = true ∧ True) := by kernel_rfl

set_option maxHeartbeats 4000000 in
theorem stN (t0 t1 t2 t3 t4 t5 t6 t7 t8 t9 t10 t11 t12 t13 t14 t15 : List UInt8) (N n : Nat) (V O B : Ix → Int) (h : 150 < N) :
    RunsTo Tryd.prog 10 [.code (bodyOf Tryd.f10)] (envOf [vL 100 2 N, vL 101 1 n] Tryd.f10.ntmps) (Sx.look (XL t0 t1 t2 t3 t4 t5 t6 t7 t8 t9 t10 t11 t12 t13 t14 t15 N n V O B ++ ([]))) 110 (YES) (Sx.look ([])) 4000 := by
  refine runs_last baseBOk (Sx.Ends.of (stN_p0 t0 t1 t2 t3 t4 t5 t6 t7 t8 t9 t10 t11 t12 t13 t14 t15 N n V O B) ⟨?oo, ?rr⟩) (by kernel_rfl) rfl (gtL (by decide)) (by decide)
  case oo =>
    refine (okc ?_ okn)
    all_goals first | omega | rfl | decide | (simp (disch := omega) only [SS]; first | done | omega) | (simp_all; done)
  case rr =>
    try simp (disch := omega) only [SS]
    repeat' apply And.intro
    all_goals first | exact True.intro | with_reducible rfl | omega | (intros; first | exact True.intro | with_reducible rfl | omega | (simp_all; done)) | (simp_all; done) | rfl

theorem stn_p0 (t0 t1 t2 t3 t4 t5 t6 t7 t8 t9 t10 t11 t12 t13 t14 t15 : List UInt8) (N n : Nat) (V O B : Ix → Int) :
    isEnd (evTill Tryd.prog sumsBOk 600 (99) 900 10 [.code (bodyOf Tryd.f10)] (envOf [vL 100 2 N, vL 101 1 n] Tryd.f10.ntmps) (XL t0 t1 t2 t3 t4 t5 t6 t7 t8 t9 t10 t11 t12 t13 t14 t15 N n V O B ++ ([])) ⟨[.t, .t, .t, .f, .s false, .s true], 110⟩) (endP ([]) (YES) ([]) 4000) =
    (OkL [(decide ((↑N : Int) > (150 : Int)), false), (decide ((↑n : Int) > (300 : Int)), true)] ∧ true = true ∧ True) := by kernel_rfl

set_option maxHeartbeats 4000000 in
theorem stn (t0 t1 t2 t3 t4 t5 t6 t7 t8 t9 t10 t11 t12 t13 t14 t15 : List UInt8) (N n : Nat) (V O B : Ix → Int) (h1 : N ≤ 150) (h : 300 < n) :
    RunsTo Tryd.prog 10 [.code (bodyOf Tryd.f10)] (envOf [vL 100 2 N, vL 101 1 n] Tryd.f10.ntmps) (Sx.look (XL t0 t1 t2 t3 t4 t5 t6 t7 t8 t9 t10 t11 t12 t13 t14 t15 N n V O B ++ ([]))) 110 (YES) (Sx.look ([])) 4000 := by
  refine runs_last baseBOk (Sx.Ends.of (stn_p0 t0 t1 t2 t3 t4 t5 t6 t7 t8 t9 t10 t11 t12 t13 t14 t15 N n V O B) ⟨?oo, ?rr⟩) (by kernel_rfl) rfl (gtL (by decide)) (by decide)
  case oo =>
    refine (okc ?_ (okc ?_ okn))
    all_goals first | omega | rfl | decide | (simp (disch := omega) only [SS]; first | done | omega) | (simp_all; done)
  case rr =>
    try simp (disch := omega) only [SS]
    repeat' apply And.intro
    all_goals first | exact True.intro | with_reducible rfl | omega | (intros; first | exact True.intro | with_reducible rfl | omega | (simp_all; done)) | (simp_all; done) | rfl

theorem stStart_p0 (t0 t1 t2 t3 t4 t5 t6 t7 t8 t9 t10 t11 t12 t13 t14 t15 : List UInt8) (N n : Nat) (V O B : Ix → Int) :
    isMore (evTill Tryd.prog sumsBOk 600 (atRest Tryd.f10 3) 900 10 [.code (bodyOf Tryd.f10)] (envOf [vL 100 2 N, vL 101 1 n] Tryd.f10.ntmps) (XL t0 t1 t2 t3 t4 t5 t6 t7 t8 t9 t10 t11 t12 t13 t14 t15 N n V O B ++ ([])) ⟨[.t, .t, .t, .f, .s false, .s false], 110⟩) (moreP (cutOf Tryd.f10 3) ([]) Tryd.f10.ntmps ([(0, vL 100 2 N), (1, vL 101 1 n)]) ([]) 4000) =
    (OkL [(decide ((↑N : Int) > (150 : Int)), false), (decide ((↑n : Int) > (300 : Int)), false)] ∧ cutOf Tryd.f10 (3 : Nat) = cutOf Tryd.f10 (3 : Nat) ∧ (((0 : Nat) = (0 : Nat) ∧ N = N) ∧ (0 : Nat) = (0 : Nat) ∧ n = n) ∧ True) := by kernel_rfl

set_option maxHeartbeats 4000000 in
theorem stStart (t0 t1 t2 t3 t4 t5 t6 t7 t8 t9 t10 t11 t12 t13 t14 t15 : List UInt8) (N n : Nat) (V O B : Ix → Int) (h1 : N ≤ 150) (h2 : n ≤ 300) (next : RunsTo Tryd.prog 10 (cutOf Tryd.f10 3) (envAt Tryd.f10.ntmps ([(0, vL 100 2 N), (1, vL 101 1 n)])) (Sx.look (XL t0 t1 t2 t3 t4 t5 t6 t7 t8 t9 t10 t11 t12 t13 t14 t15 N n V O B ++ ([]))) 110 (YES) (Sx.look []) 4000) :
    RunsTo Tryd.prog 10 [.code (bodyOf Tryd.f10)] (envOf [vL 100 2 N, vL 101 1 n] Tryd.f10.ntmps) (Sx.look (XL t0 t1 t2 t3 t4 t5 t6 t7 t8 t9 t10 t11 t12 t13 t14 t15 N n V O B ++ ([]))) 110 (YES) (Sx.look []) 4000 := by
  refine runs_more baseBOk (More.of (stStart_p0 t0 t1 t2 t3 t4 t5 t6 t7 t8 t9 t10 t11 t12 t13 t14 t15 N n V O B) ⟨?oo, rfl, ?rr⟩) (by kernel_rfl) (by kernel_rfl) rfl (gtL (by decide)) (by decide) next
  case oo =>
    clear next
    refine (okc ?_ (okc ?_ okn))
    all_goals first | omega | rfl | decide | (simp (disch := omega) only [SS]; first | done | omega) | (simp_all; done)
  case rr =>
    clear next
    try simp (disch := omega) only [SS]
    repeat' apply And.intro
    all_goals first | exact True.intro | with_reducible rfl | omega | (intros; first | exact True.intro | with_reducible rfl | omega | (simp_all; done)) | (simp_all; done) | rfl

end Go.Proofs.YtealbjkhjpmilaaDoor

