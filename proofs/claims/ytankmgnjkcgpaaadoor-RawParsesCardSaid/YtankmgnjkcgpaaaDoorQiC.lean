/- Raw: the document's Parse: it answers as the program's. -/
import Derived.Test.YtankmgnjkcgpaaaDoorQgC
import Derived.Test.YtankmgnjkcgpaaaDoorQaC
import Derived.Test.YtankmgnjkcgpaaaDoorQeC
set_option linter.unusedSimpArgs false
set_option linter.unusedVariables false
set_option maxRecDepth 100000
namespace Go.Proofs.YtankmgnjkcgpaaaDoor
open Go.Sx RawR

def splW (P : List (List UInt8)) (w : List UInt8) (r : List UInt8) : List (List UInt8) := match splitR 32 r with | a :: l => P ++ (w ++ a) :: l | [] => P ++ [w]
theorem splW_nil (P : List (List UInt8)) (w : List UInt8) : splW P w [] = P ++ [w] := by simp [splW, splitR]
theorem splW_sp (P : List (List UInt8)) (w r : List UInt8) : splW P w (32 :: r) = splW (P ++ [w]) [] r := by
  unfold splW
  rw [splitR, if_pos rfl]
  cases h : splitR 32 r with
  | nil => exact absurd h (splitR_ne 32 r)
  | cons a l => simp
theorem splW_ch (P : List (List UInt8)) (w r : List UInt8) {c : UInt8} (hc : c ≠ 32) : splW P w (c :: r) = splW P (w ++ [c]) r := by
  unfold splW
  rw [splitR, if_neg hc]
  cases h : splitR 32 r with
  | nil => exact absurd h (splitR_ne 32 r)
  | cons a l => simp
theorem pad_len (T : List (List UInt8)) : (padR T).length = max 4 T.length := by simp [padR]; omega
theorem pad_get (T : List (List UInt8)) (k : Nat) : (padR T).getD k [] = T.getD k [] := by
  unfold padR
  rcases Nat.lt_or_ge k T.length with h | h
  · simp [List.getD_eq_getElem?_getD, List.getElem?_append_left h]
  · rw [List.getD_eq_getElem?_getD, List.getD_eq_getElem?_getD, List.getElem?_append_right h, List.getElem?_eq_none h, List.getElem?_replicate]
    split <;> rfl
theorem dp_no {s : List UInt8} (h : ¬ (rightR (seemR (padR (splitR 32 s))) = true ∧ lineR (seemR (padR (splitR 32 s))) = s)) : dpR s = ev0 ∧ dpK s = false := ⟨if_neg h, decide_eq_false h⟩
theorem dp_yes {s : List UInt8} (h : rightR (seemR (padR (splitR 32 s))) = true ∧ lineR (seemR (padR (splitR 32 s))) = s) : dpR s = seemR (padR (splitR 32 s)) ∧ dpK s = true := ⟨if_pos h, decide_eq_true h⟩

theorem dpNum (s : List UInt8) (T : List (List UInt8)) (k : Int) (hk : k = 2 ∨ k = 3) (w : List UInt8) (hw1 : T.getD 1 [] = w) (h : 4 ≤ T.length) (hTl : T.length ≤ 2000) (v : SV) (L' : HF) (fin : ∀ (n : Int) (i : Nat), ¬ (i < w.length ∧ i < 5) → 0 ≤ n → n ≤ 1000000 → n = numD 0 (w.take 5) → RunsTo Tryd.prog 39 (headOf Tryd.f39 3) (envAt Tryd.f39.ntmps ([(0, vS s), (2, vP 104), (4, vL 102 1 T.length), (6, vP 101), (9, vN (i : Nat))])) (Sx.look ([] ++ (bx0 ++ (bxE (k) (n) ++ txE true 102 (T).length (T))))) 80 (v) (L') 250) : RunsTo Tryd.prog 39 (headOf Tryd.f39 3) (envAt Tryd.f39.ntmps ([(0, vS s), (2, vP 104), (4, vL 102 1 T.length), (6, vP 101), (9, vN (0 : Nat))])) (Sx.look ([] ++ (bx0 ++ (bxE (k) (0) ++ txE true 102 (T).length (T))))) 80 (v) (L') 250 := by
  suffices q : ∀ (j i : Nat) (n : Int), i + j = 5 → 0 ≤ n → 9 * n + 15 ≤ 15 * 10 ^ i → numD n ((w.take 5).drop i) = numD 0 (w.take 5) → RunsTo Tryd.prog 39 (headOf Tryd.f39 3) (envAt Tryd.f39.ntmps ([(0, vS s), (2, vP 104), (4, vL 102 1 T.length), (6, vP 101), (9, vN (i : Nat))])) (Sx.look ([] ++ (bx0 ++ (bxE (k) (n) ++ txE true 102 (T).length (T))))) 80 (v) (L') 250 from q 5 0 0 (by omega) (by omega) (by decide) rfl
  intro j
  induction j with
  | zero =>
    intro i n hi h0 hb hn
    obtain rfl : i = 5 := by omega
    refine fin n 5 (by omega) h0 (by have : (10 : Int) ^ 5 = 100000 := by decide
                                     omega) ?_
    rw [List.drop_eq_nil_of_le (by rw [List.length_take]; omega)] at hn
    exact hn
  | succ j ih =>
    intro i n hi h0 hb hn
    have hp : (10 : Int) ^ i ≤ 100000 := by
      have : i ≤ 4 := by omega
      match i, this with
      | 0, _ => decide
      | 1, _ => decide
      | 2, _ => decide
      | 3, _ => decide
      | 4, _ => decide
    by_cases hl : i < w.length
    · have hd := dgt_le (w.getD i 0)
      have ht : (w.take 5).drop i = w.getD i 0 :: (w.take 5).drop (i + 1) := by
        rw [drop_at _ (by rw [List.length_take]; omega)]
        congr 1
        simp [List.getD_eq_getElem?_getD, List.getElem?_take, show i < 5 by omega]
      refine dpb s T k n i w (w.getD i 0) hl (by omega) rfl hk hw1 h0 (by omega) h hTl _ _ ?_
      refine ih (i + 1) _ (by omega) (by omega) (by rw [Int.pow_succ]; omega) ?_
      rw [ht, numD] at hn
      exact hn
    · refine fin n i (by omega) h0 (by omega) ?_
      rw [List.drop_eq_nil_of_le (by rw [List.length_take]; omega)] at hn
      exact hn

theorem dpByt (s : List UInt8) (T : List (List UInt8)) (w : List UInt8) (hw1 : T.getD 1 [] = w) (hwl : w.length ≤ 1000) (h : 4 ≤ T.length) (v : SV) (L' : HF) (fin : (bytD w).length ≤ 1000 → RunsTo Tryd.prog 39 (headOf Tryd.f39 5) (envAt Tryd.f39.ntmps ([(0, vS s), (2, vP 104), (4, vL 102 1 T.length), (6, vP 101), (12, vN (0)), (13, vB false), (14, vN (0 : Nat))])) (Sx.look ([] ++ (bx0 ++ (bxM (bytD w) (([] : List Int)) ++ (txE true 102 (T).length (T) ++ iW 103 (([] : List Int))))))) 80 (v) (L') 250) : RunsTo Tryd.prog 39 (headOf Tryd.f39 4) (envAt Tryd.f39.ntmps ([(0, vS s), (2, vP 104), (4, vL 102 1 T.length), (6, vP 101), (10, vL 103 1 (([] : List UInt8)).length), (11, vN (0 : Nat))])) (Sx.look ([] ++ (bx0 ++ (bxE 1 0 ++ (txE true 102 (T).length (T) ++ bW 103 (([] : List UInt8))))))) 80 (v) (L') 250 := by
  suffices q : ∀ (j i : Nat) (b : List UInt8), w.length ≤ i + 2 * j → i ≤ w.length → 2 * b.length ≤ i → b ++ bytD (w.drop i) = bytD w → RunsTo Tryd.prog 39 (headOf Tryd.f39 4) (envAt Tryd.f39.ntmps ([(0, vS s), (2, vP 104), (4, vL 102 1 T.length), (6, vP 101), (10, vL 103 1 (b).length), (11, vN (i : Nat))])) (Sx.look ([] ++ (bx0 ++ (bxE 1 0 ++ (txE true 102 (T).length (T) ++ bW 103 (b)))))) 80 (v) (L') 250 from q w.length 0 [] (by omega) (by omega) (by simp) rfl
  have stop : ∀ (i : Nat) (b : List UInt8), ¬ i + 1 < w.length → i ≤ w.length → 2 * b.length ≤ i → b ++ bytD (w.drop i) = bytD w → RunsTo Tryd.prog 39 (headOf Tryd.f39 4) (envAt Tryd.f39.ntmps ([(0, vS s), (2, vP 104), (4, vL 102 1 T.length), (6, vP 101), (10, vL 103 1 (b).length), (11, vN (i : Nat))])) (Sx.look ([] ++ (bx0 ++ (bxE 1 0 ++ (txE true 102 (T).length (T) ++ bW 103 (b)))))) 80 (v) (L') 250 := by
    intro i b hi hil hb he
    have hz : bytD (w.drop i) = [] := by
      have hl : (w.drop i).length ≤ 1 := by rw [List.length_drop]; omega
      match w.drop i, hl with
      | [], _ => rfl
      | [x], _ => rfl
      | _ :: _ :: _, hl => simp at hl
    rw [hz, List.append_nil] at he
    refine dr2 s T b i w hi (by omega) hw1 h (by omega) _ _ ?_
    rw [he]
    exact fin (by rw [← he]; omega)
  intro j
  induction j with
  | zero => intro i b h1 h2 hb he; exact stop i b (by omega) h2 hb he
  | succ j ih =>
    intro i b h1 h2 hb he
    by_cases hi : i + 1 < w.length
    · refine dr1 s T b i w (w.getD i 0) (w.getD (i + 1) 0) hi hwl rfl rfl hw1 h (by omega) _ _ ?_
      refine ih (i + 2) _ (by omega) (by omega) (by simp; omega) ?_
      rw [drop_at w (show i < w.length by omega), drop_at w (show i + 1 < w.length by omega), bytD] at he
      rw [← he]
      simp
    · exact stop i b hi h2 hb he

theorem mrkD_len : ∀ (r : List UInt8) (n : Int) (o : Bool), (mrkD n o r).length ≤ r.length + 1
  | [], n, o => by rw [mrkD]; split <;> simp
  | c :: r, n, o => by
    have h1 := mrkD_len r 0 false
    have h2 := mrkD_len r (min (10 * n + dgt c) 100000) true
    rw [mrkD]
    repeat' split
    all_goals simp only [List.length_cons]
    all_goals omega

theorem dpMrk (s : List UInt8) (T : List (List UInt8)) (b : List UInt8) (w : List UInt8) (hw3 : T.getD 3 [] = w) (hwl : w.length ≤ 1000) (h : 4 ≤ T.length) (v : SV) (L' : HF) (fin : ∀ (n : Int) (op : Bool) (i : Nat), i = w.length + 1 → 0 ≤ n ∧ n ≤ 100000 → (mrkD 0 false w).length ≤ 1001 → RunsTo Tryd.prog 39 (headOf Tryd.f39 5) (envAt Tryd.f39.ntmps ([(0, vS s), (2, vP 104), (4, vL 102 1 T.length), (6, vP 101), (12, vN (n)), (13, vB op), (14, vN (i : Nat))])) (Sx.look ([] ++ (bx0 ++ (bxM (b) (mrkD 0 false w) ++ (txE true 102 (T).length (T) ++ iW 103 (mrkD 0 false w)))))) 80 (v) (L') 250) : RunsTo Tryd.prog 39 (headOf Tryd.f39 5) (envAt Tryd.f39.ntmps ([(0, vS s), (2, vP 104), (4, vL 102 1 T.length), (6, vP 101), (12, vN (0)), (13, vB false), (14, vN (0 : Nat))])) (Sx.look ([] ++ (bx0 ++ (bxM (b) (([] : List Int)) ++ (txE true 102 (T).length (T) ++ iW 103 (([] : List Int))))))) 80 (v) (L') 250 := by
  have hml := mrkD_len w 0 false
  suffices q : ∀ (j i : Nat) (m : List Int) (n : Int) (op : Bool), i + j = w.length → 0 ≤ n ∧ n ≤ 100000 → m.length ≤ i → m ++ mrkD n op (w.drop i) = mrkD 0 false w → RunsTo Tryd.prog 39 (headOf Tryd.f39 5) (envAt Tryd.f39.ntmps ([(0, vS s), (2, vP 104), (4, vL 102 1 T.length), (6, vP 101), (12, vN (n)), (13, vB op), (14, vN (i : Nat))])) (Sx.look ([] ++ (bx0 ++ (bxM (b) (m) ++ (txE true 102 (T).length (T) ++ iW 103 (m)))))) 80 (v) (L') 250 from q w.length 0 [] 0 false (by omega) (by omega) (by simp) rfl
  intro j
  induction j with
  | zero =>
    intro i m n op hi hn hm he
    rw [List.drop_eq_nil_of_le (by omega), mrkD] at he
    cases op with
    | true =>
      refine dr6 s T b m n i w (by omega) hw3 h hn (by omega) hwl _ _ ?_
      rw [if_pos rfl] at he
      rw [he]
      exact fin 0 false (i + 1) (by omega) (by omega) (by omega)
    | false =>
      refine dr7 s T b m n i w (by omega) hw3 h hn (by omega) hwl _ _ ?_
      rw [if_neg (by decide), List.append_nil] at he
      rw [he]
      exact fin 0 false (i + 1) (by omega) (by omega) (by omega)
  | succ j ih =>
    intro i m n op hi hn hm he
    rw [drop_at w (show i < w.length by omega), mrkD] at he
    have hd := dgt_le (w.getD i 0)
    by_cases h44 : w.getD i 0 = 44
    · rw [if_pos h44] at he
      cases op with
      | true =>
        refine dr3 s T b m n i w (w.getD i 0) (by omega) rfl h44 hw3 h hn (by omega) hwl _ _ (ih (i + 1) _ 0 false (by omega) (by omega) (by simp; omega) ?_)
        rw [if_pos rfl] at he
        rw [← he]; simp
      | false =>
        refine dr4 s T b m n i w (w.getD i 0) (by omega) rfl h44 hw3 h hn (by omega) hwl _ _ (ih (i + 1) _ 0 false (by omega) (by omega) (by omega) ?_)
        rw [if_neg (by decide)] at he
        exact he
    · rw [if_neg h44] at he
      exact dr5 s T b m n i w op (w.getD i 0) (by omega) rfl h44 hw3 h hn (by omega) hwl _ _ (ih (i + 1) m _ true (by omega) (by omega) (by omega) he)

theorem dpT (s : List UInt8) (hs : s.length ≤ 1000) : RunsTo Tryd.prog 39 [.code (bodyOf Tryd.f39)] (envOf [vS s] Tryd.f39.ntmps) (Sx.look ([] ++ ([]))) 80 (dpV (dpR s) (dpK s)) (Sx.look (iW 141 (dpR s).M)) 250 := by
  have hmem := split_mem_len 32 s
  have hlen := splitR_len 32 s
  have hcl : s.count 32 ≤ s.length := List.count_le_length
  refine dp0 s _ _ ?_
  -- the words
  suffices q1 : RunsTo Tryd.prog 39 (headOf Tryd.f39 1) (envAt Tryd.f39.ntmps ([(0, vS s), (2, vP 104), (4, vL 102 1 (splitR 32 s).length)])) (Sx.look ([] ++ (bx0 ++ txE true 102 (splitR 32 s).length (splitR 32 s)))) 80 (dpV (dpR s) (dpK s)) (Sx.look (iW 141 (dpR s).M)) 250 from by
    suffices q : ∀ (j i : Nat) (P : List (List UInt8)) (w : List UInt8), i + j = s.length → P.length ≤ i → w.length ≤ i → splW P w (s.drop i) = splitR 32 s → RunsTo Tryd.prog 39 (headOf Tryd.f39 0) (envAt Tryd.f39.ntmps ([(0, vS s), (2, vP 104), (4, vL 102 1 (P ++ [w]).length), (5, vN (i : Nat))])) (Sx.look ([] ++ (bx0 ++ txE true 102 (P ++ [w]).length (P ++ [w])))) 80 (dpV (dpR s) (dpK s)) (Sx.look (iW 141 (dpR s).M)) 250 from by
      refine q s.length 0 [] [] (by omega) (by simp) (by simp) ?_
      rw [List.drop_zero]
      unfold splW
      cases h : splitR 32 s with
      | nil => exact absurd h (splitR_ne 32 s)
      | cons a l => simp
    intro j
    induction j with
    | zero =>
      intro i P w hi hP hw he
      rw [List.drop_eq_nil_of_le (by omega), splW_nil] at he
      refine dp3 s P w i (by omega) _ _ ?_
      rw [he]; exact q1
    | succ j ih =>
      intro i P w hi hP hw he
      rw [drop_at s (show i < s.length by omega)] at he
      by_cases h32 : s.getD i 0 = 32
      · rw [h32, splW_sp] at he
        exact dp1 s P w i (s.getD i 0) h32 (by omega) rfl (by omega) (by omega) hs _ _ (ih (i + 1) _ [] (by omega) (by simp; omega) (by simp) he)
      · rw [splW_ch _ _ _ h32] at he
        exact dp2 s P w i (s.getD i 0) h32 (by omega) rfl (by omega) (by omega) hs _ _ (ih (i + 1) P _ (by omega) (by omega) (by simp; omega) he)
  -- four of them
  suffices q2 : RunsTo Tryd.prog 39 (headOf Tryd.f39 1) (envAt Tryd.f39.ntmps ([(0, vS s), (2, vP 104), (4, vL 102 1 (padR (splitR 32 s)).length)])) (Sx.look ([] ++ (bx0 ++ txE true 102 (padR (splitR 32 s)).length (padR (splitR 32 s))))) 80 (dpV (dpR s) (dpK s)) (Sx.look (iW 141 (dpR s).M)) 250 from by
    suffices q : ∀ (j : Nat) (T : List (List UInt8)), 0 < T.length → 4 ≤ T.length + j → padR T = padR (splitR 32 s) → RunsTo Tryd.prog 39 (headOf Tryd.f39 1) (envAt Tryd.f39.ntmps ([(0, vS s), (2, vP 104), (4, vL 102 1 (T).length)])) (Sx.look ([] ++ (bx0 ++ txE true 102 (T).length (T)))) 80 (dpV (dpR s) (dpK s)) (Sx.look (iW 141 (dpR s).M)) 250 from q 4 _ (List.length_pos_iff.2 (splitR_ne 32 s)) (by omega) rfl
    intro j
    induction j with
    | zero =>
      intro T h0 h4 hp
      have : padR T = T := by unfold padR; rw [show 4 - T.length = 0 by omega]; simp
      rw [← this, hp]; exact q2
    | succ j ih =>
      intro T h0 h4 hp
      by_cases hT : T.length < 4
      · refine dp4 s T hT h0 _ _ (ih (T ++ [[]]) (by simp) (by simp; omega) ?_)
        rw [← hp]
        unfold padR
        rw [List.length_append, List.length_singleton, show 4 - T.length = (4 - (T.length + 1)) + 1 by omega, List.replicate_succ, List.append_assoc]; rfl
      · have : padR T = T := by unfold padR; rw [show 4 - T.length = 0 by omega]; simp
        rw [← this, hp]; exact q2
  have hT4 : 4 ≤ (padR (splitR 32 s)).length := by rw [pad_len]; omega
  have hTl : (padR (splitR 32 s)).length ≤ 2000 := by rw [pad_len]; omega
  have hwl : ∀ k, ((padR (splitR 32 s)).getD k []).length ≤ 1000 := by
    intro k
    rw [pad_get]
    rcases Nat.lt_or_ge k (splitR 32 s).length with hk | hk
    · have := hmem _ (getD_mem' (d := []) hk); omega
    · rw [List.getD_eq_getElem?_getD, List.getElem?_eq_none hk]; simp
  have dno := @dp_no s
  have dyes := @dp_yes s
  generalize padR (splitR 32 s) = T at hT4 hTl hwl dno dyes
  refine dq0 s T hT4 hTl _ _ ?_
  have st1 : ∀ (k : Int) (i : Nat) (x : List UInt8), i < 4 → ([[98, 121, 116, 101, 115], [103, 114, 97, 110, 116], [116, 105, 99, 107], [99, 108, 111, 115, 101]] : List (List UInt8)).getD i [] = x → T.getD 0 [] ≠ x → ∀ v L', (RunsTo Tryd.prog 39 (headOf Tryd.f39 2) (envAt Tryd.f39.ntmps ([(0, vS s), (2, vP 104), (4, vL 102 1 T.length), (6, vP 101), (49, vL 105 1 4), (50, vN 4), (51, vN (i + 1 : Nat))])) (Sx.look ([] ++ (bx0 ++ (bxE (k) 0 ++ (txE true 102 (T).length (T) ++ kwE))))) 80 (v) (L') 250) → RunsTo Tryd.prog 39 (headOf Tryd.f39 2) (envAt Tryd.f39.ntmps ([(0, vS s), (2, vP 104), (4, vL 102 1 T.length), (6, vP 101), (49, vL 105 1 4), (50, vN 4), (51, vN (i : Nat))])) (Sx.look ([] ++ (bx0 ++ (bxE (k) 0 ++ (txE true 102 (T).length (T) ++ kwE))))) 80 (v) (L') 250 := fun k i x hi hx hne v L' nx => dq1 s T k i x _ hne hi hx rfl hT4 v L' nx
  have st2 : ∀ (k : Int) (i : Nat) (x : List UInt8), i < 4 → ([[98, 121, 116, 101, 115], [103, 114, 97, 110, 116], [116, 105, 99, 107], [99, 108, 111, 115, 101]] : List (List UInt8)).getD i [] = x → T.getD 0 [] = x → ∀ v L', (RunsTo Tryd.prog 39 (headOf Tryd.f39 2) (envAt Tryd.f39.ntmps ([(0, vS s), (2, vP 104), (4, vL 102 1 T.length), (6, vP 101), (49, vL 105 1 4), (50, vN 4), (51, vN (i + 1 : Nat))])) (Sx.look ([] ++ (bx0 ++ (bxE ((i : Int) + 1) 0 ++ (txE true 102 (T).length (T) ++ kwE))))) 80 (v) (L') 250) → RunsTo Tryd.prog 39 (headOf Tryd.f39 2) (envAt Tryd.f39.ntmps ([(0, vS s), (2, vP 104), (4, vL 102 1 T.length), (6, vP 101), (49, vL 105 1 4), (50, vN 4), (51, vN (i : Nat))])) (Sx.look ([] ++ (bx0 ++ (bxE (k) 0 ++ (txE true 102 (T).length (T) ++ kwE))))) 80 (v) (L') 250 := fun k i x hi hx he v L' nx => dq2 s T k i x _ he hi hx rfl hT4 v L' nx
  by_cases h1 : T.getD 0 [] = wBytes
  · have n2 : T.getD 0 [] ≠ wGrant := by rw [h1]; decide
    have n3 : T.getD 0 [] ≠ wTick := by rw [h1]; decide
    have n4 : T.getD 0 [] ≠ wClose := by rw [h1]; decide
    have hse : seemR T = ⟨1, 0, bytD (T.getD 1 []), mrkD 0 false (T.getD 3 [])⟩ := if_pos h1
    refine st2 0 0 wBytes (by omega) rfl h1 _ _ (st1 _ 1 wGrant (by omega) rfl n2 _ _ (st1 _ 2 wTick (by omega) rfl n3 _ _ (st1 _ 3 wClose (by omega) rfl n4 _ _ ?_)))
    refine dp5 s T hT4 hTl _ _ ?_
    refine dpByt s T _ rfl (hwl 1) hT4 _ _ fun hbl => ?_
    refine dpMrk s T _ _ rfl (hwl 3) hT4 _ _ fun n op i hi hn hml => ?_
    cases hr : rightR ⟨1, 0, bytD (T.getD 1 []), mrkD 0 false (T.getD 3 [])⟩ with
    | false =>
      obtain ⟨e1, e2⟩ := dno (by rw [hse, hr]; simp)
      rw [e1, e2]
      exact dr8 s T _ _ n i _ op hr hi (by omega) hbl rfl hT4 hn (by omega) (hwl 3)
    | true =>
      by_cases hl : lineR ⟨1, 0, bytD (T.getD 1 []), mrkD 0 false (T.getD 3 [])⟩ = s
      · obtain ⟨e1, e2⟩ := dyes (by rw [hse]; exact ⟨hr, hl⟩)
        rw [e1, e2, hse]
        exact dra s T _ _ n i _ op hr hl hi (by omega) hbl rfl hT4 hn (by omega) (hwl 3)
      · obtain ⟨e1, e2⟩ := dno (by rw [hse]; exact fun h => hl h.2)
        rw [e1, e2]
        exact dr9 s T _ _ n i _ op hr hl hi (by omega) hbl rfl hT4 hn (by omega) (hwl 3)
  by_cases h2 : T.getD 0 [] = wGrant
  · have n3 : T.getD 0 [] ≠ wTick := by rw [h2]; decide
    have n4 : T.getD 0 [] ≠ wClose := by rw [h2]; decide
    have hse : seemR T = ⟨2, numD 0 ((T.getD 1 []).take 5), [], []⟩ := by unfold seemR; rw [if_neg h1, if_pos h2]
    refine st1 0 0 wBytes (by omega) rfl h1 _ _ (st2 _ 1 wGrant (by omega) rfl h2 _ _ (st1 _ 2 wTick (by omega) rfl n3 _ _ (st1 _ 3 wClose (by omega) rfl n4 _ _ ?_)))
    refine dp6 s T hT4 hTl _ _ ?_
    refine dpNum s T 2 (.inl rfl) _ rfl hT4 hTl _ _ fun n i hi h0 hn he => ?_
    rw [← he] at hse
    have q1 := itoa_len (inN_of (x := n) (by omega))
    by_cases h9 : n ≤ 9999
    · by_cases hl : [103, 114, 97, 110, 116, 32] ++ Lib.itoa n = s
      · obtain ⟨e1, e2⟩ := dyes (by rw [hse]; exact ⟨by simp [rightR, h0, h9], hl⟩)
        rw [e1, e2, hse]
        exact dpc2 s T n i _ [] [] hi rfl h0 q1 (by omega) hT4 hTl rfl rfl h9 hl
      · obtain ⟨e1, e2⟩ := dno (by rw [hse]; exact fun h => hl h.2)
        rw [e1, e2]
        exact dpd2 s T n i _ [] [] hi rfl h0 q1 (by omega) hT4 hTl rfl rfl h9 hl
    · obtain ⟨e1, e2⟩ := dno (by rw [hse]; intro h; have := h.1; simp [rightR, h9] at this)
      rw [e1, e2]
      exact dpe2 s T n i _ [] [] hi rfl h0 q1 (by omega) hT4 hTl rfl rfl h9
  by_cases h3 : T.getD 0 [] = wTick
  · have n4 : T.getD 0 [] ≠ wClose := by rw [h3]; decide
    have hse : seemR T = ⟨3, numD 0 ((T.getD 1 []).take 5), [], []⟩ := by unfold seemR; rw [if_neg h1, if_neg h2, if_pos h3]
    refine st1 0 0 wBytes (by omega) rfl h1 _ _ (st1 _ 1 wGrant (by omega) rfl h2 _ _ (st2 _ 2 wTick (by omega) rfl h3 _ _ (st1 _ 3 wClose (by omega) rfl n4 _ _ ?_)))
    refine dp7 s T hT4 hTl _ _ ?_
    refine dpNum s T 3 (.inr rfl) _ rfl hT4 hTl _ _ fun n i hi h0 hn he => ?_
    rw [← he] at hse
    have q1 := itoa_len (inN_of (x := n) (by omega))
    by_cases h9 : n ≤ 9999
    · by_cases hl : [116, 105, 99, 107, 32] ++ Lib.itoa n = s
      · obtain ⟨e1, e2⟩ := dyes (by rw [hse]; exact ⟨by simp [rightR, h0, h9], hl⟩)
        rw [e1, e2, hse]
        exact dpc3 s T n i _ [] [] hi rfl h0 q1 (by omega) hT4 hTl rfl rfl h9 hl
      · obtain ⟨e1, e2⟩ := dno (by rw [hse]; exact fun h => hl h.2)
        rw [e1, e2]
        exact dpd3 s T n i _ [] [] hi rfl h0 q1 (by omega) hT4 hTl rfl rfl h9 hl
    · obtain ⟨e1, e2⟩ := dno (by rw [hse]; intro h; have := h.1; simp [rightR, h9] at this)
      rw [e1, e2]
      exact dpe3 s T n i _ [] [] hi rfl h0 q1 (by omega) hT4 hTl rfl rfl h9
  by_cases h4 : T.getD 0 [] = wClose
  · have hse : seemR T = ⟨4, 0, [], []⟩ := by unfold seemR; rw [if_neg h1, if_neg h2, if_neg h3, if_pos h4]
    refine st1 0 0 wBytes (by omega) rfl h1 _ _ (st1 _ 1 wGrant (by omega) rfl h2 _ _ (st1 _ 2 wTick (by omega) rfl h3 _ _ (st2 _ 3 wClose (by omega) rfl h4 _ _ ?_)))
    by_cases hl : s = wClose
    · obtain ⟨e1, e2⟩ := dyes (by rw [hse]; exact ⟨by simp [rightR], hl.symm⟩)
      rw [e1, e2, hse]
      exact dp8 s T [] [] hT4 hTl rfl rfl hl
    · obtain ⟨e1, e2⟩ := dno (by rw [hse]; exact fun h => hl h.2.symm)
      rw [e1, e2]
      exact dp9 s T hT4 hTl hl
  have hse : seemR T = ev0 := by unfold seemR; rw [if_neg h1, if_neg h2, if_neg h3, if_neg h4]
  refine st1 0 0 wBytes (by omega) rfl h1 _ _ (st1 _ 1 wGrant (by omega) rfl h2 _ _ (st1 _ 2 wTick (by omega) rfl h3 _ _ (st1 _ 3 wClose (by omega) rfl h4 _ _ ?_)))
  obtain ⟨e1, e2⟩ := dno (by rw [hse]; intro h; have := h.1; simp [rightR, ev0] at this)
  rw [e1, e2]
  exact dpa s T hT4 hTl

/-! ### The document's answer is the program's -/

theorem dgt_hx (n : Nat) (h : n < 16) : dgt (hx n) = n := by
  have : ((List.range 16).all fun n => decide (dgt (hx n) = n)) = true := by decide +kernel
  exact of_decide_eq_true (List.all_eq_true.1 this n (List.mem_range.2 h))
theorem byt_hex : ∀ b : List UInt8, bytD (hexT b) = b
  | [] => rfl
  | c :: r => by
    have hc := c.toNat_lt
    rw [show hexT (c :: r) = hx (c.toNat / 16) :: hx (c.toNat % 16) :: hexT r from rfl, bytD, byt_hex r, dgt_hx _ (by omega), dgt_hx _ (by omega)]
    congr 1
    rw [show (16 * ((c.toNat / 16 : Nat) : Int) + ((c.toNat % 16 : Nat) : Int)).toNat = c.toNat by omega, UInt8.ofNat_toNat]
theorem byt_told (b : List UInt8) : bytD (toldR b) = b := by
  unfold toldR
  split
  · rename_i h; rw [h]; rfl
  · exact byt_hex b
def figD (n : Nat) : Bool := decide (numD 0 ((Lib.itoa n).take 5) = n) && (Lib.itoa n).all fun c => decide (c ≠ 44)
theorem fig_d : ∀ n < 10000, figD n = true := by
  have h : (List.range 10000).all figD = true := by decide +kernel
  intro n hn
  exact List.all_eq_true.1 h n (List.mem_range.2 hn)
theorem fig_dn {n : Int} (h : 0 ≤ n ∧ n ≤ 9999) : numD 0 ((Lib.itoa n).take 5) = n ∧ ∀ c ∈ Lib.itoa n, c ≠ 44 := by
  have := fig_d n.toNat (by omega)
  unfold figD at this
  rw [Bool.and_eq_true, decide_eq_true_eq, show ((n.toNat : Nat) : Int) = n by omega] at this
  exact ⟨this.1, fun c hc => of_decide_eq_true (List.all_eq_true.1 this.2 c hc)⟩
theorem mrk_run : ∀ (a : List UInt8) (n : Int) (o : Bool) (r : List UInt8), (∀ c ∈ a, c ≠ 44) → 0 ≤ n → numD n a ≤ 100000 → a ≠ [] → mrkD n o (a ++ r) = mrkD (numD n a) true r
  | [], _, _, _, _, _, _, h => absurd rfl h
  | [c], n, o, r, h1, h0, h2, _ => by
    have hd := dgt_le c
    simp only [numD] at h2
    rw [List.singleton_append, mrkD, if_neg (h1 c (by simp)), numD, numD, show min (10 * n + dgt c) 100000 = 10 * n + dgt c by omega]
  | c :: d :: a, n, o, r, h1, h0, h2, _ => by
    have hd := dgt_le c
    rw [numD] at h2
    have hle : 10 * n + dgt c ≤ 100000 := Int.le_trans (num_ge _ _ (by omega)) h2
    rw [List.cons_append, mrkD, if_neg (h1 c (by simp)), show min (10 * n + dgt c) 100000 = 10 * n + dgt c by omega, numD]
    exact mrk_run (d :: a) _ true r (fun x hx => h1 x (by simp [hx])) (by omega) h2 (by simp)
where num_ge : ∀ (a : List UInt8) (n : Int), 0 ≤ n → n ≤ numD n a
  | [], n, _ => Int.le_refl n
  | c :: r, n, h => by
    have hd := dgt_le c
    rw [numD]
    exact Int.le_trans (by omega) (num_ge r _ (by omega))
theorem mrk_places : ∀ m : List Int, m ≠ [] → (∀ x ∈ m, 0 ≤ x ∧ x ≤ 9999) → mrkD 0 false (joinR 44 (m.map Lib.itoa)) = m
  | [], h, _ => absurd rfl h
  | [x], _, h => by
    have hx := h x (by simp)
    have hf := fig_dn hx
    have hl : (Lib.itoa x).length ≤ 5 := by
      have := (fig_ok hx).1
      unfold numOK at this
      simp only [Bool.and_eq_true, decide_eq_true_eq] at this
      omega
    rw [List.take_of_length_le hl] at hf
    have hne : Lib.itoa x ≠ [] := by intro e; have := num_figs (fig_ok hx).1; have h2 := (fig_ok hx).1; rw [e] at h2; simp [numOK, puN] at h2
    have := mrk_run (Lib.itoa x) 0 false [] hf.2 (by omega) (by rw [hf.1]; omega) hne
    rw [List.append_nil, hf.1, mrkD, if_pos rfl] at this
    exact this
  | x :: y :: m, _, h => by
    have hx := h x (by simp)
    have hf := fig_dn hx
    have hl : (Lib.itoa x).length ≤ 5 := by
      have := (fig_ok hx).1
      unfold numOK at this
      simp only [Bool.and_eq_true, decide_eq_true_eq] at this
      omega
    rw [List.take_of_length_le hl] at hf
    have hne : Lib.itoa x ≠ [] := by intro e; have h2 := (fig_ok hx).1; rw [e] at h2; simp [numOK, puN] at h2
    have := mrk_run (Lib.itoa x) 0 false (44 :: joinR 44 ((y :: m).map Lib.itoa)) hf.2 (by omega) (by rw [hf.1]; omega) hne
    rw [List.map_cons, joinR_cons 44 _ (by simp), this, hf.1, mrkD, if_pos rfl, if_pos rfl, mrk_places (y :: m) (by simp) (fun z hz => h z (by simp [hz]))]

theorem seem_line {e : RawR.Ev} (h : rightR e = true) : seemR (splitR 32 (lineR e)) = e := by
  obtain ⟨K, N, B, M⟩ := e
  unfold rightR at h
  simp only at h
  split at h
  · rename_i hk
    rw [Bool.and_eq_true, decide_eq_true_eq] at h
    obtain ⟨⟨hN, hB⟩, hM⟩ := h
    subst hk; subst hN
    have hin := up_in hM
    by_cases hm : M = []
    · subst hm
      have : lineR ⟨1, 0, B, []⟩ = joinR 32 [wBytes, toldR B] := by simp [lineR, joinR]
      rw [this, split_join 32 _ (by simp) (by
        intro a ha
        simp only [List.mem_cons, List.not_mem_nil, or_false] at ha
        rcases ha with rfl | rfl
        · decide
        · exact told_no B)]
      simp [seemR, byt_told, mrkD]
    · have hin' : ∀ x ∈ M, 0 ≤ x ∧ x ≤ 9999 := fun x hx => by have := hin x hx; omega
      have : lineR ⟨1, 0, B, M⟩ = joinR 32 [wBytes, toldR B, wMarks, placesR M] := by simp [lineR, joinR, hm]
      rw [this, split_join 32 _ (by simp) (by
        intro a ha
        simp only [List.mem_cons, List.not_mem_nil, or_false] at ha
        rcases ha with rfl | rfl | rfl | rfl
        · decide
        · exact told_no B
        · decide
        · refine joinR_no (by decide) fun a ha => ?_
          obtain ⟨x, hx, rfl⟩ := List.mem_map.1 ha
          exact (itoa_no (hin' x hx)).1)]
      have := mrk_places M hm hin'
      simp [seemR, byt_told, placesR, this]
  · split at h
    · rename_i h1 hk
      rw [decide_eq_true_eq] at h
      obtain ⟨h0, h9, rfl, rfl⟩ := h
      have hf := (fig_dn ⟨h0, h9⟩).1
      have hno := (itoa_no ⟨h0, h9⟩).1
      rcases hk with rfl | rfl
      · have : lineR ⟨2, N, [], []⟩ = joinR 32 [wGrant, Lib.itoa N] := by simp [lineR, joinR]
        rw [this, split_join 32 _ (by simp) (by
          intro a ha
          simp only [List.mem_cons, List.not_mem_nil, or_false] at ha
          rcases ha with rfl | rfl
          · decide
          · exact hno)]
        simp [seemR, hf, wGrant, wBytes]
      · have : lineR ⟨3, N, [], []⟩ = joinR 32 [wTick, Lib.itoa N] := by simp [lineR, joinR]
        rw [this, split_join 32 _ (by simp) (by
          intro a ha
          simp only [List.mem_cons, List.not_mem_nil, or_false] at ha
          rcases ha with rfl | rfl
          · decide
          · exact hno)]
        simp [seemR, hf, wGrant, wBytes, wTick]
    · split at h
      · rename_i hk
        rw [decide_eq_true_eq] at h
        obtain ⟨rfl, rfl, rfl⟩ := h
        subst hk
        rfl
      · cases h

theorem seem_pad (T : List (List UInt8)) : seemR (padR T) = seemR T := by unfold seemR; simp only [pad_get]

theorem dp_is (s : List UInt8) : dpR s = evR s ∧ dpK s = decide (evK s = 16) := by
  cases hp : parseR s with
  | some e =>
    obtain ⟨h1, h2⟩ := line_parse hp
    have hs : seemR (padR (splitR 32 s)) = e := by rw [seem_pad, ← h1]; exact seem_line h2
    obtain ⟨e1, e2⟩ := dp_yes (s := s) (by rw [hs]; exact ⟨h2, h1⟩)
    have e3 : evR s = e := by unfold evR; rw [hp]; rfl
    have e4 : evK s = 16 := by unfold evK; rw [hp]; rfl
    exact ⟨by rw [e1, hs, e3], by rw [e2, e4]; rfl⟩
  | none =>
    have e3 : evR s = ev0 := by unfold evR; rw [hp]; rfl
    have e4 : evK s = 4 := by unfold evK; rw [hp]; rfl
    obtain ⟨e1, e2⟩ := dp_no (s := s) (fun h => by
      have := parse_line h.1
      rw [h.2, hp] at this
      cases this)
    exact ⟨by rw [e1, e3], by rw [e2, e4]; rfl⟩
theorem dpT' (s : List UInt8) (hs : s.length ≤ 1000) : RunsTo Tryd.prog 39 [.code (bodyOf Tryd.f39)] (envOf [vS s] Tryd.f39.ntmps) (Sx.look ([] ++ ([]))) 80 (dpV (evR s) (decide (evK s = 16))) (Sx.look (iW 141 (evR s).M)) 250 := by
  have := dpT s hs
  rw [(dp_is s).1, (dp_is s).2] at this
  exact this

def dpP : PC := { args := [.v (.vs 0)], heap := [], gs := [], G := 24, tp := 194, n := 80, n' := 250, cond := fun e => decide ((eS e 0 []).length ≤ 1000), v := fun e => dpV (evR (eS e 0 [])) (decide (evK (eS e 0 []) = 16)), post := fun e => iW 141 (evR (eS e 0 [])).M }
theorem dpP_pc : PC.Runs Tryd.prog 39 Tryd.f39 (bodyOf Tryd.f39) dpP := ⟨Tryd.func39, by kernel_rfl, (fun g hg => by first | (cases hg; done) | (revert g; show ∀ g ∈ ([] : List Nat), g < 24; decide)), fun e H hc => by
  have hc : (decide ((eS e 0 []).length ≤ 1000)) = true := hc
  try simp only [Bool.and_eq_true, decide_eq_true_eq, Nat.beq_eq] at hc
  exact dpT' (eS e 0 []) hc⟩

end Go.Proofs.YtankmgnjkcgpaaaDoor

set_option linter.unusedSimpArgs false
set_option linter.unusedVariables false
set_option maxRecDepth 100000
namespace Go.Proofs.YtankmgnjkcgpaaaDoor
open Go.Sx

open RawR
def eBs (T : List RawR.Ev) : Ix → List UInt8 := fun is => (T.getD (is.headD 0) ev0).B
def waE (l g : Nat) (T : List RawR.Ev) : List Ent := [⟨l, true, none, 4, .ta T.length (.tc (.vi .i64 (eK T)) (.tc (.vi .i64 (eN' T)) (.tc (.vs (eBs T)) (.tc (.vl g (eX T) 1 [] (eLM T)) .t0))))⟩, ⟨g, true, some (T.length, gLM T), 1, .vi .i64 (gM T)⟩]
def rpS (t0 t1 t2 t3 t4 t5 t6 t7 t8 t9 t10 t11 t12 t13 t14 t15 t16 t17 : List UInt8) : List Ent := sentEnts 24 194 [(21, t0), (20, t1), (0, t2), (3, t3), (4, t4), (2, t5), (1, t6), (5, t7), (6, t8), (7, t9), (8, t10), (9, t11), (10, t12), (11, t13), (12, t14), (13, t15), (14, t16), (15, t17)]
theorem eqI_self (n : Nat) (F : Ix → Int) : eqI n n F F = true := by
  unfold eqI
  rw [decide_eq_true rfl, Bool.true_and]
  exact List.all_eq_true.2 fun i hi => decide_eq_true rfl
theorem same_doc (e : RawR.Ev) : sameT e.K e.N e.K e.N (bytesOf (fun is => ((e.B.getD (is.headD 0) 0).toNat : Int)) [] 0 e.B.length) e.B e.M.length e.M.length (fun is => e.M.getD (is.headD 0) 0) (fun is => e.M.getD (is.headD 0) 0) = true := by
  have := lenB_list e.B
  unfold lenB at this
  unfold sameT
  rw [this, eqI_self]
  simp
def rsPm : PC := { args := [.agg (.tc (.vi .i64 0) (.tc (.vi .i64 1) (.tc (.vs 2) (.tc (.vm 62 1 3) .t0)))), .agg (.tc (.vi .i64 10) (.tc (.vi .i64 11) (.tc (.vs 12) (.tc (.vm 64 1 13) .t0))))], heap := [⟨62, false, 1, .ta 7 (.vi .i64 8)⟩, ⟨64, false, 1, .ta 17 (.vi .i64 18)⟩], gs := [], G := 24, tp := 194, n := 80, n' := 120, cond := fun e => decide (eN e 3 ≤ eN e 7) && (decide (eN e 13 ≤ eN e 17) && decide (eN e 3 ≤ 100000)), v := fun e => vB (sameT (eI e 0 []) (eI e 1 []) (eI e 10 []) (eI e 11 []) (eS e 2 []) (eS e 12 []) (eN e 3) (eN e 13) (eI e 8) (eI e 18)), post := fun e => [] }
theorem rsPm_pc : PC.Runs Tryd.prog 38 Tryd.f38 (bodyOf Tryd.f38) rsPm := ⟨Tryd.func38, by kernel_rfl, (fun g hg => by first | (cases hg; done) | (revert g; show ∀ g ∈ ([] : List Nat), g < 24; decide)), fun e H hc => by
  have hc : (decide (eN e 3 ≤ eN e 7) && (decide (eN e 13 ≤ eN e 17) && decide (eN e 3 ≤ 100000))) = true := hc
  try simp only [Bool.and_eq_true, decide_eq_true_eq, Nat.beq_eq] at hc
  exact rsT (eI e 0 []) (eI e 1 []) (eS e 2 []) (eN e 3) (eN e 7) (eI e 8) (eI e 10 []) (eI e 11 []) (eS e 12 []) (eN e 13) (eN e 17) (eI e 18) hc.1 hc.2.1 hc.2.2⟩
def sumsP0 : List (FuncId × Summ) := [(28, avP.summ 48)]
theorem baseP0 : Base0 Tryd.prog sumsP0 := (baseO.cons Tryd.func28 (by kernel_rfl) (PC.summ_ok avP_pc gtopG))
def sumsP1 : List (FuncId × Summ) := [(30, paP.summ 48), (39, dpP.summ 48), (38, rsP.summ 48), (20, xS)]
theorem baseP1 : Base0 Tryd.prog sumsP1 := ((((baseO.cons Tryd.func20 (by kernel_rfl) xnum_ok).cons Tryd.func38 (by kernel_rfl) (PC.summ_ok rsP_pc gtopG)).cons Tryd.func39 (by kernel_rfl) (PC.summ_ok dpP_pc gtopG)).cons Tryd.func30 (by kernel_rfl) (PC.summ_ok paP_pc gtopG))
def sumsP2 : List (FuncId × Summ) := [(40, alP.summ 48), (20, xS)]
theorem baseP2 : Base0 Tryd.prog sumsP2 := ((baseO.cons Tryd.func20 (by kernel_rfl) xnum_ok).cons Tryd.func40 (by kernel_rfl) (PC.summ_ok alP_pc gtopG))
def sumsP3 : List (FuncId × Summ) := [(38, rsPm.summ 48)]
theorem baseP3 : Base0 Tryd.prog sumsP3 := (baseO.cons Tryd.func38 (by kernel_rfl) (PC.summ_ok rsPm_pc gtopG))

variable (L : Ix → List UInt8) (P : Ix → Int) (T : List RawR.Ev) (bad : Nat) (e : RawR.Ev) (i : Nat) (is : List Nat) (j k : Nat) (l : List UInt8) (n : Nat) (t tt : List UInt8)
abbrev rt27 := List.headD is (0 : Nat)
abbrev rt1 := (!sameT (evR l).1 (evR l).2 (evR l).1 (evR l).2 (bytesOf (fun is => (↑((evR l).3.getD (rt27 is) (0 : UInt8)).toNat : Int)) [] (0 : Nat) (evR l).3.length) (evR l).3 (evR l).4.length (evR l).4.length (fun is => (evR l).4.getD (rt27 is) (0 : Int)) fun is => (evR l).4.getD (rt27 is) (0 : Int), false)
abbrev rt2 (T : List RawR.Ev) (i : Nat) := (T.length = T.length ∧ (∀ (i : Nat), i < T.length → eK T [i] = eK T [i]) ∧ (∀ (i : Nat), i < T.length → eN' T [i] = eN' T [i]) ∧ (∀ (i : Nat), i < T.length → eBs T [i] = eBs T [i]) ∧ (∀ (i : Nat), i < T.length → eX T [i] = eX T [i]) ∧ ∀ (i : Nat), i < T.length → eLM T [i] = eLM T [i])
abbrev rt3 (T : List RawR.Ev) (e : RawR.Ev) (i : Nat) (l : List UInt8) := ((T ++ [e]).length = T.length + (1 : Nat) ∧ (∀ (i : Nat), i < (T ++ [e]).length → eK (T ++ [e]) [i] = appF T.length (0 : Nat) (eK T) (fun js => (evR l).1) [i]) ∧ (∀ (i : Nat), i < (T ++ [e]).length → eN' (T ++ [e]) [i] = appF T.length (0 : Nat) (eN' T) (fun js => (evR l).2) [i]) ∧ (∀ (i : Nat), i < (T ++ [e]).length → eBs (T ++ [e]) [i] = appF T.length (0 : Nat) (eBs T) (fun js => (evR l).3) [i]) ∧ (∀ (i : Nat), i < (T ++ [e]).length → eX (T ++ [e]) [i] = appF T.length (0 : Nat) (fun is => eX T is + (1 : Nat)) (fun js => (0 : Nat)) [i]) ∧ ∀ (i : Nat), i < (T ++ [e]).length → eLM (T ++ [e]) [i] = appF T.length (0 : Nat) (eLM T) (fun js => (evR l).4.length) [i])
abbrev rt4 := (decide ((evR l).4.length ≤ (evR l).4.length) && (decide ((evR l).4.length ≤ (evR l).4.length) && decide ((evR l).4.length ≤ (100000 : Nat))), true)
abbrev rt21 := 0 = 0 ∧ T.length = T.length
abbrev rt33 := 0 = 0 ∧ n = n
abbrev rt22 := (↑(i + (1 : Nat)) : Int)
abbrev rt5 (T : List RawR.Ev) (bad i : Nat) (l : List UInt8) (n : Nat) (t tt : List UInt8) := ((tt ++ l = t ++ [(10 : UInt8)] ++ l ∧ (bad : Int) = (bad : Int) ∧ (rt21 T) ∧ (rt33 n) ∧ (n : Int) = (n : Int) ∧ (rt22 i) = IntKind.i64.wrap ((i : Int) + 1)) ∧ (rt2 T i) ∧ T.length = T.length ∧ ∀ (m : Nat), m < T.length → gLM T m = gLM T m ∧ ∀ (i : Nat), i < gLM T m → gM T [m, i] = gM T [m, i])
abbrev rt6 (T : List RawR.Ev) (bad i : Nat) (l : List UInt8) (n : Nat) (t tt : List UInt8) := ((tt ++ l = t ++ l ∧ (bad : Int) = (bad : Int) ∧ (rt21 T) ∧ (rt33 n) ∧ (n : Int) = (n : Int) ∧ (rt22 i) = IntKind.i64.wrap ((i : Int) + 1)) ∧ (rt2 T i) ∧ T.length = T.length ∧ ∀ (m : Nat), m < T.length → gLM T m = gLM T m ∧ ∀ (i : Nat), i < gLM T m → gM T [m, i] = gM T [m, i])
abbrev rt30 := (↑l.length : Int)
abbrev rt7 := (decide ((0 : Int) ≤ 0 ∧ (0 : Int) < (rt30 l)), true)
abbrev rt8 := ((0 + (evR l).3.length).ble (evR l).3.length, true)
abbrev rt9 := (decide ((k : Int) < (rt30 l)), false)
abbrev rt10 := (decide (l.length ≤ (100000 : Nat)), true)
abbrev rt35 := (↑(l.getD (0 : Nat) (0 : UInt8)).toNat : Int)
abbrev rt11 := ((rt35 l) == 35, false)
abbrev rt12 := (decide (l.length ≤ (1000 : Nat)), true)
abbrev rt13 := (decide ((t ++ [(10 : UInt8)]).length + l.length ≤ (9223372036854775807 : Nat)), true)
abbrev rt14 := (decide (t.length + (1 : Nat) ≤ (9223372036854775807 : Nat)), true)
abbrev rt15 := (decide (((2 : Nat) * (T.length + (1 : Nat)) + (192 : Nat)) * (56 : Nat) ≤ (281474976710656 : Nat)), true)
abbrev rt16 := (decide (t.length + l.length ≤ (9223372036854775807 : Nat)), true)
abbrev rt17 := (!decide (evK l = (16 : Nat)), true)
abbrev rt18 := ((rt30 l) == 0, false)
abbrev rt19 := (xnum (evK l) != (5 : Int), false)
abbrev rt20 := (!decide (evK l = (16 : Nat)), false)
abbrev rt23 := pwF P ++ [⟨100, false, none, 1, .ta n (.vs L)⟩]
abbrev rt24 := (decide ((i : Int) > 0), false)
abbrev rt25 := (decide ((i : Int) > 0), true)
abbrev rt26 := 0 = 0 ∧ (T ++ [e]).length = T.length + (1 : Nat)
abbrev rt28 := (decide ((bad : Int) > 0), false)
abbrev rt29 := (decide ((bad : Int) > 0), true)
abbrev rt31 := ((eX T [0 + (j : Int).toNat] + 1 + (T.length - (eX T [0 + (j : Int).toNat] + (1 : Nat)))).beq T.length, true)
abbrev rt32 := ((0 + (j : Int).toNat).blt T.length, true)
abbrev rt34 := ((0 + T.length).ble T.length, true)
abbrev rt36 := true = true ∧ True
abbrev rt37 := (↑T.length : Int)
abbrev rt38 := ∀ (i : Nat), i < (0 : Nat) → (0 : Int) = (0 : Int)
abbrev rt39 := ((0 + (i : Int).toNat).blt n, true)
set_option maxHeartbeats 4000000 in
theorem rp0 (t0 t1 t2 t3 t4 t5 t6 t7 t8 t9 t10 t11 t12 t13 t14 t15 t16 t17 : List UInt8) (P : Ix → Int) (n : Nat) (L : Ix → List UInt8) (hP : pwOK P = true) (h : 20 < n)  :
    (RunsTo Tryd.prog 8 [.code (bodyOf Tryd.f8)] (envOf [vL 100 1 n] Tryd.f8.ntmps) (Sx.look ((rpS t0 t1 t2 t3 t4 t5 t6 t7 t8 t9 t10 t11 t12 t13 t14 t15 t16 t17 ++ (rt23 L P n)) ++ ([]))) 110 (YES) (Sx.look ([])) 1400) := by
  refine rEn baseP0 700 (99) 900 110 (hI 3 25) ([]) [(pwOK P, true), (decide ((n : Int) > 20), true)] rt36 (oc2 ?_ ?_ okn) ?_
  all_goals try dsimp only [rt36]
  all_goals exact sc31

set_option maxHeartbeats 4000000 in
theorem rp1 (t0 t1 t2 t3 t4 t5 t6 t7 t8 t9 t10 t11 t12 t13 t14 t15 t16 t17 : List UInt8) (P : Ix → Int) (n : Nat) (L : Ix → List UInt8) (hP : pwOK P = true) (h : n ≤ 20)  (next : RunsTo Tryd.prog 8 (headOf Tryd.f8 0) (envAt Tryd.f8.ntmps ([(3, vS []), (4, vN 0), (5, vL 123 4 0), (24, vL 100 1 n), (25, vN n), (26, vN 0)])) (Sx.look ((rpS t0 t1 t2 t3 t4 t5 t6 t7 t8 t9 t10 t11 t12 t13 t14 t15 t16 t17 ++ (pwF P ++ [⟨100, false, none, 1, .ta n (.vs L)⟩])) ++ (⟨123, true, none, 4, .ta 0 (.tc (.vi .i64 fun _ => 0) (.tc (.vi .i64 fun _ => 0) (.tc (.vs fun _ => []) (.tc .vl0 .t0))))⟩ :: [⟨124, true, some (0, gLM []), 1, .vi .i64 (gM [])⟩]))) 110 (YES) (Sx.look []) 1400) :
    RunsTo Tryd.prog 8 [.code (bodyOf Tryd.f8)] (envOf [vL 100 1 n] Tryd.f8.ntmps) (Sx.look ((rpS t0 t1 t2 t3 t4 t5 t6 t7 t8 t9 t10 t11 t12 t13 t14 t15 t16 t17 ++ (pwF P ++ [⟨100, false, none, 1, .ta n (.vs L)⟩])) ++ ([]))) 110 (YES) (Sx.look []) 1400 := by
  refine rMo baseP0 700 (behind Tryd.f8 0) 900 110 (hI 3 9) ([(123, Rn.to 1230), (124, Rn.nil 1)]) [(pwOK P, true), (decide ((n : Int) > 20), false)] ((([] : List UInt8) = [] ∧ (0 : Int) = (0 : Int) ∧ (0 = 0 ∧ 0 = 0) ∧ (rt33 n) ∧ (n : Int) = (n : Int) ∧ (0 : Int) = (0 : Int)) ∧ (0 = 0 ∧ rt38 ∧ rt38 ∧ (∀ (i : Nat), i < (0 : Nat) → ([] : List UInt8) = []) ∧ True) ∧ 0 = 0) next (oc2 ?_ ?_ okn) ?_
  all_goals clear next; try dsimp only [rt33, rt38]
  all_goals exact sc32

set_option maxHeartbeats 4000000 in
theorem rp2 (t0 t1 t2 t3 t4 t5 t6 t7 t8 t9 t10 t11 t12 t13 t14 t15 t16 t17 : List UInt8) (P : Ix → Int) (n : Nat) (L : Ix → List UInt8) (t : List UInt8) (bad : Nat) (T : List RawR.Ev) (i : Nat) (l : List UInt8) (h : 400 < l.length) (hi : i < n) (hn : n ≤ 20) (hl : L [i] = l)  :
    (RunsTo Tryd.prog 8 (headOf Tryd.f8 0) (envAt Tryd.f8.ntmps ([(3, vS (t)), (4, vN (bad : Nat)), (5, vL 123 4 (T).length), (24, vL 100 1 n), (25, vN n), (26, vN (i : Nat))])) (Sx.look ((rpS t0 t1 t2 t3 t4 t5 t6 t7 t8 t9 t10 t11 t12 t13 t14 t15 t16 t17 ++ (rt23 L P n)) ++ (waE 123 124 (T)))) 110 (YES) (Sx.look ([])) 1400) := by
  have hw : IntKind.i64.wrap ((i : Int) + 1) = ((i + 1 : Nat) : Int) := by rw [wr64 (by omega)]; rfl
  have hi0 : 0 + ((i : Nat) : Int).toNat = i := by simp
  have E' := (⟨hi0, hl⟩ : _ ∧ _)
  refine rEn baseP0 700 (99) 900 150 (hI 5 341) ([]) [(decide ((i : Int) < (n : Int)), true), (decide (0 ≤ (i : Int) ∧ (i : Int) < (n : Int)), true), (rt39 i n), (rt39 i n), (decide ((↑(L [0 + (i : Int).toNat]).length : Int) > 400), true)] rt36 (oc5 ?_ ?_ ?_ ?_ ?_ okn) ?_
  all_goals try dsimp only [rt39, rt36]
  all_goals exact sc33

set_option maxHeartbeats 4000000 in
theorem rp3 (t0 t1 t2 t3 t4 t5 t6 t7 t8 t9 t10 t11 t12 t13 t14 t15 t16 t17 : List UInt8) (P : Ix → Int) (n : Nat) (L : Ix → List UInt8) (t : List UInt8) (bad : Nat) (T : List RawR.Ev) (i : Nat) (l : List UInt8) (h : l.length ≤ 400) (hi : i < n) (hn : n ≤ 20) (hl : L [i] = l)  (next : RunsTo Tryd.prog 8 (headOf Tryd.f8 1) (envAt Tryd.f8.ntmps ([(3, vS t), (4, vN (bad : Nat)), (5, vL 123 4 T.length), (6, vN (i : Nat)), (7, vS l), (8, vN (0 : Nat)), (24, vL 100 1 n), (25, vN n), (26, vN (i : Nat))])) (Sx.look ((rpS t0 t1 t2 t3 t4 t5 t6 t7 t8 t9 t10 t11 t12 t13 t14 t15 t16 t17 ++ (pwF P ++ [⟨100, false, none, 1, .ta n (.vs L)⟩])) ++ (waE 123 124 T))) 110 (YES) (Sx.look []) 1400) :
    RunsTo Tryd.prog 8 (headOf Tryd.f8 0) (envAt Tryd.f8.ntmps ([(3, vS (t)), (4, vN (bad : Nat)), (5, vL 123 4 (T).length), (24, vL 100 1 n), (25, vN n), (26, vN (i : Nat))])) (Sx.look ((rpS t0 t1 t2 t3 t4 t5 t6 t7 t8 t9 t10 t11 t12 t13 t14 t15 t16 t17 ++ (pwF P ++ [⟨100, false, none, 1, .ta n (.vs L)⟩])) ++ (waE 123 124 (T)))) 110 (YES) (Sx.look []) 1400 := by
  have hw : IntKind.i64.wrap ((i : Int) + 1) = ((i + 1 : Nat) : Int) := by rw [wr64 (by omega)]; rfl
  have hi0 : 0 + ((i : Nat) : Int).toNat = i := by simp
  have E' := (⟨hi0, hl⟩ : _ ∧ _)
  refine rMo baseP0 700 (behind Tryd.f8 1) 900 150 (hI 5 85) ([]) [(decide ((i : Int) < (n : Int)), true), (decide (0 ≤ (i : Int) ∧ (i : Int) < (n : Int)), true), (rt39 i n), (rt39 i n), (decide ((↑(L [0 + (i : Int).toNat]).length : Int) > 400), false)] ((t = t ∧ (bad : Int) = (bad : Int) ∧ (rt21 T) ∧ (i : Int) = (i : Int) ∧ l = L [0 + (i : Int).toNat] ∧ (↑(0 : Nat) : Int) = (0 : Int) ∧ (rt33 n) ∧ (n : Int) = (n : Int) ∧ (i : Int) = (i : Int)) ∧ (rt2 T i) ∧ T.length = T.length ∧ ∀ (m : Nat), m < T.length → gLM T m = gLM T m ∧ ∀ (i : Nat), i < gLM T m → gM T [m, i] = gM T [m, i]) next (oc5 ?_ ?_ ?_ ?_ ?_ okn) ?_
  all_goals clear next; try dsimp only [rt39, rt21, rt33, rt2]
  all_goals exact sc34

set_option maxHeartbeats 4000000 in
theorem rp4 (t0 t1 t2 t3 t4 t5 t6 t7 t8 t9 t10 t11 t12 t13 t14 t15 t16 t17 : List UInt8) (P : Ix → Int) (n : Nat) (L : Ix → List UInt8) (t : List UInt8) (bad : Nat) (T : List RawR.Ev) (i : Nat) (l : List UInt8) (k : Nat) (hk : k < l.length) (hll : l.length ≤ 400) (h : l.getD k 0 = 10)  :
    (RunsTo Tryd.prog 8 (headOf Tryd.f8 1) (envAt Tryd.f8.ntmps ([(3, vS t), (4, vN (bad : Nat)), (5, vL 123 4 T.length), (6, vN (i : Nat)), (7, vS l), (8, vN (k : Nat)), (24, vL 100 1 n), (25, vN n), (26, vN (i : Nat))])) (Sx.look ((rpS t0 t1 t2 t3 t4 t5 t6 t7 t8 t9 t10 t11 t12 t13 t14 t15 t16 t17 ++ (rt23 L P n)) ++ (waE 123 124 T))) 110 (YES) (Sx.look ([])) 1400) := by
  have hw : IntKind.i64.wrap ((k : Int) + 1) = ((k + 1 : Nat) : Int) := by rw [wr64 (by omega)]; rfl
  have h10 : (((10 : UInt8).toNat : Nat) : Int) = 10 := rfl
  have E' := (⟨h, h10⟩ : _ ∧ _)
  refine rEn baseP0 700 (99) 900 150 (hI 3 21) ([]) [(decide ((k : Int) < (rt30 l)), true), (decide (0 ≤ (k : Int) ∧ (k : Int) < (rt30 l)), true), ((↑(l.getD (k : Int).toNat (0 : UInt8)).toNat : Int) == 10, true)] rt36 (oc3 ?_ ?_ ?_ okn) ?_
  all_goals try dsimp only [rt30, rt36]
  all_goals exact sc35

set_option maxHeartbeats 4000000 in
theorem rp5 (t0 t1 t2 t3 t4 t5 t6 t7 t8 t9 t10 t11 t12 t13 t14 t15 t16 t17 : List UInt8) (P : Ix → Int) (n : Nat) (L : Ix → List UInt8) (t : List UInt8) (bad : Nat) (T : List RawR.Ev) (i : Nat) (l : List UInt8) (k : Nat) (hk : k < l.length) (hll : l.length ≤ 400) (h : l.getD k 0 ≠ 10)  (next : RunsTo Tryd.prog 8 (headOf Tryd.f8 1) (envAt Tryd.f8.ntmps ([(3, vS t), (4, vN (bad : Nat)), (5, vL 123 4 T.length), (6, vN (i : Nat)), (7, vS l), (8, vN (k + 1 : Nat)), (24, vL 100 1 n), (25, vN n), (26, vN (i : Nat))])) (Sx.look ((rpS t0 t1 t2 t3 t4 t5 t6 t7 t8 t9 t10 t11 t12 t13 t14 t15 t16 t17 ++ (pwF P ++ [⟨100, false, none, 1, .ta n (.vs L)⟩])) ++ (waE 123 124 T))) 110 (YES) (Sx.look []) 1400) :
    RunsTo Tryd.prog 8 (headOf Tryd.f8 1) (envAt Tryd.f8.ntmps ([(3, vS t), (4, vN (bad : Nat)), (5, vL 123 4 T.length), (6, vN (i : Nat)), (7, vS l), (8, vN (k : Nat)), (24, vL 100 1 n), (25, vN n), (26, vN (i : Nat))])) (Sx.look ((rpS t0 t1 t2 t3 t4 t5 t6 t7 t8 t9 t10 t11 t12 t13 t14 t15 t16 t17 ++ (pwF P ++ [⟨100, false, none, 1, .ta n (.vs L)⟩])) ++ (waE 123 124 T))) 110 (YES) (Sx.look []) 1400 := by
  have hw : IntKind.i64.wrap ((k : Int) + 1) = ((k + 1 : Nat) : Int) := by rw [wr64 (by omega)]; rfl
  have hz : ((((l.getD k 0).toNat : Nat) : Int) == 10) = false := beq_eq_false_iff_ne.2 (fun e => h (UInt8.toNat_inj.1 (by show (l.getD k 0).toNat = 10; omega)))
  have E' := (⟨hz, hw⟩ : _ ∧ _)
  refine rMo baseP0 700 (behind Tryd.f8 1) 900 150 (hI 3 5) ([]) [(decide ((k : Int) < (rt30 l)), true), (decide (0 ≤ (k : Int) ∧ (k : Int) < (rt30 l)), true), ((↑(l.getD (k : Int).toNat (0 : UInt8)).toNat : Int) == 10, false)] ((t = t ∧ (bad : Int) = (bad : Int) ∧ (rt21 T) ∧ (i : Int) = (i : Int) ∧ l = l ∧ (↑(k + (1 : Nat)) : Int) = IntKind.i64.wrap ((k : Int) + 1) ∧ (rt33 n) ∧ (n : Int) = (n : Int) ∧ (i : Int) = (i : Int)) ∧ (rt2 T i) ∧ T.length = T.length ∧ ∀ (m : Nat), m < T.length → gLM T m = gLM T m ∧ ∀ (i : Nat), i < gLM T m → gM T [m, i] = gM T [m, i]) next (oc3 ?_ ?_ ?_ okn) ?_
  all_goals clear next; try dsimp only [rt30, rt21, rt33, rt2]
  all_goals exact sc36

theorem evM_len (l : List UInt8) (h : l.length ≤ 400) : (evR l).M.length ≤ 401 := by
  unfold evR
  cases hp : parseR l with
  | none => simp [ev0]
  | some e =>
    obtain ⟨h1, h2⟩ := line_parse hp
    have := marks_line h2
    rw [h1] at this
    show e.M.length ≤ 401
    omega

set_option maxHeartbeats 4000000 in
theorem rp6e0 (t0 t1 t2 t3 t4 t5 t6 t7 t8 t9 t10 t11 t12 t13 t14 t15 t16 t17 : List UInt8) (P : Ix → Int) (n : Nat) (L : Ix → List UInt8) (t : List UInt8) (bad : Nat) (T : List RawR.Ev) (i : Nat) (l : List UInt8) (k : Nat) (tt : List UInt8) (e : RawR.Ev) (h1 : l = []) (hK : evK l = 4) (hk : k = l.length) (hll : l.length ≤ 400) (hi : i < 20) (htl : t.length ≤ 10000) (hbl : bad ≤ 100) (hTl : T.length ≤ 100) (htt : (i = 0 ∧ tt = t) ∨ (0 < i ∧ tt = t ++ [10])) (he : evR l = e)  (next : RunsTo Tryd.prog 8 (headOf Tryd.f8 0) (envAt Tryd.f8.ntmps ([(3, vS (tt ++ l)), (4, vN (bad : Nat)), (5, vL 123 4 (T).length), (24, vL 100 1 n), (25, vN n), (26, vN (i + 1 : Nat))])) (Sx.look ((rpS t0 t1 t2 t3 t4 t5 t6 t7 t8 t9 t10 t11 t12 t13 t14 t15 t16 t17 ++ (pwF P ++ [⟨100, false, none, 1, .ta n (.vs L)⟩])) ++ (waE 123 124 (T)))) 110 (YES) (Sx.look []) 1400) :
    RunsTo Tryd.prog 8 (headOf Tryd.f8 1) (envAt Tryd.f8.ntmps ([(3, vS t), (4, vN (bad : Nat)), (5, vL 123 4 T.length), (6, vN (i : Nat)), (7, vS l), (8, vN (k : Nat)), (24, vL 100 1 n), (25, vN n), (26, vN (i : Nat))])) (Sx.look ((rpS t0 t1 t2 t3 t4 t5 t6 t7 t8 t9 t10 t11 t12 t13 t14 t15 t16 t17 ++ (pwF P ++ [⟨100, false, none, 1, .ta n (.vs L)⟩])) ++ (waE 123 124 T))) 110 (YES) (Sx.look []) 1400 := by
  have hw : IntKind.i64.wrap ((i : Int) + 1) = ((i + 1 : Nat) : Int) := by rw [wr64 (by omega)]; rfl
  have hsd := same_doc e
  have hm : e.M.length ≤ 401 := by rw [← he]; exact evM_len l hll
  have hpz : ((l.length : Int) == 0) = true := by rw [h1]; rfl
  have E' := (⟨he, hK, hsd, hpz⟩ : _ ∧ _ ∧ _ ∧ _)
  refine bcase (fun gg0 => (rMo baseP1 700 (behind Tryd.f8 0) 900 150 (hI 12 5263636) ([]) [(rt9 k l), (rt10 l), (rt12 l), (!decide (evK l = (16 : Nat)) == (List.map (fun c => if c.blt (80 : Nat) = true then c else 150 + (c - (80 : Nat))) errL).length.ble (evK l), false), (rt17 l), (rt19 l), (rt8 l), (rt4 l), (rt1 l), (rt24 i), (rt16 l t), ((rt30 l) == 0, true)] (rt6 T bad i l n t tt) next (oc3 ?_ ?_ ?_ (oc9 ?_ ?_ ?_ ?_ ?_ ?_ gg0 ?_ ?_ okn)) ?_)) fun gg0 => (rMo baseP1 700 (behind Tryd.f8 0) 900 150 (hI 13 22302996) ([]) [(rt9 k l), (rt10 l), (rt12 l), (!decide (evK l = (16 : Nat)) == (List.map (fun c => if c.blt (80 : Nat) = true then c else 150 + (c - (80 : Nat))) errL).length.ble (evK l), false), (rt17 l), (rt19 l), (rt8 l), (rt4 l), (rt1 l), (rt25 i), (rt14 t), (rt13 l t), ((rt30 l) == 0, true)] (rt5 T bad i l n t tt) next (oc4 ?_ ?_ ?_ ?_ (oc9 ?_ ?_ ?_ ?_ ?_ gg0 ?_ ?_ ?_ okn)) ?_)
  all_goals clear next; try dsimp only [rt9, rt30, rt10, rt12, rt17, rt19, rt8, rt4, rt1, rt27, rt24, rt16, rt6, rt21, rt33, rt22, rt2, rt25, rt14, rt13, rt5] at *
  all_goals exact sc37

set_option maxHeartbeats 4000000 in
theorem rp6h0 (t0 t1 t2 t3 t4 t5 t6 t7 t8 t9 t10 t11 t12 t13 t14 t15 t16 t17 : List UInt8) (P : Ix → Int) (n : Nat) (L : Ix → List UInt8) (t : List UInt8) (bad : Nat) (T : List RawR.Ev) (i : Nat) (l : List UInt8) (k : Nat) (tt : List UInt8) (e : RawR.Ev) (h1 : l ≠ []) (h2 : l.getD 0 0 = 35) (hK : evK l = 4) (hk : k = l.length) (hll : l.length ≤ 400) (hi : i < 20) (htl : t.length ≤ 10000) (hbl : bad ≤ 100) (hTl : T.length ≤ 100) (htt : (i = 0 ∧ tt = t) ∨ (0 < i ∧ tt = t ++ [10])) (he : evR l = e)  (next : RunsTo Tryd.prog 8 (headOf Tryd.f8 0) (envAt Tryd.f8.ntmps ([(3, vS (tt ++ l)), (4, vN (bad : Nat)), (5, vL 123 4 (T).length), (24, vL 100 1 n), (25, vN n), (26, vN (i + 1 : Nat))])) (Sx.look ((rpS t0 t1 t2 t3 t4 t5 t6 t7 t8 t9 t10 t11 t12 t13 t14 t15 t16 t17 ++ (pwF P ++ [⟨100, false, none, 1, .ta n (.vs L)⟩])) ++ (waE 123 124 (T)))) 110 (YES) (Sx.look []) 1400) :
    RunsTo Tryd.prog 8 (headOf Tryd.f8 1) (envAt Tryd.f8.ntmps ([(3, vS t), (4, vN (bad : Nat)), (5, vL 123 4 T.length), (6, vN (i : Nat)), (7, vS l), (8, vN (k : Nat)), (24, vL 100 1 n), (25, vN n), (26, vN (i : Nat))])) (Sx.look ((rpS t0 t1 t2 t3 t4 t5 t6 t7 t8 t9 t10 t11 t12 t13 t14 t15 t16 t17 ++ (pwF P ++ [⟨100, false, none, 1, .ta n (.vs L)⟩])) ++ (waE 123 124 T))) 110 (YES) (Sx.look []) 1400 := by
  have hw : IntKind.i64.wrap ((i : Int) + 1) = ((i + 1 : Nat) : Int) := by rw [wr64 (by omega)]; rfl
  have hsd := same_doc e
  have hm : e.M.length ≤ 401 := by rw [← he]; exact evM_len l hll
  have hp : 0 < l.length := List.length_pos_iff.2 h1
  have hpz : ((l.length : Int) == 0) = false := beq_eq_false_iff_ne.2 (by omega)
  have h35 : ((((l.getD 0 0).toNat : Nat) : Int) == 35) = true := by rw [h2]; rfl
  have E' := (⟨he, hK, hsd, hpz, h35⟩ : _ ∧ _ ∧ _ ∧ _ ∧ _)
  refine bcase (fun gg0 => (rMo baseP1 700 (behind Tryd.f8 0) 900 150 (hI 14 84955412) ([]) [(rt9 k l), (rt10 l), (rt12 l), (!decide (evK l = (16 : Nat)) == (List.map (fun c => if c.blt (80 : Nat) = true then c else 150 + (c - (80 : Nat))) errL).length.ble (evK l), false), (rt17 l), (rt19 l), (rt8 l), (rt4 l), (rt1 l), (rt24 i), (rt16 l t), (rt18 l), (rt7 l), ((rt35 l) == 35, true)] (rt6 T bad i l n t tt) next (oc5 ?_ ?_ ?_ ?_ ?_ (oc9 ?_ ?_ ?_ ?_ gg0 ?_ ?_ ?_ ?_ okn)) ?_)) fun gg0 => (rMo baseP1 700 (behind Tryd.f8 0) 900 150 (hI 15 341070100) ([]) [(rt9 k l), (rt10 l), (rt12 l), (!decide (evK l = (16 : Nat)) == (List.map (fun c => if c.blt (80 : Nat) = true then c else 150 + (c - (80 : Nat))) errL).length.ble (evK l), false), (rt17 l), (rt19 l), (rt8 l), (rt4 l), (rt1 l), (rt25 i), (rt14 t), (rt13 l t), (rt18 l), (rt7 l), ((rt35 l) == 35, true)] (rt5 T bad i l n t tt) next (oc6 ?_ ?_ ?_ ?_ ?_ ?_ (oc9 ?_ ?_ ?_ gg0 ?_ ?_ ?_ ?_ ?_ okn)) ?_)
  all_goals clear next; try dsimp only [rt9, rt30, rt10, rt12, rt17, rt19, rt8, rt4, rt1, rt27, rt24, rt16, rt18, rt7, rt35, rt6, rt21, rt33, rt22, rt2, rt25, rt14, rt13, rt5] at *
  all_goals exact sc38

set_option maxHeartbeats 4000000 in
theorem rp6b0 (t0 t1 t2 t3 t4 t5 t6 t7 t8 t9 t10 t11 t12 t13 t14 t15 t16 t17 : List UInt8) (P : Ix → Int) (n : Nat) (L : Ix → List UInt8) (t : List UInt8) (bad : Nat) (T : List RawR.Ev) (i : Nat) (l : List UInt8) (k : Nat) (tt : List UInt8) (e : RawR.Ev) (h1 : l ≠ []) (h2 : l.getD 0 0 ≠ 35) (h3 : 0 < bad) (hK : evK l = 4) (hk : k = l.length) (hll : l.length ≤ 400) (hi : i < 20) (htl : t.length ≤ 10000) (hbl : bad ≤ 100) (hTl : T.length ≤ 100) (htt : (i = 0 ∧ tt = t) ∨ (0 < i ∧ tt = t ++ [10])) (he : evR l = e)  (next : RunsTo Tryd.prog 8 (headOf Tryd.f8 0) (envAt Tryd.f8.ntmps ([(3, vS (tt ++ l)), (4, vN (bad : Nat)), (5, vL 123 4 (T).length), (24, vL 100 1 n), (25, vN n), (26, vN (i + 1 : Nat))])) (Sx.look ((rpS t0 t1 t2 t3 t4 t5 t6 t7 t8 t9 t10 t11 t12 t13 t14 t15 t16 t17 ++ (pwF P ++ [⟨100, false, none, 1, .ta n (.vs L)⟩])) ++ (waE 123 124 (T)))) 110 (YES) (Sx.look []) 1400) :
    RunsTo Tryd.prog 8 (headOf Tryd.f8 1) (envAt Tryd.f8.ntmps ([(3, vS t), (4, vN (bad : Nat)), (5, vL 123 4 T.length), (6, vN (i : Nat)), (7, vS l), (8, vN (k : Nat)), (24, vL 100 1 n), (25, vN n), (26, vN (i : Nat))])) (Sx.look ((rpS t0 t1 t2 t3 t4 t5 t6 t7 t8 t9 t10 t11 t12 t13 t14 t15 t16 t17 ++ (pwF P ++ [⟨100, false, none, 1, .ta n (.vs L)⟩])) ++ (waE 123 124 T))) 110 (YES) (Sx.look []) 1400 := by
  have hw : IntKind.i64.wrap ((i : Int) + 1) = ((i + 1 : Nat) : Int) := by rw [wr64 (by omega)]; rfl
  have hsd := same_doc e
  have hm : e.M.length ≤ 401 := by rw [← he]; exact evM_len l hll
  have hp : 0 < l.length := List.length_pos_iff.2 h1
  have hpz : ((l.length : Int) == 0) = false := beq_eq_false_iff_ne.2 (by omega)
  have h35 : ((((l.getD 0 0).toNat : Nat) : Int) == 35) = false := beq_eq_false_iff_ne.2 (fun q => h2 (UInt8.toNat_inj.1 (by show (l.getD 0 0).toNat = 35; omega)))
  have E' := (⟨he, hK, hsd, hpz, h35⟩ : _ ∧ _ ∧ _ ∧ _ ∧ _)
  refine bcase (fun gg0 => (rMo baseP1 700 (behind Tryd.f8 0) 900 150 (hI 15 286282004) ([]) [(rt9 k l), (rt10 l), (rt12 l), (!decide (evK l = (16 : Nat)) == (List.map (fun c => if c.blt (80 : Nat) = true then c else 150 + (c - (80 : Nat))) errL).length.ble (evK l), false), (rt17 l), (rt19 l), (rt8 l), (rt4 l), (rt1 l), (rt24 i), (rt16 l t), (rt18 l), (rt7 l), (rt11 l), (rt29 bad)] (rt6 T bad i l n t tt) next (oc6 ?_ ?_ ?_ ?_ ?_ ?_ (oc9 ?_ ?_ ?_ gg0 ?_ ?_ ?_ ?_ ?_ okn)) ?_)) fun gg0 => (rMo baseP1 700 (behind Tryd.f8 0) 900 150 (hI 16 1146376468) ([]) [(rt9 k l), (rt10 l), (rt12 l), (!decide (evK l = (16 : Nat)) == (List.map (fun c => if c.blt (80 : Nat) = true then c else 150 + (c - (80 : Nat))) errL).length.ble (evK l), false), (rt17 l), (rt19 l), (rt8 l), (rt4 l), (rt1 l), (rt25 i), (rt14 t), (rt13 l t), (rt18 l), (rt7 l), (rt11 l), (rt29 bad)] (rt5 T bad i l n t tt) next (oc7 ?_ ?_ ?_ ?_ ?_ ?_ ?_ (oc9 ?_ ?_ gg0 ?_ ?_ ?_ ?_ ?_ ?_ okn)) ?_)
  all_goals clear next; try dsimp only [rt9, rt30, rt10, rt12, rt17, rt19, rt8, rt4, rt1, rt27, rt24, rt16, rt18, rt7, rt11, rt35, rt29, rt6, rt21, rt33, rt22, rt2, rt25, rt14, rt13, rt5] at *
  all_goals exact sc38

set_option maxHeartbeats 4000000 in
theorem rp6b1 (t0 t1 t2 t3 t4 t5 t6 t7 t8 t9 t10 t11 t12 t13 t14 t15 t16 t17 : List UInt8) (P : Ix → Int) (n : Nat) (L : Ix → List UInt8) (t : List UInt8) (bad : Nat) (T : List RawR.Ev) (i : Nat) (l : List UInt8) (k : Nat) (tt : List UInt8) (e : RawR.Ev) (h1 : l ≠ []) (h2 : l.getD 0 0 ≠ 35) (h3 : 0 < bad) (hK : evK l = 16) (hk : k = l.length) (hll : l.length ≤ 400) (hi : i < 20) (htl : t.length ≤ 10000) (hbl : bad ≤ 100) (hTl : T.length ≤ 100) (htt : (i = 0 ∧ tt = t) ∨ (0 < i ∧ tt = t ++ [10])) (he : evR l = e)  (next : RunsTo Tryd.prog 8 (headOf Tryd.f8 0) (envAt Tryd.f8.ntmps ([(3, vS (tt ++ l)), (4, vN (bad : Nat)), (5, vL 123 4 (T).length), (24, vL 100 1 n), (25, vN n), (26, vN (i + 1 : Nat))])) (Sx.look ((rpS t0 t1 t2 t3 t4 t5 t6 t7 t8 t9 t10 t11 t12 t13 t14 t15 t16 t17 ++ (pwF P ++ [⟨100, false, none, 1, .ta n (.vs L)⟩])) ++ (waE 123 124 (T)))) 110 (YES) (Sx.look []) 1400) :
    RunsTo Tryd.prog 8 (headOf Tryd.f8 1) (envAt Tryd.f8.ntmps ([(3, vS t), (4, vN (bad : Nat)), (5, vL 123 4 T.length), (6, vN (i : Nat)), (7, vS l), (8, vN (k : Nat)), (24, vL 100 1 n), (25, vN n), (26, vN (i : Nat))])) (Sx.look ((rpS t0 t1 t2 t3 t4 t5 t6 t7 t8 t9 t10 t11 t12 t13 t14 t15 t16 t17 ++ (pwF P ++ [⟨100, false, none, 1, .ta n (.vs L)⟩])) ++ (waE 123 124 T))) 110 (YES) (Sx.look []) 1400 := by
  have hw : IntKind.i64.wrap ((i : Int) + 1) = ((i + 1 : Nat) : Int) := by rw [wr64 (by omega)]; rfl
  have hsd := same_doc e
  have hm : e.M.length ≤ 401 := by rw [← he]; exact evM_len l hll
  have hp : 0 < l.length := List.length_pos_iff.2 h1
  have hpz : ((l.length : Int) == 0) = false := beq_eq_false_iff_ne.2 (by omega)
  have h35 : ((((l.getD 0 0).toNat : Nat) : Int) == 35) = false := beq_eq_false_iff_ne.2 (fun q => h2 (UInt8.toNat_inj.1 (by show (l.getD 0 0).toNat = 35; omega)))
  have E' := (⟨he, hK, hsd, hpz, h35⟩ : _ ∧ _ ∧ _ ∧ _ ∧ _)
  refine bcase (fun gg0 => (rMo baseP1 700 (behind Tryd.f8 0) 900 150 (hI 14 71570452) ([]) [(rt9 k l), (rt10 l), (rt12 l), (!decide (evK l = (16 : Nat)) == (List.map (fun c => if c.blt (80 : Nat) = true then c else 150 + (c - (80 : Nat))) errL).length.ble (evK l), false), (rt20 l), (rt8 l), (rt4 l), (rt1 l), (rt24 i), (rt16 l t), (rt18 l), (rt7 l), (rt11 l), (rt29 bad)] (rt6 T bad i l n t tt) next (oc5 ?_ ?_ ?_ ?_ ?_ (oc9 ?_ ?_ ?_ gg0 ?_ ?_ ?_ ?_ ?_ okn)) ?_)) fun gg0 => (rMo baseP1 700 (behind Tryd.f8 0) 900 150 (hI 15 286594068) ([]) [(rt9 k l), (rt10 l), (rt12 l), (!decide (evK l = (16 : Nat)) == (List.map (fun c => if c.blt (80 : Nat) = true then c else 150 + (c - (80 : Nat))) errL).length.ble (evK l), false), (rt20 l), (rt8 l), (rt4 l), (rt1 l), (rt25 i), (rt14 t), (rt13 l t), (rt18 l), (rt7 l), (rt11 l), (rt29 bad)] (rt5 T bad i l n t tt) next (oc6 ?_ ?_ ?_ ?_ ?_ ?_ (oc9 ?_ ?_ gg0 ?_ ?_ ?_ ?_ ?_ ?_ okn)) ?_)
  all_goals clear next; try dsimp only [rt9, rt30, rt10, rt12, rt20, rt8, rt4, rt1, rt27, rt24, rt16, rt18, rt7, rt11, rt35, rt29, rt6, rt21, rt33, rt22, rt2, rt25, rt14, rt13, rt5] at *
  all_goals exact sc38

set_option maxHeartbeats 4000000 in
theorem rp6a0 (t0 t1 t2 t3 t4 t5 t6 t7 t8 t9 t10 t11 t12 t13 t14 t15 t16 t17 : List UInt8) (P : Ix → Int) (n : Nat) (L : Ix → List UInt8) (t : List UInt8) (bad : Nat) (T : List RawR.Ev) (i : Nat) (l : List UInt8) (k : Nat) (tt : List UInt8) (e : RawR.Ev) (h1 : l ≠ []) (h2 : l.getD 0 0 ≠ 35) (h3 : bad = 0) (hK : evK l = 4) (hk : k = l.length) (hll : l.length ≤ 400) (hi : i < 20) (htl : t.length ≤ 10000) (hbl : bad ≤ 100) (hTl : T.length ≤ 100) (htt : (i = 0 ∧ tt = t) ∨ (0 < i ∧ tt = t ++ [10])) (he : evR l = e)  (next : RunsTo Tryd.prog 8 (headOf Tryd.f8 0) (envAt Tryd.f8.ntmps ([(3, vS (tt ++ l)), (4, vN (i + 1 : Nat)), (5, vL 123 4 (T ++ [e]).length), (24, vL 100 1 n), (25, vN n), (26, vN (i + 1 : Nat))])) (Sx.look ((rpS t0 t1 t2 t3 t4 t5 t6 t7 t8 t9 t10 t11 t12 t13 t14 t15 t16 t17 ++ (pwF P ++ [⟨100, false, none, 1, .ta n (.vs L)⟩])) ++ (waE 123 124 (T ++ [e])))) 110 (YES) (Sx.look []) 1400) :
    RunsTo Tryd.prog 8 (headOf Tryd.f8 1) (envAt Tryd.f8.ntmps ([(3, vS t), (4, vN (bad : Nat)), (5, vL 123 4 T.length), (6, vN (i : Nat)), (7, vS l), (8, vN (k : Nat)), (24, vL 100 1 n), (25, vN n), (26, vN (i : Nat))])) (Sx.look ((rpS t0 t1 t2 t3 t4 t5 t6 t7 t8 t9 t10 t11 t12 t13 t14 t15 t16 t17 ++ (pwF P ++ [⟨100, false, none, 1, .ta n (.vs L)⟩])) ++ (waE 123 124 T))) 110 (YES) (Sx.look []) 1400 := by
  have hw : IntKind.i64.wrap ((i : Int) + 1) = ((i + 1 : Nat) : Int) := by rw [wr64 (by omega)]; rfl
  have hsd := same_doc e
  have hm : e.M.length ≤ 401 := by rw [← he]; exact evM_len l hll
  have hp : 0 < l.length := List.length_pos_iff.2 h1
  have hpz : ((l.length : Int) == 0) = false := beq_eq_false_iff_ne.2 (by omega)
  have h35 : ((((l.getD 0 0).toNat : Nat) : Int) == 35) = false := beq_eq_false_iff_ne.2 (fun q => h2 (UInt8.toNat_inj.1 (by show (l.getD 0 0).toNat = 35; omega)))
  have E' := (⟨he, hK, hsd, hpz, h35⟩ : _ ∧ _ ∧ _ ∧ _ ∧ _)
  refine bcase (fun gg0 => (rMo baseP1 700 (behind Tryd.f8 0) 900 150 (hI 19 99875836180) ([((123 : Nat), Rn.to (736 : Nat)), ((124 : Nat), Rn.to (735 : Nat))]) [(rt9 k l), (rt10 l), (rt12 l), (!decide (evK l = (16 : Nat)) == (List.map (fun c => if c.blt (80 : Nat) = true then c else 150 + (c - (80 : Nat))) errL).length.ble (evK l), false), (rt17 l), (rt19 l), (rt8 l), (rt4 l), (rt1 l), (rt24 i), (rt16 l t), (rt18 l), (rt7 l), (rt11 l), (rt28 bad), (rt17 l), (rt34 T), (rt15 T)] ((tt ++ l = t ++ l ∧ (rt22 i) = IntKind.i64.wrap ((i : Int) + 1) ∧ (rt26 T e) ∧ (rt33 n) ∧ (n : Int) = (n : Int) ∧ (rt22 i) = IntKind.i64.wrap ((i : Int) + 1)) ∧ (rt3 T e i l) ∧ (T ++ [e]).length = T.length + (1 : Nat) ∧ ∀ (m : Nat), m < (T ++ [e]).length → gLM (T ++ [e]) m = consN (evR l).4.length (gLM T) m ∧ ∀ (i : Nat), i < gLM (T ++ [e]) m → gM (T ++ [e]) [m, i] = consF (fun is => (evR l).4.getD (rt27 is) (0 : Int)) (gM T) [m, i]) next (oc9 ?_ ?_ ?_ ?_ ?_ ?_ ?_ ?_ ?_ (oc9 gg0 ?_ ?_ ?_ ?_ ?_ ?_ ?_ ?_ okn)) ?_)) fun gg0 => (rMo baseP1 700 (behind Tryd.f8 0) 900 150 (hI 20 399504593172) ([((123 : Nat), Rn.to (736 : Nat)), ((124 : Nat), Rn.to (735 : Nat))]) [(rt9 k l), (rt10 l), (rt12 l), (!decide (evK l = (16 : Nat)) == (List.map (fun c => if c.blt (80 : Nat) = true then c else 150 + (c - (80 : Nat))) errL).length.ble (evK l), false), (rt17 l), (rt19 l), (rt8 l), (rt4 l), (rt1 l), (rt25 i), (rt14 t), (rt13 l t), (rt18 l), (rt7 l), (rt11 l), (rt28 bad), (rt17 l), (rt34 T), (rt15 T)] ((tt ++ l = t ++ [(10 : UInt8)] ++ l ∧ (rt22 i) = IntKind.i64.wrap ((i : Int) + 1) ∧ (rt26 T e) ∧ (rt33 n) ∧ (n : Int) = (n : Int) ∧ (rt22 i) = IntKind.i64.wrap ((i : Int) + 1)) ∧ (rt3 T e i l) ∧ (T ++ [e]).length = T.length + (1 : Nat) ∧ ∀ (m : Nat), m < (T ++ [e]).length → gLM (T ++ [e]) m = consN (evR l).4.length (gLM T) m ∧ ∀ (i : Nat), i < gLM (T ++ [e]) m → gM (T ++ [e]) [m, i] = consF (fun is => (evR l).4.getD (rt27 is) (0 : Int)) (gM T) [m, i]) next (oc1 ?_ (oc9 ?_ ?_ ?_ ?_ ?_ ?_ ?_ ?_ gg0 (oc9 ?_ ?_ ?_ ?_ ?_ ?_ ?_ ?_ ?_ okn))) ?_)
  all_goals clear next; try dsimp only [rt9, rt30, rt10, rt12, rt17, rt19, rt8, rt4, rt1, rt27, rt24, rt16, rt18, rt7, rt11, rt35, rt28, rt34, rt15, rt22, rt26, rt33, rt3, rt25, rt14, rt13] at *
  all_goals exact sc38

set_option maxHeartbeats 4000000 in
theorem rp6a1 (t0 t1 t2 t3 t4 t5 t6 t7 t8 t9 t10 t11 t12 t13 t14 t15 t16 t17 : List UInt8) (P : Ix → Int) (n : Nat) (L : Ix → List UInt8) (t : List UInt8) (bad : Nat) (T : List RawR.Ev) (i : Nat) (l : List UInt8) (k : Nat) (tt : List UInt8) (e : RawR.Ev) (h1 : l ≠ []) (h2 : l.getD 0 0 ≠ 35) (h3 : bad = 0) (hK : evK l = 16) (hk : k = l.length) (hll : l.length ≤ 400) (hi : i < 20) (htl : t.length ≤ 10000) (hbl : bad ≤ 100) (hTl : T.length ≤ 100) (htt : (i = 0 ∧ tt = t) ∨ (0 < i ∧ tt = t ++ [10])) (he : evR l = e)  (next : RunsTo Tryd.prog 8 (headOf Tryd.f8 0) (envAt Tryd.f8.ntmps ([(3, vS (tt ++ l)), (4, vN (bad : Nat)), (5, vL 123 4 (T ++ [e]).length), (24, vL 100 1 n), (25, vN n), (26, vN (i + 1 : Nat))])) (Sx.look ((rpS t0 t1 t2 t3 t4 t5 t6 t7 t8 t9 t10 t11 t12 t13 t14 t15 t16 t17 ++ (pwF P ++ [⟨100, false, none, 1, .ta n (.vs L)⟩])) ++ (waE 123 124 (T ++ [e])))) 110 (YES) (Sx.look []) 1400) :
    RunsTo Tryd.prog 8 (headOf Tryd.f8 1) (envAt Tryd.f8.ntmps ([(3, vS t), (4, vN (bad : Nat)), (5, vL 123 4 T.length), (6, vN (i : Nat)), (7, vS l), (8, vN (k : Nat)), (24, vL 100 1 n), (25, vN n), (26, vN (i : Nat))])) (Sx.look ((rpS t0 t1 t2 t3 t4 t5 t6 t7 t8 t9 t10 t11 t12 t13 t14 t15 t16 t17 ++ (pwF P ++ [⟨100, false, none, 1, .ta n (.vs L)⟩])) ++ (waE 123 124 T))) 110 (YES) (Sx.look []) 1400 := by
  have hw : IntKind.i64.wrap ((i : Int) + 1) = ((i + 1 : Nat) : Int) := by rw [wr64 (by omega)]; rfl
  have hsd := same_doc e
  have hm : e.M.length ≤ 401 := by rw [← he]; exact evM_len l hll
  have hp : 0 < l.length := List.length_pos_iff.2 h1
  have hpz : ((l.length : Int) == 0) = false := beq_eq_false_iff_ne.2 (by omega)
  have h35 : ((((l.getD 0 0).toNat : Nat) : Int) == 35) = false := beq_eq_false_iff_ne.2 (fun q => h2 (UInt8.toNat_inj.1 (by show (l.getD 0 0).toNat = 35; omega)))
  have E' := (⟨he, hK, hsd, hpz, h35⟩ : _ ∧ _ ∧ _ ∧ _ ∧ _)
  refine bcase (fun gg0 => (rMo baseP1 700 (behind Tryd.f8 0) 900 150 (hI 18 24700523540) ([((123 : Nat), Rn.to (686 : Nat)), ((124 : Nat), Rn.to (685 : Nat))]) [(rt9 k l), (rt10 l), (rt12 l), (!decide (evK l = (16 : Nat)) == (List.map (fun c => if c.blt (80 : Nat) = true then c else 150 + (c - (80 : Nat))) errL).length.ble (evK l), false), (rt20 l), (rt8 l), (rt4 l), (rt1 l), (rt24 i), (rt16 l t), (rt18 l), (rt7 l), (rt11 l), (rt28 bad), (rt20 l), (rt34 T), (rt15 T)] ((tt ++ l = t ++ l ∧ (bad : Int) = (bad : Int) ∧ (rt26 T e) ∧ (rt33 n) ∧ (n : Int) = (n : Int) ∧ (rt22 i) = IntKind.i64.wrap ((i : Int) + 1)) ∧ (rt3 T e i l) ∧ (T ++ [e]).length = T.length + (1 : Nat) ∧ ∀ (m : Nat), m < (T ++ [e]).length → gLM (T ++ [e]) m = consN (evR l).4.length (gLM T) m ∧ ∀ (i : Nat), i < gLM (T ++ [e]) m → gM (T ++ [e]) [m, i] = consF (fun is => (evR l).4.getD (rt27 is) (0 : Int)) (gM T) [m, i]) next (oc8 ?_ ?_ ?_ ?_ ?_ ?_ ?_ ?_ (oc9 gg0 ?_ ?_ ?_ ?_ ?_ ?_ ?_ ?_ okn)) ?_)) fun gg0 => (rMo baseP1 700 (behind Tryd.f8 0) 900 150 (hI 19 98802406420) ([((123 : Nat), Rn.to (686 : Nat)), ((124 : Nat), Rn.to (685 : Nat))]) [(rt9 k l), (rt10 l), (rt12 l), (!decide (evK l = (16 : Nat)) == (List.map (fun c => if c.blt (80 : Nat) = true then c else 150 + (c - (80 : Nat))) errL).length.ble (evK l), false), (rt20 l), (rt8 l), (rt4 l), (rt1 l), (rt25 i), (rt14 t), (rt13 l t), (rt18 l), (rt7 l), (rt11 l), (rt28 bad), (rt20 l), (rt34 T), (rt15 T)] ((tt ++ l = t ++ [(10 : UInt8)] ++ l ∧ (bad : Int) = (bad : Int) ∧ (rt26 T e) ∧ (rt33 n) ∧ (n : Int) = (n : Int) ∧ (rt22 i) = IntKind.i64.wrap ((i : Int) + 1)) ∧ (rt3 T e i l) ∧ (T ++ [e]).length = T.length + (1 : Nat) ∧ ∀ (m : Nat), m < (T ++ [e]).length → gLM (T ++ [e]) m = consN (evR l).4.length (gLM T) m ∧ ∀ (i : Nat), i < gLM (T ++ [e]) m → gM (T ++ [e]) [m, i] = consF (fun is => (evR l).4.getD (rt27 is) (0 : Int)) (gM T) [m, i]) next (oc9 ?_ ?_ ?_ ?_ ?_ ?_ ?_ ?_ gg0 (oc9 ?_ ?_ ?_ ?_ ?_ ?_ ?_ ?_ ?_ okn)) ?_)
  all_goals clear next; try dsimp only [rt9, rt30, rt10, rt12, rt20, rt8, rt4, rt1, rt27, rt24, rt16, rt18, rt7, rt11, rt35, rt28, rt34, rt15, rt26, rt33, rt22, rt3, rt25, rt14, rt13] at *
  all_goals exact sc38

set_option maxHeartbeats 4000000 in
theorem rp7 (t0 t1 t2 t3 t4 t5 t6 t7 t8 t9 t10 t11 t12 t13 t14 t15 t16 t17 : List UInt8) (P : Ix → Int) (n : Nat) (L : Ix → List UInt8) (t : List UInt8) (bad : Nat) (T : List RawR.Ev) (i : Nat) (T2 : List RawR.Ev) (hi : i = n) (hn : n ≤ 20) (hbl : bad ≤ 100) (hTl : T.length ≤ 100) (hb : 0 < bad) (ha : allR t = (T2, bad, 4)) (hT2 : T2.length = 0)  :
    (RunsTo Tryd.prog 8 (headOf Tryd.f8 0) (envAt Tryd.f8.ntmps ([(3, vS (t)), (4, vN (bad : Nat)), (5, vL 123 4 (T).length), (24, vL 100 1 n), (25, vN n), (26, vN (i : Nat))])) (Sx.look ((rpS t0 t1 t2 t3 t4 t5 t6 t7 t8 t9 t10 t11 t12 t13 t14 t15 t16 t17 ++ (rt23 L P n)) ++ (waE 123 124 (T)))) 110 (YES) (Sx.look ([])) 1400) := by
  have x5 : xnum 4 = 5 := by decide
  have E' := (⟨ha, hT2, x5⟩ : _ ∧ _ ∧ _)
  refine rEn baseP2 700 (99) 900 150 (hI 5 348) ([]) [(decide ((i : Int) < (n : Int)), false), (rt29 bad), ((↑(allR t).1.length : Int) == 0, true), ((↑(allR t).2.1 : Int) == (bad : Int), true)] (true = (xnum (allR t).2.2 == (5 : Int)) ∧ True) (oc4 ?_ ?_ ?_ ?_ okn) ?_
  all_goals try dsimp only [rt29]
  all_goals exact sc39

set_option maxHeartbeats 4000000 in
theorem rp8 (t0 t1 t2 t3 t4 t5 t6 t7 t8 t9 t10 t11 t12 t13 t14 t15 t16 t17 : List UInt8) (P : Ix → Int) (n : Nat) (L : Ix → List UInt8) (t : List UInt8) (bad : Nat) (T : List RawR.Ev) (i : Nat) (hi : i = n) (hn : n ≤ 20) (hbl : bad ≤ 100) (hTl : T.length ≤ 100) (hb : bad = 0) (ha : allR t = (T, 0, 16))  (next : RunsTo Tryd.prog 8 (headOf Tryd.f8 2) (envAt Tryd.f8.ntmps ([(5, vL 123 4 T.length), (136, vL 125 4 T.length), (137, vN T.length), (138, vN (0 : Nat))])) (Sx.look ((rpS t0 t1 t2 t3 t4 t5 t6 t7 t8 t9 t10 t11 t12 t13 t14 t15 t16 t17 ++ (pwF P ++ [⟨100, false, none, 1, .ta n (.vs L)⟩])) ++ (waE 123 124 T ++ evE 125 126 127 T))) 110 (YES) (Sx.look []) 1400) :
    RunsTo Tryd.prog 8 (headOf Tryd.f8 0) (envAt Tryd.f8.ntmps ([(3, vS (t)), (4, vN (bad : Nat)), (5, vL 123 4 (T).length), (24, vL 100 1 n), (25, vN n), (26, vN (i : Nat))])) (Sx.look ((rpS t0 t1 t2 t3 t4 t5 t6 t7 t8 t9 t10 t11 t12 t13 t14 t15 t16 t17 ++ (pwF P ++ [⟨100, false, none, 1, .ta n (.vs L)⟩])) ++ (waE 123 124 (T)))) 110 (YES) (Sx.look []) 1400 := by
  have E' := ha
  refine rMo baseP2 700 (behind Tryd.f8 2) 900 150 (hI 6 12) ([((125 : Nat), Rn.to (211 : Nat)), ((126 : Nat), Rn.to (212 : Nat)), ((127 : Nat), Rn.to (213 : Nat))]) [(decide ((i : Int) < (n : Int)), false), (rt28 bad), (!(List.map (fun c => if c.blt (80 : Nat) = true then c else 150 + (c - (80 : Nat))) errL).length.ble (allR t).2.2, false), ((↑(allR t).2.1 : Int) != (0 : Int), false), ((↑(allR t).1.length : Int) != (rt37 T), false)] (((rt21 T) ∧ (0 = 0 ∧ T.length = (allR t).1.length) ∧ (rt37 T) = (↑(allR t).1.length : Int) ∧ (↑(0 : Nat) : Int) = (0 : Int)) ∧ (rt2 T i) ∧ (T.length = T.length ∧ ∀ (m : Nat), m < T.length → gLM T m = gLM T m ∧ ∀ (i : Nat), i < gLM T m → gM T [m, i] = gM T [m, i]) ∧ (T.length = (allR t).1.length ∧ (∀ (i : Nat), i < T.length → eK T [i] = eK (allR t).1 [i]) ∧ (∀ (i : Nat), i < T.length → eN' T [i] = eN' (allR t).1 [i]) ∧ ((∀ (i : Nat), i < T.length → eX T [i] = eX (allR t).1 [i]) ∧ ∀ (i : Nat), i < T.length → eLB T [i] = eLB (allR t).1 [i]) ∧ (∀ (i : Nat), i < T.length → eX T [i] = eX (allR t).1 [i]) ∧ ∀ (i : Nat), i < T.length → eLM T [i] = eLM (allR t).1 [i]) ∧ (T.length = (allR t).1.length ∧ ∀ (m : Nat), m < T.length → gLB T m = gLB (allR t).1 m ∧ ∀ (i : Nat), i < gLB T m → gB T [m, i] = gB (allR t).1 [m, i]) ∧ T.length = (allR t).1.length ∧ ∀ (m : Nat), m < T.length → gLM T m = gLM (allR t).1 m ∧ ∀ (i : Nat), i < gLM T m → gM T [m, i] = gM (allR t).1 [m, i]) next (oc5 ?_ ?_ ?_ ?_ ?_ okn) ?_
  all_goals clear next; try dsimp only [rt28, rt37, rt21, rt2]
  all_goals exact sc40

theorem at_j {T : List RawR.Ev} {j : Nat} (hj : j < T.length) : T.length - 1 - (T.length - 1 - j) = j := by omega
theorem gB_at {T : List RawR.Ev} {j : Nat} {e : RawR.Ev} (hj : j < T.length) (he : T.getD j ev0 = e) : bytesOf (gB T) [T.length - 1 - j] 0 e.B.length = e.B := by
  apply List.ext_getElem
  · simp [bytesOf]
  · intro i h1 h2
    simp only [bytesOf, List.getElem_map, List.getElem_range, Nat.zero_add, gB, List.singleton_append, List.headD_cons, List.tail_cons]
    rw [at_j hj, he]
    simp [List.getD_eq_getElem?_getD, List.getElem?_eq_getElem h2]
theorem sm_at {T : List RawR.Ev} {j : Nat} {e : RawR.Ev} (hj : j < T.length) (he : T.getD j ev0 = e) (F G : Ix → Int) (hFG : F = G) : sameT e.K e.N e.K e.N (bytesOf (gB T) [T.length - 1 - j] 0 e.B.length) e.B e.M.length e.M.length F G = true := by
  subst hFG
  unfold sameT
  rw [gB_at hj he, eqI_self]
  simp

set_option maxHeartbeats 4000000 in
theorem rp9 (t0 t1 t2 t3 t4 t5 t6 t7 t8 t9 t10 t11 t12 t13 t14 t15 t16 t17 : List UInt8) (P : Ix → Int) (n : Nat) (L : Ix → List UInt8) (T : List RawR.Ev) (j : Nat) (e : RawR.Ev) (hj : j < T.length) (hTl : T.length ≤ 100) (he : T.getD j ev0 = e) (hm : e.M.length ≤ 100000)  (next : RunsTo Tryd.prog 8 (headOf Tryd.f8 2) (envAt Tryd.f8.ntmps ([(5, vL 123 4 T.length), (136, vL 125 4 T.length), (137, vN T.length), (138, vN (j + 1 : Nat))])) (Sx.look ((rpS t0 t1 t2 t3 t4 t5 t6 t7 t8 t9 t10 t11 t12 t13 t14 t15 t16 t17 ++ (pwF P ++ [⟨100, false, none, 1, .ta n (.vs L)⟩])) ++ (waE 123 124 T ++ evE 125 126 127 T))) 110 (YES) (Sx.look []) 1400) :
    RunsTo Tryd.prog 8 (headOf Tryd.f8 2) (envAt Tryd.f8.ntmps ([(5, vL 123 4 T.length), (136, vL 125 4 T.length), (137, vN T.length), (138, vN (j : Nat))])) (Sx.look ((rpS t0 t1 t2 t3 t4 t5 t6 t7 t8 t9 t10 t11 t12 t13 t14 t15 t16 t17 ++ (pwF P ++ [⟨100, false, none, 1, .ta n (.vs L)⟩])) ++ (waE 123 124 T ++ evE 125 126 127 T))) 110 (YES) (Sx.look []) 1400 := by
  have hw : IntKind.i64.wrap ((j : Int) + 1) = ((j + 1 : Nat) : Int) := by rw [wr64 (by omega)]; rfl
  have hj0 : 0 + ((j : Nat) : Int).toNat = j := by simp
  have a1 := at_j hj
  have s1 := fun F => sm_at hj he F F rfl
  have E' := (⟨hj0, a1, he, hw⟩ : _ ∧ _ ∧ _ ∧ _)
  refine rMo baseP3 700 (behind Tryd.f8 2) 900 150 (hI 13 5592405) ([]) [(decide ((j : Int) < (rt37 T)), true), (decide (0 ≤ (j : Int) ∧ (j : Int) < (rt37 T)), true), (rt32 T j), (rt32 T j), ((eX T [0 + (j : Int).toNat]).blt T.length, true), ((0 + eLB T [0 + (j : Int).toNat]).ble (gLB T (eX T [0 + (j : Int).toNat])), true), (decide (0 ≤ (j : Int) ∧ (j : Int) < (rt37 T)), true), (rt32 T j), (rt32 T j), (rt31 T j), (rt31 T j), (decide (eLM T [0 + (j : Int).toNat] ≤ gLM T (eX T [0 + (j : Int).toNat])) && (decide (eLM T [0 + (j : Int).toNat] ≤ gLM T (eX T [0 + (j : Int).toNat])) && decide (eLM T [0 + (j : Int).toNat] ≤ (100000 : Nat))), true), (!sameT (eK T [0 + (j : Int).toNat]) (eN' T [0 + (j : Int).toNat]) (eK T [0 + (j : Int).toNat]) (eN' T [0 + (j : Int).toNat]) (bytesOf (gB T) [eX T [0 + (j : Int).toNat]] (0 : Nat) (eLB T [0 + (j : Int).toNat])) (eBs T [0 + (j : Int).toNat]) (eLM T [0 + (j : Int).toNat]) (eLM T [0 + (j : Int).toNat]) (fun js => gM T (eX T [0 + (j : Int).toNat] :: js)) fun js => gM T (eX T [0 + (j : Int).toNat] :: js), false)] (((rt21 T) ∧ (rt21 T) ∧ (rt37 T) = (rt37 T) ∧ (↑(j + (1 : Nat)) : Int) = IntKind.i64.wrap ((j : Int) + 1)) ∧ (rt2 T 0) ∧ (T.length = T.length ∧ ∀ (m : Nat), m < T.length → gLM T m = gLM T m ∧ ∀ (i : Nat), i < gLM T m → gM T [m, i] = gM T [m, i]) ∧ (T.length = T.length ∧ (∀ (i : Nat), i < T.length → eK T [i] = eK T [i]) ∧ (∀ (i : Nat), i < T.length → eN' T [i] = eN' T [i]) ∧ ((∀ (i : Nat), i < T.length → eX T [i] = eX T [i]) ∧ ∀ (i : Nat), i < T.length → eLB T [i] = eLB T [i]) ∧ (∀ (i : Nat), i < T.length → eX T [i] = eX T [i]) ∧ ∀ (i : Nat), i < T.length → eLM T [i] = eLM T [i]) ∧ (T.length = T.length ∧ ∀ (m : Nat), m < T.length → gLB T m = gLB T m ∧ ∀ (i : Nat), i < gLB T m → gB T [m, i] = gB T [m, i]) ∧ T.length = T.length ∧ ∀ (m : Nat), m < T.length → gLM T m = gLM T m ∧ ∀ (i : Nat), i < gLM T m → gM T [m, i] = gM T [m, i]) next (oc4 ?_ ?_ ?_ ?_ (oc9 ?_ ?_ ?_ ?_ ?_ ?_ ?_ ?_ ?_ okn)) ?_
  all_goals clear next; try dsimp only [rt37, rt32, rt31, rt21, rt2]
  all_goals exact sc41

set_option maxHeartbeats 4000000 in
theorem rpa (t0 t1 t2 t3 t4 t5 t6 t7 t8 t9 t10 t11 t12 t13 t14 t15 t16 t17 : List UInt8) (P : Ix → Int) (n : Nat) (L : Ix → List UInt8) (T : List RawR.Ev) (j : Nat) (hj : j = T.length)  :
    (RunsTo Tryd.prog 8 (headOf Tryd.f8 2) (envAt Tryd.f8.ntmps ([(5, vL 123 4 T.length), (136, vL 125 4 T.length), (137, vN T.length), (138, vN (j : Nat))])) (Sx.look ((rpS t0 t1 t2 t3 t4 t5 t6 t7 t8 t9 t10 t11 t12 t13 t14 t15 t16 t17 ++ (rt23 L P n)) ++ (waE 123 124 T ++ evE 125 126 127 T))) 110 (YES) (Sx.look ([])) 1400) := by
  refine rEn baseP3 700 (99) 900 150 (hI 1 0) ([]) [(decide ((j : Int) < (rt37 T)), false)] rt36 (oc1 ?_ okn) ?_
  all_goals try dsimp only [rt37, rt36]
  all_goals exact sc3

end Go.Proofs.YtankmgnjkcgpaaaDoor

set_option linter.unusedSimpArgs false
set_option linter.unusedVariables false
set_option maxRecDepth 100000
namespace Go.Proofs.YtankmgnjkcgpaaaDoor
open Go.Sx RawR

def stpL (i : Nat) (p : Nat × List RawR.Ev) (l : List UInt8) : Nat × List RawR.Ev :=
  if skipB l = true ∨ 0 < p.1 then p else if evK l = 16 then (p.1, p.2 ++ [evR l]) else (i + 1, p.2 ++ [evR l])
def goN (L : Ix → List UInt8) : Nat → Nat × List RawR.Ev
  | 0 => (0, [])
  | i + 1 => stpL i (goN L i) (L [i])
def txN (L : Ix → List UInt8) : Nat → List UInt8
  | 0 => []
  | i + 1 => (if i = 0 then txN L i else txN L i ++ [10]) ++ L [i]
def lnL (L : Ix → List UInt8) (n : Nat) : List (List UInt8) := (List.range n).map fun i => L [i]
theorem lnL_len (L : Ix → List UInt8) (n : Nat) : (lnL L n).length = n := by simp [lnL]
theorem lnL_get (L : Ix → List UInt8) {n i : Nat} (h : i < n) : (lnL L n).getD i [] = L [i] := by simp [lnL, List.getD_eq_getElem?_getD, h]
theorem tx_join (L : Ix → List UInt8) : ∀ n, txN L n = joinR 10 (lnL L n)
  | 0 => rfl
  | i + 1 => by
    have ih := tx_join L i
    rw [txN, lnL, List.range_succ, List.map_append, List.map_singleton]
    by_cases h : i = 0
    · subst h; rfl
    · rw [if_neg h, joinR_snoc 10 _ _ (by intro e; have := congrArg List.length e; simp at this; exact h this), ih, List.append_assoc]; rfl
theorem go_le (L : Ix → List UInt8) : ∀ i, (goN L i).1 ≤ i ∧ (goN L i).2.length ≤ i
  | 0 => by simp [goN]
  | i + 1 => by
    have := go_le L i
    rw [goN, stpL]
    repeat' split
    · omega
    · simp; omega
    · simp; omega
theorem tx_le (L : Ix → List UInt8) {m : Nat} : ∀ n, (∀ i, i < n → (L [i]).length ≤ m) → (txN L n).length ≤ (m + 1) * n
  | 0, _ => by simp [txN]
  | i + 1, h => by
    have h1 := tx_le L i (fun j hj => h j (by omega))
    have h2 := h i (by omega)
    rw [txN, Nat.mul_succ]
    split <;> simp <;> omega
theorem all_go (L : Ix → List UInt8) (n : Nat) : ∀ i, i ≤ n → allGo 0 [] (lnL L n) = if (goN L i).1 = 0 then allGo i (goN L i).2 ((lnL L n).drop i) else ([], (goN L i).1, 4)
  | 0, _ => by simp [goN]
  | i + 1, h => by
    rw [all_go L n i (by omega)]
    have hg : goN L (i + 1) = stpL i (goN L i) (L [i]) := rfl
    by_cases hb : (goN L i).1 = 0
    · rw [if_pos hb, dropT _ [] (show i < (lnL L n).length by rw [lnL_len]; omega), lnL_get L (show i < n by omega), allGo]
      by_cases hs : skipB (L [i]) = true
      · have e : goN L (i + 1) = goN L i := by rw [hg, stpL, if_pos (.inl hs)]
        rw [e, if_pos hs, if_pos hb]
      · have hn : ¬ (skipB (L [i]) = true ∨ 0 < (goN L i).1) := by intro h; rcases h with h | h; exact hs h; omega
        rw [if_neg hs]
        by_cases hk : evK (L [i]) = 16
        · have e : goN L (i + 1) = ((goN L i).1, (goN L i).2 ++ [evR (L [i])]) := by rw [hg, stpL, if_neg hn, if_pos hk]
          rw [e, if_pos hk, if_pos hb]
        · have e : goN L (i + 1) = (i + 1, (goN L i).2 ++ [evR (L [i])]) := by rw [hg, stpL, if_neg hn, if_neg hk]
          rw [e, if_neg hk, if_neg (by simp)]
    · have e : goN L (i + 1) = goN L i := by rw [hg, stpL, if_pos (.inr (by omega))]
      rw [if_neg hb, e, if_neg hb]
theorem all_tx (L : Ix → List UInt8) (n : Nat) (hl : ∀ i, i < n → (L [i]).length ≤ 400) (hn : n ≤ 20) (h10 : ∀ i, i < n → (10 : UInt8) ∉ L [i]) : allR (txN L n) = if (goN L n).1 = 0 then ((goN L n).2, 0, 16) else ([], (goN L n).1, 4) := by
  have h1 := tx_le L n hl
  unfold allR
  rw [if_neg (by omega), tx_join]
  by_cases h0 : n = 0
  · subst h0
    simp [lnL, joinR, splitR, allGo, goN, skipB]
  · rw [split_join 10 _ (by intro e; have := congrArg List.length e; rw [lnL_len] at this; exact h0 this) (by
      intro a ha
      obtain ⟨i, hi, rfl⟩ := List.mem_map.1 ha
      exact h10 i (List.mem_range.1 hi))]
    have := all_go L n n (Nat.le_refl _)
    rw [List.drop_eq_nil_of_le (by rw [lnL_len]; exact Nat.le_refl _), allGo] at this
    exact this
theorem hash_no {l : List UInt8} (h : l.getD 0 0 = 35) : evK l = 4 := by
  unfold evK
  cases hp : parseR l with
  | none => rfl
  | some e =>
    exfalso
    obtain ⟨h1, _⟩ := line_parse hp
    rw [← h1] at h
    unfold lineR at h
    repeat' split at h
    all_goals (simp [wBytes, wGrant, wTick, wClose] at h; done)
theorem down_loopR {n : Nat} {R : Nat → Prop} (step : ∀ i, i < n → R (i + 1) → R i) (fin : R n) : R 0 := by
  suffices q : ∀ (k i : Nat), i + k = n → R i from q n 0 (by omega)
  intro k
  induction k with
  | zero => intro i hi; rw [show i = n by omega]; exact fin
  | succ k ih => intro i hi; exact step i (by omega) (ih (i + 1) (by omega))
theorem goM_le (L : Ix → List UInt8) : ∀ i, (∀ k, k < i → (L [k]).length ≤ 400) → ∀ e ∈ (goN L i).2, e.M.length ≤ 401
  | 0, _, e, he => by simp [goN] at he
  | i + 1, h, e, he => by
    have ih := goM_le L i (fun k hk => h k (by omega))
    have hl := evM_len (L [i]) (h i (by omega))
    rw [goN, stpL] at he
    repeat' split at he
    · exact ih e he
    · rcases List.mem_append.1 he with he | he
      · exact ih e he
      · simp at he; rw [he]; exact hl
    · rcases List.mem_append.1 he with he | he
      · exact ih e he
      · simp at he; rw [he]; exact hl
theorem rawParses_law (t0 t1 t2 t3 t4 t5 t6 t7 t8 t9 t10 t11 t12 t13 t14 t15 t16 t17 : List UInt8) (P : Ix → Int) (n : Nat) (L : Ix → List UInt8) (hP : pwOK P = true) : RunsTo Tryd.prog 8 [.code (bodyOf Tryd.f8)] (envOf [vL 100 1 n] Tryd.f8.ntmps) (Sx.look ((rpS t0 t1 t2 t3 t4 t5 t6 t7 t8 t9 t10 t11 t12 t13 t14 t15 t16 t17 ++ (pwF P ++ [⟨100, false, none, 1, .ta n (.vs L)⟩])) ++ ([]))) 110 (YES) (Sx.look []) 1400 := by
  by_cases hn : 20 < n
  · exact rp0 t0 t1 t2 t3 t4 t5 t6 t7 t8 t9 t10 t11 t12 t13 t14 t15 t16 t17 P n L hP hn
  have hn : n ≤ 20 := by omega
  refine rp1 t0 t1 t2 t3 t4 t5 t6 t7 t8 t9 t10 t11 t12 t13 t14 t15 t16 t17 P n L hP hn ?_
  refine RunsTo.row0 (A := (rpS t0 t1 t2 t3 t4 t5 t6 t7 t8 t9 t10 t11 t12 t13 t14 t15 t16 t17 ++ (pwF P ++ [⟨100, false, none, 1, .ta n (.vs L)⟩]))) (B := [⟨124, true, some (0, gLM []), 1, .vi .i64 (gM [])⟩]) (u' := .tc (.vi .i64 (eK [])) (.tc (.vi .i64 (eN' [])) (.tc (.vs (eBs [])) (.tc (.vl 124 (eX []) 1 [] (eLM [])) .t0)))) ?_
  suffices q : ∀ (j i : Nat), i + j = n → (∀ k, k < i → (L [k]).length ≤ 400 ∧ (10 : UInt8) ∉ L [k]) → RunsTo Tryd.prog 8 (headOf Tryd.f8 0) (envAt Tryd.f8.ntmps ([(3, vS (txN L i)), (4, vN ((goN L i).1 : Nat)), (5, vL 123 4 ((goN L i).2).length), (24, vL 100 1 n), (25, vN n), (26, vN (i : Nat))])) (Sx.look ((rpS t0 t1 t2 t3 t4 t5 t6 t7 t8 t9 t10 t11 t12 t13 t14 t15 t16 t17 ++ (pwF P ++ [⟨100, false, none, 1, .ta n (.vs L)⟩])) ++ (waE 123 124 ((goN L i).2)))) 110 (YES) (Sx.look []) 1400 from q n 0 (by omega) (fun k hk => by omega)
  intro j
  induction j with
  | zero =>
    intro i hi hall
    obtain rfl : i = n := by omega
    have ha := all_tx L i (fun k hk => (hall k hk).1) hn (fun k hk => (hall k hk).2)
    have hle := go_le L i
    by_cases hb : (goN L i).1 = 0
    · rw [if_pos hb] at ha
      refine rp8 t0 t1 t2 t3 t4 t5 t6 t7 t8 t9 t10 t11 t12 t13 t14 t15 t16 t17 P i L (txN L i) (goN L i).1 (goN L i).2 i rfl hn (by omega) (by omega) hb ha ?_
      generalize hT : (goN L i).2 = T at hle
      refine down_loopR (n := T.length) (R := fun j => RunsTo Tryd.prog 8 (headOf Tryd.f8 2) (envAt Tryd.f8.ntmps ([(5, vL 123 4 T.length), (136, vL 125 4 T.length), (137, vN T.length), (138, vN (j : Nat))])) (Sx.look ((rpS t0 t1 t2 t3 t4 t5 t6 t7 t8 t9 t10 t11 t12 t13 t14 t15 t16 t17 ++ (pwF P ++ [⟨100, false, none, 1, .ta i (.vs L)⟩])) ++ (waE 123 124 T ++ evE 125 126 127 T))) 110 (YES) (Sx.look []) 1400) (fun j hj q => ?_) (rpa t0 t1 t2 t3 t4 t5 t6 t7 t8 t9 t10 t11 t12 t13 t14 t15 t16 t17 P i L T T.length rfl)
      refine rp9 t0 t1 t2 t3 t4 t5 t6 t7 t8 t9 t10 t11 t12 t13 t14 t15 t16 t17 P i L T j (T.getD j ev0) hj (by omega) rfl ?_ q
      have := goM_le L i (fun k hk => (hall k hk).1)
      rw [hT] at this
      have := this _ (getD_mem' (d := ev0) hj)
      omega
    · rw [if_neg hb] at ha
      exact rp7 t0 t1 t2 t3 t4 t5 t6 t7 t8 t9 t10 t11 t12 t13 t14 t15 t16 t17 P i L (txN L i) (goN L i).1 (goN L i).2 i [] rfl hn (by omega) (by omega) (by omega) ha rfl
  | succ j ih =>
    intro i hi hall
    have hle := go_le L i
    have htx := tx_le L i (fun k hk => (hall k hk).1)
    by_cases hl : 400 < (L [i]).length
    · exact rp2 t0 t1 t2 t3 t4 t5 t6 t7 t8 t9 t10 t11 t12 t13 t14 t15 t16 t17 P n L (txN L i) (goN L i).1 (goN L i).2 i (L [i]) hl (by omega) hn rfl
    refine rp3 t0 t1 t2 t3 t4 t5 t6 t7 t8 t9 t10 t11 t12 t13 t14 t15 t16 t17 P n L (txN L i) (goN L i).1 (goN L i).2 i (L [i]) (by omega) (by omega) hn rfl ?_
    suffices q : ∀ (d k : Nat), k + d = (L [i]).length → (∀ m, m < k → (L [i]).getD m 0 ≠ 10) → RunsTo Tryd.prog 8 (headOf Tryd.f8 1) (envAt Tryd.f8.ntmps ([(3, vS (txN L i)), (4, vN ((goN L i).1 : Nat)), (5, vL 123 4 (goN L i).2.length), (6, vN (i : Nat)), (7, vS (L [i])), (8, vN (k : Nat)), (24, vL 100 1 n), (25, vN n), (26, vN (i : Nat))])) (Sx.look ((rpS t0 t1 t2 t3 t4 t5 t6 t7 t8 t9 t10 t11 t12 t13 t14 t15 t16 t17 ++ (pwF P ++ [⟨100, false, none, 1, .ta n (.vs L)⟩])) ++ (waE 123 124 (goN L i).2))) 110 (YES) (Sx.look []) 1400 from q (L [i]).length 0 (by omega) (fun m hm => by omega)
    intro d
    induction d with
    | succ d ihd =>
      intro k hk h10
      by_cases hc : (L [i]).getD k 0 = 10
      · exact rp4 t0 t1 t2 t3 t4 t5 t6 t7 t8 t9 t10 t11 t12 t13 t14 t15 t16 t17 P n L (txN L i) (goN L i).1 (goN L i).2 i (L [i]) k (by omega) (by omega) hc
      · refine rp5 t0 t1 t2 t3 t4 t5 t6 t7 t8 t9 t10 t11 t12 t13 t14 t15 t16 t17 P n L (txN L i) (goN L i).1 (goN L i).2 i (L [i]) k (by omega) (by omega) hc (ihd (k + 1) (by omega) (fun m hm => ?_))
        by_cases e : m = k
        · rw [e]; exact hc
        · exact h10 m (by omega)
    | zero =>
      intro k hk h10
      have hno : (10 : UInt8) ∉ L [i] := by
        intro hm
        obtain ⟨m, hm1, hm2⟩ := List.getElem_of_mem hm
        exact h10 m (by omega) (by rw [List.getD_eq_getElem?_getD, List.getElem?_eq_getElem hm1, hm2]; rfl)
      have next := ih (i + 1) (by omega) (fun m hm => by
        by_cases e : m = i
        · rw [e]; exact ⟨by omega, hno⟩
        · exact hall m (by omega))
      have ht2 : (i = 0 ∧ (if i = 0 then txN L i else txN L i ++ [10]) = txN L i) ∨ (0 < i ∧ (if i = 0 then txN L i else txN L i ++ [10]) = txN L i ++ [10]) := by
        by_cases h0 : i = 0
        · exact .inl ⟨h0, if_pos h0⟩
        · exact .inr ⟨by omega, if_neg h0⟩
      have hg : goN L (i + 1) = stpL i (goN L i) (L [i]) := rfl
      have htx : txN L (i + 1) = (if i = 0 then txN L i else txN L i ++ [10]) ++ L [i] := rfl
      rw [htx] at next
      generalize (if i = 0 then txN L i else txN L i ++ [10]) = tt at ht2 next
      have hle2 : (goN L i).1 ≤ 100 ∧ (goN L i).2.length ≤ 100 ∧ (txN L i).length ≤ 10000 := by omega
      by_cases h1 : L [i] = []
      · have hs : skipB (L [i]) = true := by unfold skipB; rw [decide_eq_true h1]; rfl
        have e : goN L (i + 1) = goN L i := by rw [hg, stpL, if_pos (.inl hs)]
        rw [e] at next
        exact rp6e0 t0 t1 t2 t3 t4 t5 t6 t7 t8 t9 t10 t11 t12 t13 t14 t15 t16 t17 P n L (txN L i) (goN L i).1 (goN L i).2 i (L [i]) k tt _ h1 (by rw [h1]; decide) (by omega) (by omega) (by omega) hle2.2.2 hle2.1 hle2.2.1 ht2 rfl next
      by_cases h2 : (L [i]).getD 0 0 = 35
      · have hs : skipB (L [i]) = true := by unfold skipB; rw [decide_eq_true h2, Bool.or_true]
        have e : goN L (i + 1) = goN L i := by rw [hg, stpL, if_pos (.inl hs)]
        rw [e] at next
        exact rp6h0 t0 t1 t2 t3 t4 t5 t6 t7 t8 t9 t10 t11 t12 t13 t14 t15 t16 t17 P n L (txN L i) (goN L i).1 (goN L i).2 i (L [i]) k tt _ h1 h2 (hash_no h2) (by omega) (by omega) (by omega) hle2.2.2 hle2.1 hle2.2.1 ht2 rfl next
      have hs : ¬ skipB (L [i]) = true := by unfold skipB; rw [decide_eq_false h1, decide_eq_false h2]; decide
      by_cases hb : 0 < (goN L i).1
      · have e : goN L (i + 1) = goN L i := by rw [hg, stpL, if_pos (.inr hb)]
        rw [e] at next
        rcases evK_two (L [i]) with hK | hK
        · exact rp6b1 t0 t1 t2 t3 t4 t5 t6 t7 t8 t9 t10 t11 t12 t13 t14 t15 t16 t17 P n L (txN L i) (goN L i).1 (goN L i).2 i (L [i]) k tt _ h1 h2 hb hK (by omega) (by omega) (by omega) hle2.2.2 hle2.1 hle2.2.1 ht2 rfl next
        · exact rp6b0 t0 t1 t2 t3 t4 t5 t6 t7 t8 t9 t10 t11 t12 t13 t14 t15 t16 t17 P n L (txN L i) (goN L i).1 (goN L i).2 i (L [i]) k tt _ h1 h2 hb hK (by omega) (by omega) (by omega) hle2.2.2 hle2.1 hle2.2.1 ht2 rfl next
      · have hno2 : ¬ (skipB (L [i]) = true ∨ 0 < (goN L i).1) := by intro h; rcases h with h | h; exact hs h; exact hb h
        rcases evK_two (L [i]) with hK | hK
        · have e : goN L (i + 1) = ((goN L i).1, (goN L i).2 ++ [evR (L [i])]) := by rw [hg, stpL, if_neg hno2, if_pos hK]
          rw [e] at next
          exact rp6a1 t0 t1 t2 t3 t4 t5 t6 t7 t8 t9 t10 t11 t12 t13 t14 t15 t16 t17 P n L (txN L i) (goN L i).1 (goN L i).2 i (L [i]) k tt _ h1 h2 (by omega) hK (by omega) (by omega) (by omega) hle2.2.2 hle2.1 hle2.2.1 ht2 rfl next
        · have e : goN L (i + 1) = (i + 1, (goN L i).2 ++ [evR (L [i])]) := by rw [hg, stpL, if_neg hno2, if_neg (by rw [hK]; decide)]
          rw [e] at next
          exact rp6a0 t0 t1 t2 t3 t4 t5 t6 t7 t8 t9 t10 t11 t12 t13 t14 t15 t16 t17 P n L (txN L i) (goN L i).1 (goN L i).2 i (L [i]) k tt _ h1 h2 (by omega) hK (by omega) (by omega) (by omega) hle2.2.2 hle2.1 hle2.2.1 ht2 rfl next
theorem rawParses_lawT (t0 t1 t2 t3 t4 t5 t6 t7 t8 t9 t10 t11 t12 t13 t14 t15 t16 t17 : List UInt8) (n : Nat) (L : Ix → List UInt8) : RunsTo Tryd.prog 8 [.code (bodyOf Tryd.f8)] (envOf [vL 100 1 n] Tryd.f8.ntmps) (Sx.look ((rpS t0 t1 t2 t3 t4 t5 t6 t7 t8 t9 t10 t11 t12 t13 t14 t15 t16 t17 ++ (pwF powF ++ [⟨100, false, none, 1, .ta n (.vs L)⟩])) ++ ([]))) 110 (YES) (Sx.look []) 1400 :=
  rawParses_law t0 t1 t2 t3 t4 t5 t6 t7 t8 t9 t10 t11 t12 t13 t14 t15 t16 t17 powF n L powF_ok

end Go.Proofs.YtankmgnjkcgpaaaDoor

