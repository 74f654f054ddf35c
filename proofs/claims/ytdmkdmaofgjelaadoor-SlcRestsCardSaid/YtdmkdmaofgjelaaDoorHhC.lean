/- Special characters: two sides come to rest: the law. -/
import Derived.Test.YtdmkdmaofgjelaaDoorHgC
set_option linter.unusedSimpArgs false
set_option linter.unusedVariables false
set_option maxRecDepth 100000
namespace Go.Proofs.YtdmkdmaofgjelaaDoor
open Go.Sx
open SlcR (Stg Msg Inv fine ans told nil0)

section
variable (t2 t3 t4 t5 : List UInt8) (N N2 M : Nat) (L V L2 V2 K F Lv Vv : Ix → Int) (A : Ix → Bool)

theorem funs_run {hL hV oL oV : Ix → Int} {wt : Ix → Bool} {gL gV pL pV : Ix → Int} {wu : Ix → Bool} (h : J hL hV oL oV wt gL gV pL pV wu [] []) : ∀ (k f : Nat), f + k = 18 → RunsTo Tryd.prog 6 (headOf Tryd.f6 2) (envAt Tryd.f6.ntmps ([(7, vP 120), (8, vP 121), (118, vN (f))])) (Sx.look (XS t2 t3 t4 t5 N N2 M L V L2 V2 K F Lv Vv A ++ (twoE hL hV oL oV wt gL gV pL pV wu (([] : List Tri)) (([] : List Tri))))) 110 (YES) (Sx.look []) 900 := by
  intro k
  induction k with
  | zero =>
    intro f hf
    obtain rfl : f = 18 := by omega
    refine tEnd t2 t3 t4 t5 N N2 M L V L2 V2 K F Lv Vv A  hL hV oL oV wt gL gV pL pV wu  (cntF_no 19 0 fun f _ h2 => ?_) (cntF_no 19 0 fun f _ _ => h.wu f)
    rcases Nat.eq_zero_or_pos f with h0 | h0
    · rw [h0]; exact h.w0
    · exact (SlcR.inv_rest (h.inv f h0 (by omega))).2
  | succ k ih =>
    intro f hf
    have hI := (SlcR.inv_rest (h.inv (f + 1) (by omega) (by omega))).1
    have e1 : hL [f + 1] = gL [f + 1] := congrArg Prod.fst hI
    have e2 : hV [f + 1] = gV [f + 1] := congrArg Prod.snd hI
    exact tFun t2 t3 t4 t5 N N2 M L V L2 V2 K F Lv Vv A  hL hV oL oV wt gL gV pL pV wu  f (by omega) e1 e2 (ih (f + 1) (by omega))

theorem turns_run (hM : M ≤ 60) {oL oV pL pV : Ix → Int} (ho : ∀ p, 0 ≤ oL [p]) (hp : ∀ p, 0 ≤ pL [p]) : ∀ (n : Nat) (hL hV : Ix → Int) (wt : Ix → Bool) (gL gV : Ix → Int) (wu : Ix → Bool) (T B : List Tri) (t : Int), phi T + phi B ≤ n → n ≤ 300 → 0 ≤ t → t + n ≤ 12 * M + 12 →
    J hL hV oL oV wt gL gV pL pV wu T B → RunsTo Tryd.prog 6 (headOf Tryd.f6 1) (envAt Tryd.f6.ntmps ([(2, .v (.vl 102 (fun _ => 0) 5 [] (fun _ => M))), (7, vP 120), (8, vP 121), (9, vL 122 4 (T).length), (10, vL 123 4 (B).length), (15, vN (t))])) (Sx.look (XS t2 t3 t4 t5 N N2 M L V L2 V2 K F Lv Vv A ++ (twoE hL hV oL oV wt gL gV pL pV wu T B))) 110 (YES) (Sx.look []) 900 := by
  intro n
  induction n with
  | zero =>
    intro hL hV wt gL gV wu T B t hn hx h0 ht h
    have l1 := phi_len T
    have l2 := phi_len B
    obtain rfl : T = [] := List.length_eq_zero_iff.1 (by omega)
    obtain rfl : B = [] := List.length_eq_zero_iff.1 (by omega)
    exact tCalm t2 t3 t4 t5 N N2 M L V L2 V2 K F Lv Vv A  hL hV oL oV wt gL gV pL pV wu  t (funs_run t2 t3 t4 t5 N N2 M L V L2 V2 K F Lv Vv A  h 18 0 rfl)
  | succ n ih =>
    intro hL hV wt gL gV wu T B t hn hx h0 ht h
    have o3 : ∀ f : Nat, 1 ≤ f → f ≤ 18 → oL [f] ≠ 3 := fun f h1 h2 => (h.inv f h1 h2).oc.2
    have p3 : ∀ f : Nat, 1 ≤ f → f ≤ 18 → pL [f] ≠ 3 := fun f h1 h2 => (h.inv f h1 h2).os.2
    have l1 := phi_len T
    have l2 := phi_len B
    have lT0 : T.length ≤ 10000 := by omega
    have lB0 : B.length ≤ 10000 := by omega
    have hb : (0 ≤ t ∧ t ≤ 12 * (M : Int) + 12) := by omega
    cases T with
    | nil =>
      cases B with
      | nil => exact tCalm t2 t3 t4 t5 N N2 M L V L2 V2 K F Lv Vv A  hL hV oL oV wt gL gV pL pV wu  t (funs_run t2 t3 t4 t5 N N2 M L V L2 V2 K F Lv Vv A  h 18 0 rfl)
      | cons b B =>
        have j1 := j_hearC h
        rw [phi_cons] at hn
        have w := SlcR.wt_pos (msgOf b)
        cases h2 : tol b hL hV with
        | false =>
          rw [if_neg (by rw [h2]; simp)] at j1
          exact tB0 t2 t3 t4 t5 N N2 M L V L2 V2 K F Lv Vv A  hL hV oL oV wt gL gV pL pV wu  b B t ho hp hM hb (by simp only [List.length_cons] at lB0; omega) h2 (ih _ _ _ _ _ _ _ _ (t + 1) (by omega) (by omega) (by omega) (by omega) j1)
        | true =>
          rw [if_pos h2] at j1
          have w2 := tell_wt (h.rB b (by simp)) h2 h.oo o3
          refine tB1 t2 t3 t4 t5 N N2 M L V L2 V2 K F Lv Vv A  hL hV oL oV wt gL gV pL pV wu  b B t ho hp hM hb (by simp only [List.length_cons] at lB0; omega) h2 (ih _ _ _ _ _ _ _ _ (t + 1) ?_ (by omega) (by omega) (by omega) j1)
          simp only [List.nil_append, phi_cons, phi] at hn ⊢
          simp only [List.map_nil, List.sum_nil, List.map_cons, List.sum_cons] at hn ⊢
          omega
    | cons m T =>
      have j1 := j_hearS h
      rw [phi_cons] at hn
      have w := SlcR.wt_pos (msgOf m)
      have lT : T.length ≤ 10000 := by simp only [List.length_cons] at lT0; omega
      cases h1 : tol m gL gV with
      | false =>
        rw [if_neg (by rw [h1]; simp)] at j1
        cases B with
        | nil => exact tT0 t2 t3 t4 t5 N N2 M L V L2 V2 K F Lv Vv A  hL hV oL oV wt gL gV pL pV wu  m T t ho hp hM hb lT h1 (ih _ _ _ _ _ _ _ _ (t + 1) (by omega) (by omega) (by omega) (by omega) j1)
        | cons b B =>
          have j2 := j_hearC j1
          rw [phi_cons] at hn
          have lB : B.length ≤ 10000 := by simp only [List.length_cons] at lB0; omega
          cases h2 : tol b hL hV with
          | false =>
            rw [if_neg (by rw [h2]; simp)] at j2
            exact tT0B0 t2 t3 t4 t5 N N2 M L V L2 V2 K F Lv Vv A  hL hV oL oV wt gL gV pL pV wu  m b T B t ho hp hM hb lT lB h1 h2 (ih _ _ _ _ _ _ _ _ (t + 1) (by omega) (by omega) (by omega) (by omega) j2)
          | true =>
            rw [if_pos h2] at j2
            have w2 := tell_wt (h.rB b (by simp)) h2 h.oo o3
            exact tT0B1 t2 t3 t4 t5 N N2 M L V L2 V2 K F Lv Vv A  hL hV oL oV wt gL gV pL pV wu  m b T B t ho hp hM hb lT lB h1 h2 (ih _ _ _ _ _ _ _ _ (t + 1) (by rw [phi_app]; omega) (by omega) (by omega) (by omega) j2)
      | true =>
        rw [if_pos h1] at j1
        have w1 := tell_wt (h.rT m (by simp)) h1 h.pp p3
        cases B with
        | nil =>
          have j2 := j_hearC (m := tellS m pL pV) (B := []) j1
          have e0 : phi ([] : List Tri) = 0 := rfl
          have w3 := SlcR.wt_pos (msgOf (tellS m pL pV))
          cases h2 : tol (tellS m pL pV) hL hV with
          | false =>
            rw [if_neg (by rw [h2]; simp)] at j2
            exact tT1c0 t2 t3 t4 t5 N N2 M L V L2 V2 K F Lv Vv A  hL hV oL oV wt gL gV pL pV wu  m T t ho hp hM hb lT h1 h2 (ih _ _ _ _ _ _ _ _ (t + 1) (by omega) (by omega) (by omega) (by omega) j2)
          | true =>
            rw [if_pos h2] at j2
            have w2 := tell_wt (rgt_tell (h.rT m (by simp)) h.pp) h2 h.oo o3
            exact tT1c1 t2 t3 t4 t5 N N2 M L V L2 V2 K F Lv Vv A  hL hV oL oV wt gL gV pL pV wu  m T t ho hp hM hb lT h1 h2 (ih _ _ _ _ _ _ _ _ (t + 1) (by rw [phi_app]; omega) (by omega) (by omega) (by omega) j2)
        | cons b B =>
          have j2 := j_hearC (m := b) (B := B ++ [tellS m pL pV]) j1
          rw [phi_cons] at hn
          have w3 := SlcR.wt_pos (msgOf b)
          have lB : B.length ≤ 10000 := by simp only [List.length_cons] at lB0; omega
          cases h2 : tol b hL hV with
          | false =>
            rw [if_neg (by rw [h2]; simp)] at j2
            exact tT1B0 t2 t3 t4 t5 N N2 M L V L2 V2 K F Lv Vv A  hL hV oL oV wt gL gV pL pV wu  m b T B t ho hp hM hb lT lB h1 h2 (ih _ _ _ _ _ _ _ _ (t + 1) (by rw [phi_app]; omega) (by omega) (by omega) (by omega) j2)
          | true =>
            rw [if_pos h2] at j2
            have w2 := tell_wt (h.rB b (by simp)) h2 h.oo o3
            exact tT1B1 t2 t3 t4 t5 N N2 M L V L2 V2 K F Lv Vv A  hL hV oL oV wt gL gV pL pV wu  m b T B t ho hp hM hb lT lB h1 h2 (ih _ _ _ _ _ _ _ _ (t + 1) (by rw [phi_app, phi_app]; omega) (by omega) (by omega) (by omega) j2)

theorem acts_run (hM : M ≤ 60) {oL oV pL pV : Ix → Int} (ho : ∀ p, 0 ≤ oL [p]) (hp : ∀ p, 0 ≤ pL [p]) : ∀ (k i : Nat) (hL hV : Ix → Int) (wt : Ix → Bool) (gL gV : Ix → Int) (wu : Ix → Bool) (T B : List Tri), i + k = M → phi T + phi B ≤ 5 * i →
    J hL hV oL oV wt gL gV pL pV wu T B → RunsTo Tryd.prog 6 (headOf Tryd.f6 0) (envAt Tryd.f6.ntmps ([(2, .v (.vl 102 (fun _ => 0) 5 [] (fun _ => M))), (7, vP 120), (8, vP 121), (9, vL 122 4 (T).length), (10, vL 123 4 (B).length), (44, .v (.vl 102 (fun _ => 0) 5 [] (fun _ => M))), (45, vN M), (46, vN i)])) (Sx.look (XS t2 t3 t4 t5 N N2 M L V L2 V2 K F Lv Vv A ++ (twoE hL hV oL oV wt gL gV pL pV wu T B))) 110 (YES) (Sx.look []) 900 := by
  intro k
  induction k with
  | zero =>
    intro i hL hV wt gL gV wu T B hi hn h
    exact rExit t2 t3 t4 t5 N N2 M L V L2 V2 K F Lv Vv A  hL hV oL oV wt gL gV pL pV wu  T B i (by omega) (turns_run t2 t3 t4 t5 N N2 M L V L2 V2 K F Lv Vv A  hM ho hp (5 * i) _ _ _ _ _ _ _ _ 0 (by omega) (by omega) (by omega) (by omega) h)
  | succ k ih =>
    intro i hL hV wt gL gV wu T B hi hn h
    have l1 := phi_len T
    have l2 := phi_len B
    have lT : T.length ≤ 10000 := by omega
    have lB : B.length ≤ 10000 := by omega
    by_cases hk : K [i] = 1
    · cases hc : askC (F [i]) (Lv [i]) (Vv [i]) hL hV wt with
      | false => exact rAskNo t2 t3 t4 t5 N N2 M L V L2 V2 K F Lv Vv A  hL hV oL oV wt gL gV pL pV wu  T B i (by omega) hM ho hp lT lB hk hc (ih (i + 1) _ _ _ _ _ _ _ _ (by omega) (by omega) h)
      | true =>
        have j1 := j_ask h hc
        have w := SlcR.wt_le (msgOf (F [i], Lv [i], Vv [i], false))
        by_cases h3 : Lv [i] = 3
        · rw [if_pos h3, if_pos h3] at j1
          exact rAskD t2 t3 t4 t5 N N2 M L V L2 V2 K F Lv Vv A  hL hV oL oV wt gL gV pL pV wu  T B i (by omega) hM ho hp lT lB hk h3 hc (ih (i + 1) _ _ _ _ _ _ _ _ (by omega) (by rw [phi_app]; omega) j1)
        · rw [if_neg h3, if_neg h3] at j1
          exact rAskY t2 t3 t4 t5 N N2 M L V L2 V2 K F Lv Vv A  hL hV oL oV wt gL gV pL pV wu  T B i (by omega) hM ho hp lT lB hk h3 hc (ih (i + 1) _ _ _ _ _ _ _ _ (by omega) (by rw [phi_app]; omega) j1)
    · cases hA : A [i] with
      | true =>
        cases T with
        | nil => exact rNils t2 t3 t4 t5 N N2 M L V L2 V2 K F Lv Vv A  hL hV oL oV wt gL gV pL pV wu  B i (by omega) hM ho hp lB hk hA (ih (i + 1) _ _ _ _ _ _ _ _ (by omega) (by omega) h)
        | cons m T =>
          have j1 := j_hearS h
          rw [phi_cons] at hn
          have lT' : T.length ≤ 10000 := by simp only [List.length_cons] at lT; omega
          cases h1 : tol m gL gV with
          | false =>
            rw [if_neg (by rw [h1]; simp)] at j1
            exact rHears0 t2 t3 t4 t5 N N2 M L V L2 V2 K F Lv Vv A  hL hV oL oV wt gL gV pL pV wu  m T B i (by omega) hM ho hp lT' lB hk hA h1 (ih (i + 1) _ _ _ _ _ _ _ _ (by omega) (by omega) j1)
          | true =>
            rw [if_pos h1] at j1
            have w1 := tell_wt (h.rT m (by simp)) h1 h.pp (fun f g1 g2 => (h.inv f g1 g2).os.2)
            exact rHears1 t2 t3 t4 t5 N N2 M L V L2 V2 K F Lv Vv A  hL hV oL oV wt gL gV pL pV wu  m T B i (by omega) hM ho hp lT' lB hk hA h1 (ih (i + 1) _ _ _ _ _ _ _ _ (by omega) (by rw [phi_app]; omega) j1)
      | false =>
        cases B with
        | nil => exact rNilc t2 t3 t4 t5 N N2 M L V L2 V2 K F Lv Vv A  hL hV oL oV wt gL gV pL pV wu  T i (by omega) hM ho hp lT hk hA (ih (i + 1) _ _ _ _ _ _ _ _ (by omega) (by omega) h)
        | cons m B =>
          have j1 := j_hearC h
          rw [phi_cons] at hn
          have lB' : B.length ≤ 10000 := by simp only [List.length_cons] at lB; omega
          cases h1 : tol m hL hV with
          | false =>
            rw [if_neg (by rw [h1]; simp)] at j1
            exact rHearc0 t2 t3 t4 t5 N N2 M L V L2 V2 K F Lv Vv A  hL hV oL oV wt gL gV pL pV wu  m T B i (by omega) hM ho hp lT lB' hk hA h1 (ih (i + 1) _ _ _ _ _ _ _ _ (by omega) (by omega) j1)
          | true =>
            rw [if_pos h1] at j1
            have w1 := tell_wt (h.rB m (by simp)) h1 h.oo (fun f g1 g2 => (h.inv f g1 g2).oc.2)
            exact rHearc1 t2 t3 t4 t5 N N2 M L V L2 V2 K F Lv Vv A  hL hV oL oV wt gL gV pL pV wu  m T B i (by omega) hM ho hp lT lB' hk hA h1 (ih (i + 1) _ _ _ _ _ _ _ _ (by omega) (by rw [phi_app]; omega) j1)

theorem hlG_ok (N : Nat) (L V : Ix → Int) (p : Nat) : fineB (hlG N L V L [p]) (hlG N L V V [p]) = true ∧ hlG N L V L [p] ≠ 3 := by
  simp only [hlG]
  split
  · rename_i h
    have h4 := h.2.2.2
    simp only [okS, Bool.and_eq_true, Bool.not_eq_true', decide_eq_false_iff_not] at h4
    exact h4
  · exact ⟨rfl, by omega⟩
theorem j_start : J zI zI (hlG N L V L) (hlG N L V V) zB zI zI (hlG N2 L2 V2 L2) (hlG N2 L2 V2 V2) zB [] [] :=
  ⟨fun f _ _ => SlcR.inv0 ⟨fineB_fine (hlG_ok N L V f).1, (hlG_ok N L V f).2⟩ ⟨fineB_fine (hlG_ok N2 L2 V2 f).1, (hlG_ok N2 L2 V2 f).2⟩, fun m hm => (by cases hm), fun m hm => (by cases hm), rfl, fun _ => rfl, fun f _ _ => (hlG_ok N L V f).1, fun f _ _ => (hlG_ok N2 L2 V2 f).1⟩

theorem rests_law : RunsTo Tryd.prog 6 [.code (bodyOf Tryd.f6)] (envOf [setV 100 N, setV 101 N2, .v (.vl 102 (fun _ => 0) 5 [] (fun _ => M))] Tryd.f6.ntmps) (Sx.look (XS t2 t3 t4 t5 N N2 M L V L2 V2 K F Lv Vv A ++ ([]))) 110 (YES) (Sx.look []) 900 := by
  by_cases h1 : N ≤ 40
  · by_cases h2 : N2 ≤ 40
    · by_cases h3 : M ≤ 60
      · exact rStart t2 t3 t4 t5 N N2 M L V L2 V2 K F Lv Vv A  h1 h2 h3 (acts_run t2 t3 t4 t5 N N2 M L V L2 V2 K F Lv Vv A  h3 (fun p => (fineB_of (hlG_ok N L V p).1).1) (fun p => (fineB_of (hlG_ok N2 L2 V2 p).1).1) M 0 _ _ _ _ _ _ _ _ (by omega) (by simp [phi]) (j_start N N2 L V L2 V2))
      · exact rlM t2 t3 t4 t5 N N2 M L V L2 V2 K F Lv Vv A  h1 h2 (by omega)
    · exact rlN2 t2 t3 t4 t5 N N2 M L V L2 V2 K F Lv Vv A  h1 (by omega)
  · exact rlN t2 t3 t4 t5 N N2 M L V L2 V2 K F Lv Vv A  (by omega)
end
end Go.Proofs.YtdmkdmaofgjelaaDoor
