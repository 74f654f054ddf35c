/- Raw: the law RawJoins. -/
import Derived.Test.YtankmgnjkcgpaaaDoorQgC
import Derived.Test.YtankmgnjkcgpaaaDoorQeC
set_option linter.unusedSimpArgs false
set_option linter.unusedVariables false
set_option maxRecDepth 100000
namespace Go.Proofs.YtankmgnjkcgpaaaDoor
open Go.Sx

open RawR
def cutOf (fn : Func) (k : Nat) : List Item := match dropC k (bodyOf fn) with | .seq a b => [.code a, .code b] | c => [.code c]
def jwE (l : Nat) (n : Nat) (Z : List RawR.Ev) : List Ent := [⟨l, true, none, 4, .ta n (.tc (.vi .i64 (eK Z)) (.tc (.vi .i64 (eN' Z)) (.tc (.vl 132 (fun is => 0 + is.headD 0) 1 [] (eLB Z)) (.tc (.vl 133 (fun is => 0 + is.headD 0) 1 [] (eLM Z)) .t0))))⟩]
def sumE (p : RawR.Ev → Bool) (f : RawR.Ev → Int) : List RawR.Ev → Int
  | [] => 0
  | e :: r => (if p e = true then f e else 0) + sumE p f r
def sfO (off : Nat) (T : List RawR.Ev) : SF := ⟨eK T, eN' T, fun is => off + is.headD 0, eLB T, fun is => off + is.headD 0, eLM T⟩
def sfX (T : List RawR.Ev) : SF := ⟨eK T, eN' T, eX T, eLB T, eX T, eLM T⟩
def rjS (t0 t1 t2 t3 t4 t5 t6 t7 t8 t9 t10 t11 t12 t13 t14 t15 t16 t17 : List UInt8) : List Ent := sentEnts 24 194 [(21, t0), (20, t1), (0, t2), (3, t3), (4, t4), (2, t5), (1, t6), (5, t7), (6, t8), (7, t9), (8, t10), (9, t11), (10, t12), (11, t13), (12, t14), (13, t15), (14, t16), (15, t17)]
theorem at_jj {T : List RawR.Ev} {j : Nat} (hj : j < T.length) : T.length - 1 - (T.length - 1 - j) = j := by omega
theorem sumE_app (p : RawR.Ev → Bool) (f : RawR.Ev → Int) : ∀ A B : List RawR.Ev, sumE p f (A ++ B) = sumE p f A + sumE p f B
  | [], B => by simp [sumE]
  | e :: A, B => by rw [List.cons_append, sumE, sumE, sumE_app p f A B]; omega
theorem sumB_E {R : Nat → Bool} {V : Nat → Int} (p : RawR.Ev → Bool) (f : RawR.Ev → Int) (T : List RawR.Ev) (hR : ∀ i, i < T.length → R i = p (T.getD i ev0)) (hV : ∀ i, i < T.length → V i = f (T.getD i ev0)) : ∀ n, n ≤ T.length → sumB R V n = sumE p f (T.take n)
  | 0, _ => by simp [sumB, sumE]
  | n + 1, h => by
    rw [sumB, sumB_E p f T hR hV n (by omega), List.take_add_one, List.getElem?_eq_getElem (by omega), sumE_app, hR n (by omega), hV n (by omega)]
    simp [sumE, List.getD_eq_getElem?_getD, List.getElem?_eq_getElem (show n < T.length by omega)]
theorem tot_of {K N : Ix → Int} {LB LM MM : Ix → Nat} {FM : Ix → Int} {T : List RawR.Ev} (hK : ∀ i, i < T.length → K [i] = (T.getD i ev0).K) (hN : ∀ i, i < T.length → N [i] = (T.getD i ev0).N) (hL : ∀ i, i < T.length → LB [i] = (T.getD i ev0).B.length) (hR : ∀ i, i < T.length → rvF K N LB LM MM FM i = rightR (T.getD i ev0)) :
    sumB (rvF K N LB LM MM FM) (fun i => (LB [i] : Int)) T.length = sumE rightR (fun e => (e.B.length : Int)) T ∧ sumB (rvG K N LB LM MM FM 2) (fun i => N [i]) T.length = sumE (fun e => rightR e && decide (e.K = 2)) (fun e => e.N) T ∧ sumB (rvG K N LB LM MM FM 3) (fun i => N [i]) T.length = sumE (fun e => rightR e && decide (e.K = 3)) (fun e => e.N) T := by
  have ht := List.take_of_length_le (Nat.le_refl T.length)
  refine ⟨?_, ?_, ?_⟩
  · rw [sumB_E rightR (fun e => (e.B.length : Int)) T hR (fun i hi => by simp only [hL i hi]) T.length (Nat.le_refl _), ht]
  · rw [sumB_E (fun e => rightR e && decide (e.K = 2)) (fun e => e.N) T (fun i hi => by unfold rvG; rw [hR i hi, hK i hi]) hN T.length (Nat.le_refl _), ht]
  · rw [sumB_E (fun e => rightR e && decide (e.K = 3)) (fun e => e.N) T (fun i hi => by unfold rvG; rw [hR i hi, hK i hi]) hN T.length (Nat.le_refl _), ht]
theorem sumE_le {p : RawR.Ev → Bool} {f : RawR.Ev → Int} (h : ∀ e, p e = true → 0 ≤ f e ∧ f e ≤ 10000) : ∀ T : List RawR.Ev, 0 ≤ sumE p f T ∧ sumE p f T ≤ 10000 * (T.length : Int)
  | [] => by simp [sumE]
  | e :: r => by
    have ih := sumE_le h r
    rw [sumE, List.length_cons]
    split
    · rename_i hr; have := h e hr; push_cast; omega
    · push_cast; omega
theorem right_rng {e : RawR.Ev} (h : rightR e = true) : e.B.length ≤ 1024 ∧ 0 ≤ e.N ∧ e.N ≤ 9999 := rightV_rng (by rw [rightV_ev]; exact h)
theorem right_mem {e : RawR.Ev} {F : Ix → Int} (hF : ∀ j, j < e.M.length → F [j] = e.M.getD j 0) : rightV e.K e.N e.B.length e.M.length F = rightR e := by
  rw [← rightV_ev e]
  have : intsF F e.M.length = intsF (fun is => e.M.getD (is.headD 0) 0) e.M.length := by
    unfold intsF
    apply List.map_congr_left
    intro j hj
    exact hF j (List.mem_range.1 hj)
  unfold rightV
  rw [this]
theorem tot_A (A B : List RawR.Ev) : sumB (rvF (eK (A)) (eN' (A)) (eLB (A)) (eLM (A)) (fun is => 0 + is.headD 0) (zM (A ++ B))) (fun i => (eLB (A) [i] : Int)) (A).length = sumE (rightR) (fun e => (e.B.length : Int)) (A) ∧ sumB (rvG (eK (A)) (eN' (A)) (eLB (A)) (eLM (A)) (fun is => 0 + is.headD 0) (zM (A ++ B)) 2) (fun i => eN' (A) [i]) (A).length = sumE (fun e => rightR e && decide (e.K = 2)) (fun e => e.N) (A) ∧ sumB (rvG (eK (A)) (eN' (A)) (eLB (A)) (eLM (A)) (fun is => 0 + is.headD 0) (zM (A ++ B)) 3) (fun i => eN' (A) [i]) (A).length = sumE (fun e => rightR e && decide (e.K = 3)) (fun e => e.N) (A) := tot_of (fun _ _ => rfl) (fun _ _ => rfl) (fun _ _ => rfl) (fun i hi => by
  refine right_mem (e := A.getD i ev0) (fun j hj => ?_)
  simp only [zM, List.headD_cons, List.tail_cons, Nat.zero_add]
  rw [app_l hi])
theorem tot_B (A B : List RawR.Ev) : sumB (rvF (eK (B)) (eN' (B)) (eLB (B)) (eLM (B)) (fun is => A.length + is.headD 0) (zM (A ++ B))) (fun i => (eLB (B) [i] : Int)) (B).length = sumE (rightR) (fun e => (e.B.length : Int)) (B) ∧ sumB (rvG (eK (B)) (eN' (B)) (eLB (B)) (eLM (B)) (fun is => A.length + is.headD 0) (zM (A ++ B)) 2) (fun i => eN' (B) [i]) (B).length = sumE (fun e => rightR e && decide (e.K = 2)) (fun e => e.N) (B) ∧ sumB (rvG (eK (B)) (eN' (B)) (eLB (B)) (eLM (B)) (fun is => A.length + is.headD 0) (zM (A ++ B)) 3) (fun i => eN' (B) [i]) (B).length = sumE (fun e => rightR e && decide (e.K = 3)) (fun e => e.N) (B) := tot_of (fun _ _ => rfl) (fun _ _ => rfl) (fun _ _ => rfl) (fun i hi => by
  refine right_mem (e := B.getD i ev0) (fun j hj => ?_)
  simp only [zM, List.headD_cons, List.tail_cons]
  rw [app_r])
theorem tot_Z (Z : List RawR.Ev) : sumB (rvF (eK (Z)) (eN' (Z)) (eLB (Z)) (eLM (Z)) (eX Z) (gM Z)) (fun i => (eLB (Z) [i] : Int)) (Z).length = sumE (rightR) (fun e => (e.B.length : Int)) (Z) ∧ sumB (rvG (eK (Z)) (eN' (Z)) (eLB (Z)) (eLM (Z)) (eX Z) (gM Z) 2) (fun i => eN' (Z) [i]) (Z).length = sumE (fun e => rightR e && decide (e.K = 2)) (fun e => e.N) (Z) ∧ sumB (rvG (eK (Z)) (eN' (Z)) (eLB (Z)) (eLM (Z)) (eX Z) (gM Z) 3) (fun i => eN' (Z) [i]) (Z).length = sumE (fun e => rightR e && decide (e.K = 3)) (fun e => e.N) (Z) := tot_of (fun _ _ => rfl) (fun _ _ => rfl) (fun _ _ => rfl) (fun i hi => by
  refine right_mem (e := Z.getD i ev0) (fun j hj => ?_)
  simp only [gM, eX, List.headD_cons, List.tail_cons]
  rw [at_jj hi])
theorem evs_ok {T : List RawR.Ev} {m : Nat} (h : ∀ e ∈ T, e.B.length ≤ m ∧ e.M.length ≤ m) (i : Nat) (hi : i < T.length) : (T.getD i ev0).B.length ≤ m ∧ (T.getD i ev0).M.length ≤ m := h _ (getD_mem' hi)
theorem okA {A B : List RawR.Ev} (h : ∀ e ∈ A, e.B.length ≤ 100000 ∧ e.M.length ≤ 100000) : okS (sfO 0 A) A.length (A ++ B).length (A ++ B).length (zLB (A ++ B)) (zLM (A ++ B)) = true := List.all_eq_true.2 fun i hi => by
  have hi := List.mem_range.1 hi
  have := evs_ok h i hi
  refine decide_eq_true ?_
  simp only [sfO, eLB, eLM, zLB, zLM, List.headD_cons, Nat.zero_add, List.length_append]
  rw [app_l hi]
  exact ⟨by omega, Nat.le_refl _, by omega, Nat.le_refl _, this.1, this.2⟩
theorem okB {A B : List RawR.Ev} (h : ∀ e ∈ B, e.B.length ≤ 100000 ∧ e.M.length ≤ 100000) : okS (sfO A.length B) B.length (A ++ B).length (A ++ B).length (zLB (A ++ B)) (zLM (A ++ B)) = true := List.all_eq_true.2 fun i hi => by
  have hi := List.mem_range.1 hi
  have := evs_ok h i hi
  refine decide_eq_true ?_
  simp only [sfO, eLB, eLM, zLB, zLM, List.headD_cons, List.length_append]
  rw [app_r]
  exact ⟨by omega, Nat.le_refl _, by omega, Nat.le_refl _, this.1, this.2⟩
theorem okZ {Z : List RawR.Ev} (h : ∀ e ∈ Z, e.B.length ≤ 100000 ∧ e.M.length ≤ 100000) : okS (sfX Z) Z.length Z.length Z.length (gLB Z) (gLM Z) = true := List.all_eq_true.2 fun i hi => by
  have hi := List.mem_range.1 hi
  have := evs_ok h i hi
  refine decide_eq_true ?_
  simp only [sfX, eLB, eLM, gLB, gLM, eX, List.headD_cons]
  rw [at_jj hi]
  exact ⟨by omega, Nat.le_refl _, by omega, Nat.le_refl _, this.1, this.2⟩
def sumsJ1 : List (FuncId × Summ) := [(28, avP.summ 48), (40, alP.summ 48), (20, xS)]
theorem baseJ1 : Base0 Tryd.prog sumsJ1 := (((baseO.cons Tryd.func20 (by kernel_rfl) xnum_ok).cons Tryd.func40 (by kernel_rfl) (PC.summ_ok alP_pc gtopG)).cons Tryd.func28 (by kernel_rfl) (PC.summ_ok avP_pc gtopG))
def sumsJ3 : List (FuncId × Summ) := [(33, smPm.summ 48), (37, suP.summ 48)]
theorem baseJ3 : Base0 Tryd.prog sumsJ3 := ((baseO.cons Tryd.func37 (by kernel_rfl) (PC.summ_ok suP_pc gtopG)).cons Tryd.func33 (by kernel_rfl) (PC.summ_ok smPm_pc gtopG))
theorem rj0_p0 (t0 t1 t2 t3 t4 t5 t6 t7 t8 t9 t10 t11 t12 t13 t14 t15 t16 t17 : List UInt8) (P : Ix → Int) (a b : List UInt8) :
    isEnd (evTill Tryd.prog sumsJ1 700 (99) 900 9 [.code (bodyOf Tryd.f9)] (envOf [vS a, vS b] Tryd.f9.ntmps) ((rjS t0 t1 t2 t3 t4 t5 t6 t7 t8 t9 t10 t11 t12 t13 t14 t15 t16 t17 ++ pwF P) ++ ([])) ⟨[.s true, .f, .s false, .s true], 110⟩) (endP ([]) (YES) ([]) 4000) =
    (OkL [(pwOK P, true), (decide ((↑a.length : Int) > (2000 : Int)), false), (decide ((↑b.length : Int) > (2000 : Int)), true)] ∧ true = true ∧ True) := by kernel_rfl
theorem rj0_p1 (t0 t1 t2 t3 t4 t5 t6 t7 t8 t9 t10 t11 t12 t13 t14 t15 t16 t17 : List UInt8) (P : Ix → Int) (a b : List UInt8) :
    isEnd (evTill Tryd.prog sumsJ1 700 (99) 900 9 [.code (bodyOf Tryd.f9)] (envOf [vS a, vS b] Tryd.f9.ntmps) ((rjS t0 t1 t2 t3 t4 t5 t6 t7 t8 t9 t10 t11 t12 t13 t14 t15 t16 t17 ++ pwF P) ++ ([])) ⟨[.s true, .f, .s true], 110⟩) (endP ([]) (YES) ([]) 4000) =
    (OkL [(pwOK P, true), (decide ((↑a.length : Int) > (2000 : Int)), true)] ∧ true = true ∧ True) := by kernel_rfl

set_option maxHeartbeats 4000000 in
theorem rj0 (t0 t1 t2 t3 t4 t5 t6 t7 t8 t9 t10 t11 t12 t13 t14 t15 t16 t17 : List UInt8) (P : Ix → Int) (a b : List UInt8) (hP : pwOK P = true) (h : 2000 < a.length ∨ 2000 < b.length)  :
    RunsTo Tryd.prog 9 [.code (bodyOf Tryd.f9)] (envOf [vS a, vS b] Tryd.f9.ntmps) (Sx.look ((rjS t0 t1 t2 t3 t4 t5 t6 t7 t8 t9 t10 t11 t12 t13 t14 t15 t16 t17 ++ pwF P) ++ ([]))) 110 (YES) (Sx.look ([])) 4000 := by
  refine bcase (c := (decide ((↑a.length : Int) > (2000 : Int)))) (fun gg0 => ?_) (fun gg0 => ?_)
  · refine runs_last baseJ1 (Sx.Ends.of (rj0_p0 t0 t1 t2 t3 t4 t5 t6 t7 t8 t9 t10 t11 t12 t13 t14 t15 t16 t17 P a b) ⟨?oo, ?rr⟩) (by kernel_rfl) rfl (gtL (by decide)) (by decide)
    case oo =>
      refine (okc ?_ (okc gg0 (okc ?_ okn)))
      all_goals first | exact hP | rfl | omega | (simp only [SS]; omega) | (simp only [dT, dF] at *; omega)
    case rr =>
      try simp (disch := omega) only [SS]
      repeat' apply And.intro
      all_goals first | exact True.intro | with_reducible rfl | omega | (intros; first | exact True.intro | with_reducible rfl | omega | (simp_all; done)) | (simp_all; done) | rfl
  · refine runs_last baseJ1 (Sx.Ends.of (rj0_p1 t0 t1 t2 t3 t4 t5 t6 t7 t8 t9 t10 t11 t12 t13 t14 t15 t16 t17 P a b) ⟨?oo, ?rr⟩) (by kernel_rfl) rfl (gtL (by decide)) (by decide)
    case oo =>
      refine (okc ?_ (okc gg0 okn))
      all_goals first | exact hP | rfl | omega | (simp only [SS]; omega) | (simp only [dT, dF] at *; omega)
    case rr =>
      try simp (disch := omega) only [SS]
      repeat' apply And.intro
      all_goals first | exact True.intro | with_reducible rfl | omega | (intros; first | exact True.intro | with_reducible rfl | omega | (simp_all; done)) | (simp_all; done) | rfl

theorem rj1_p0 (t0 t1 t2 t3 t4 t5 t6 t7 t8 t9 t10 t11 t12 t13 t14 t15 t16 t17 : List UInt8) (P : Ix → Int) (a b : List UInt8) (A B C : List RawR.Ev) (n1 n2 n3 : Nat) (k2 : Nat) :
    isEnd (evTill Tryd.prog sumsJ1 700 (99) 900 9 [.code (bodyOf Tryd.f9)] (envOf [vS a, vS b] Tryd.f9.ntmps) ((rjS t0 t1 t2 t3 t4 t5 t6 t7 t8 t9 t10 t11 t12 t13 t14 t15 t16 t17 ++ pwF P) ++ ([])) ⟨[.s true, .f, .s false, .s false, .t, .t, .s true, .s true, .t, .s true, .s true], 110⟩) (endP ([]) (YES) ([]) 4000) =
    (OkL [(pwOK P, true), (decide ((↑a.length : Int) > (2000 : Int)), false), (decide ((↑b.length : Int) > (2000 : Int)), false), (decide (a.length + (1 : Nat) ≤ (9223372036854775807 : Nat)), true), (decide ((a ++ [(10 : UInt8)]).length + b.length ≤ (9223372036854775807 : Nat)), true), (!(List.map (fun c => if c.blt (80 : Nat) = true then c else (1230 : Nat) + (c - (80 : Nat))) errL).length.ble (allR a).2.2, true), (xnum (allR (a ++ [(10 : UInt8)] ++ b)).2.2 == (5 : Int), true)] ∧ true = ((↑(allR (a ++ [(10 : UInt8)] ++ b)).1.length : Int) == (0 : Int)) ∧ True) := by kernel_rfl

set_option maxHeartbeats 4000000 in
theorem rj1 (t0 t1 t2 t3 t4 t5 t6 t7 t8 t9 t10 t11 t12 t13 t14 t15 t16 t17 : List UInt8) (P : Ix → Int) (a b : List UInt8) (A B C : List RawR.Ev) (n1 n2 n3 : Nat) (k2 : Nat) (hP : pwOK P = true) (h1 : a.length ≤ 2000) (h2 : b.length ≤ 2000) (ha : allR a = (A, n1, 4)) (hb : allR b = (B, n2, k2)) (hc : allR ((a ++ [10]) ++ b) = (C, n3, 4)) (hC : C.length = 0)  :
    RunsTo Tryd.prog 9 [.code (bodyOf Tryd.f9)] (envOf [vS a, vS b] Tryd.f9.ntmps) (Sx.look ((rjS t0 t1 t2 t3 t4 t5 t6 t7 t8 t9 t10 t11 t12 t13 t14 t15 t16 t17 ++ pwF P) ++ ([]))) 110 (YES) (Sx.look ([])) 4000 := by
  have x5 : xnum 4 = 5 := by decide
  refine runs_last baseJ1 (Sx.Ends.of (rj1_p0 t0 t1 t2 t3 t4 t5 t6 t7 t8 t9 t10 t11 t12 t13 t14 t15 t16 t17 P a b A B C n1 n2 n3 k2) ⟨?oo, ?rr⟩) (by kernel_rfl) rfl (gtL (by decide)) (by decide)
  case oo =>
    refine (okc ?_ (okc ?_ (okc ?_ (okc ?_ (okc ?_ (okc ?_ (okc ?_ okn)))))))
    all_goals ((try simp only [ha, hb, hc, hC, x5]); first | done | exact hP | rfl | omega | (simp (disch := omega) only [SS, ha, hb, hc, hC, x5, List.length_append, List.length_cons, List.length_nil]; first | done | omega) | (simp_all; done) | (simp_all; omega))
  case rr =>
    refine ⟨?_, trivial⟩
    (try simp only [ha, hb, hc, hC, x5])
    first | done | rfl | (simp; done) | (simp_all; done)

theorem rj2_p0 (t0 t1 t2 t3 t4 t5 t6 t7 t8 t9 t10 t11 t12 t13 t14 t15 t16 t17 : List UInt8) (P : Ix → Int) (a b : List UInt8) (A B C : List RawR.Ev) (n1 n2 n3 : Nat) :
    isEnd (evTill Tryd.prog sumsJ1 700 (99) 900 9 [.code (bodyOf Tryd.f9)] (envOf [vS a, vS b] Tryd.f9.ntmps) ((rjS t0 t1 t2 t3 t4 t5 t6 t7 t8 t9 t10 t11 t12 t13 t14 t15 t16 t17 ++ pwF P) ++ ([])) ⟨[.s true, .f, .s false, .s false, .t, .t, .s true, .s true, .t, .s false, .s true, .s true], 110⟩) (endP ([]) (YES) ([]) 4000) =
    (OkL [(pwOK P, true), (decide ((↑a.length : Int) > (2000 : Int)), false), (decide ((↑b.length : Int) > (2000 : Int)), false), (decide (a.length + (1 : Nat) ≤ (9223372036854775807 : Nat)), true), (decide ((a ++ [(10 : UInt8)]).length + b.length ≤ (9223372036854775807 : Nat)), true), (!(List.map (fun c => if c.blt (80 : Nat) = true then c else (1230 : Nat) + (c - (80 : Nat))) errL).length.ble (allR a).2.2, false), (!(List.map (fun c => if c.blt (80 : Nat) = true then c else (1620 : Nat) + (c - (80 : Nat))) errL).length.ble (allR b).2.2, true), (xnum (allR (a ++ [(10 : UInt8)] ++ b)).2.2 == (5 : Int), true)] ∧ true = ((↑(allR (a ++ [(10 : UInt8)] ++ b)).1.length : Int) == (0 : Int)) ∧ True) := by kernel_rfl

set_option maxHeartbeats 4000000 in
theorem rj2 (t0 t1 t2 t3 t4 t5 t6 t7 t8 t9 t10 t11 t12 t13 t14 t15 t16 t17 : List UInt8) (P : Ix → Int) (a b : List UInt8) (A B C : List RawR.Ev) (n1 n2 n3 : Nat) (hP : pwOK P = true) (h1 : a.length ≤ 2000) (h2 : b.length ≤ 2000) (ha : allR a = (A, n1, 16)) (hb : allR b = (B, n2, 4)) (hc : allR ((a ++ [10]) ++ b) = (C, n3, 4)) (hC : C.length = 0)  :
    RunsTo Tryd.prog 9 [.code (bodyOf Tryd.f9)] (envOf [vS a, vS b] Tryd.f9.ntmps) (Sx.look ((rjS t0 t1 t2 t3 t4 t5 t6 t7 t8 t9 t10 t11 t12 t13 t14 t15 t16 t17 ++ pwF P) ++ ([]))) 110 (YES) (Sx.look ([])) 4000 := by
  have x5 : xnum 4 = 5 := by decide
  refine runs_last baseJ1 (Sx.Ends.of (rj2_p0 t0 t1 t2 t3 t4 t5 t6 t7 t8 t9 t10 t11 t12 t13 t14 t15 t16 t17 P a b A B C n1 n2 n3) ⟨?oo, ?rr⟩) (by kernel_rfl) rfl (gtL (by decide)) (by decide)
  case oo =>
    refine (okc ?_ (okc ?_ (okc ?_ (okc ?_ (okc ?_ (okc ?_ (okc ?_ (okc ?_ okn))))))))
    all_goals ((try simp only [ha, hb, hc, hC, x5]); first | done | exact hP | rfl | omega | (simp (disch := omega) only [SS, ha, hb, hc, hC, x5, List.length_append, List.length_cons, List.length_nil]; first | done | omega) | (simp_all; done) | (simp_all; omega))
  case rr =>
    refine ⟨?_, trivial⟩
    (try simp only [ha, hb, hc, hC, x5])
    first | done | rfl | (simp; done) | (simp_all; done)

theorem rj3_p0 (t0 t1 t2 t3 t4 t5 t6 t7 t8 t9 t10 t11 t12 t13 t14 t15 t16 t17 : List UInt8) (P : Ix → Int) (a b : List UInt8) (A B C : List RawR.Ev) (n1 n2 n3 : Nat) :
    isMore (evTill Tryd.prog sumsJ1 700 (atRest Tryd.f9 8) 900 9 [.code (bodyOf Tryd.f9)] (envOf [vS a, vS b] Tryd.f9.ntmps) ((rjS t0 t1 t2 t3 t4 t5 t6 t7 t8 t9 t10 t11 t12 t13 t14 t15 t16 t17 ++ pwF P) ++ ([])) ⟨[.s true, .f, .s false, .s false, .t, .t, .s true, .s true, .t, .s false, .s false, .s false, .s false], 110⟩) (moreP (cutOf Tryd.f9 8) ([((123 : Nat), Rn.to (1291 : Nat)), ((126 : Nat), Rn.to (1681 : Nat)), ((129 : Nat), Rn.to (2071 : Nat)), ((124 : Nat), Rn.to (1292 : Nat)), ((125 : Nat), Rn.to (1293 : Nat)), ((127 : Nat), Rn.to (1682 : Nat)), ((128 : Nat), Rn.to (1683 : Nat)), ((130 : Nat), Rn.to (2072 : Nat)), ((131 : Nat), Rn.to (2073 : Nat))]) Tryd.f9.ntmps ([(5, vL 123 4 A.length), (8, vL 126 4 B.length), (11, vL 129 4 C.length)]) (jY1 A B C) 4000) =
    (OkL [(pwOK P, true), (decide ((↑a.length : Int) > (2000 : Int)), false), (decide ((↑b.length : Int) > (2000 : Int)), false), (decide (a.length + (1 : Nat) ≤ (9223372036854775807 : Nat)), true), (decide ((a ++ [(10 : UInt8)]).length + b.length ≤ (9223372036854775807 : Nat)), true), (!(List.map (fun c => if c.blt (80 : Nat) = true then c else (1230 : Nat) + (c - (80 : Nat))) errL).length.ble (allR a).2.2, false), (!(List.map (fun c => if c.blt (80 : Nat) = true then c else (1620 : Nat) + (c - (80 : Nat))) errL).length.ble (allR b).2.2, false), (!(List.map (fun c => if c.blt (80 : Nat) = true then c else (2010 : Nat) + (c - (80 : Nat))) errL).length.ble (allR (a ++ [(10 : UInt8)] ++ b)).2.2, false), ((↑(allR (a ++ [(10 : UInt8)] ++ b)).1.length : Int) != IntKind.i64.wrap ((↑(allR a).1.length : Int) + (↑(allR b).1.length : Int)), false)] ∧ cutOf Tryd.f9 (8 : Nat) = cutOf Tryd.f9 (8 : Nat) ∧ (((0 : Nat) = (0 : Nat) ∧ A.length = (allR a).1.length) ∧ ((0 : Nat) = (0 : Nat) ∧ B.length = (allR b).1.length) ∧ (0 : Nat) = (0 : Nat) ∧ C.length = (allR (a ++ [(10 : UInt8)] ++ b)).1.length) ∧ (A.length = (allR a).1.length ∧ (∀ (i : Nat), i < A.length → eK A [i] = eK (allR a).1 [i]) ∧ (∀ (i : Nat), i < A.length → eN' A [i] = eN' (allR a).1 [i]) ∧ ((∀ (i : Nat), i < A.length → eX A [i] = eX (allR a).1 [i]) ∧ ∀ (i : Nat), i < A.length → eLB A [i] = eLB (allR a).1 [i]) ∧ (∀ (i : Nat), i < A.length → eX A [i] = eX (allR a).1 [i]) ∧ ∀ (i : Nat), i < A.length → eLM A [i] = eLM (allR a).1 [i]) ∧ (A.length = (allR a).1.length ∧ ∀ (m : Nat), m < A.length → gLB A m = gLB (allR a).1 m ∧ ∀ (i : Nat), i < gLB A m → gB A [m, i] = gB (allR a).1 [m, i]) ∧ (A.length = (allR a).1.length ∧ ∀ (m : Nat), m < A.length → gLM A m = gLM (allR a).1 m ∧ ∀ (i : Nat), i < gLM A m → gM A [m, i] = gM (allR a).1 [m, i]) ∧ (B.length = (allR b).1.length ∧ (∀ (i : Nat), i < B.length → eK B [i] = eK (allR b).1 [i]) ∧ (∀ (i : Nat), i < B.length → eN' B [i] = eN' (allR b).1 [i]) ∧ ((∀ (i : Nat), i < B.length → eX B [i] = eX (allR b).1 [i]) ∧ ∀ (i : Nat), i < B.length → eLB B [i] = eLB (allR b).1 [i]) ∧ (∀ (i : Nat), i < B.length → eX B [i] = eX (allR b).1 [i]) ∧ ∀ (i : Nat), i < B.length → eLM B [i] = eLM (allR b).1 [i]) ∧ (B.length = (allR b).1.length ∧ ∀ (m : Nat), m < B.length → gLB B m = gLB (allR b).1 m ∧ ∀ (i : Nat), i < gLB B m → gB B [m, i] = gB (allR b).1 [m, i]) ∧ (B.length = (allR b).1.length ∧ ∀ (m : Nat), m < B.length → gLM B m = gLM (allR b).1 m ∧ ∀ (i : Nat), i < gLM B m → gM B [m, i] = gM (allR b).1 [m, i]) ∧ (C.length = (allR (a ++ [(10 : UInt8)] ++ b)).1.length ∧ (∀ (i : Nat), i < C.length → eK C [i] = eK (allR (a ++ [(10 : UInt8)] ++ b)).1 [i]) ∧ (∀ (i : Nat), i < C.length → eN' C [i] = eN' (allR (a ++ [(10 : UInt8)] ++ b)).1 [i]) ∧ ((∀ (i : Nat), i < C.length → eX C [i] = eX (allR (a ++ [(10 : UInt8)] ++ b)).1 [i]) ∧ ∀ (i : Nat), i < C.length → eLB C [i] = eLB (allR (a ++ [(10 : UInt8)] ++ b)).1 [i]) ∧ (∀ (i : Nat), i < C.length → eX C [i] = eX (allR (a ++ [(10 : UInt8)] ++ b)).1 [i]) ∧ ∀ (i : Nat), i < C.length → eLM C [i] = eLM (allR (a ++ [(10 : UInt8)] ++ b)).1 [i]) ∧ (C.length = (allR (a ++ [(10 : UInt8)] ++ b)).1.length ∧ ∀ (m : Nat), m < C.length → gLB C m = gLB (allR (a ++ [(10 : UInt8)] ++ b)).1 m ∧ ∀ (i : Nat), i < gLB C m → gB C [m, i] = gB (allR (a ++ [(10 : UInt8)] ++ b)).1 [m, i]) ∧ C.length = (allR (a ++ [(10 : UInt8)] ++ b)).1.length ∧ ∀ (m : Nat), m < C.length → gLM C m = gLM (allR (a ++ [(10 : UInt8)] ++ b)).1 m ∧ ∀ (i : Nat), i < gLM C m → gM C [m, i] = gM (allR (a ++ [(10 : UInt8)] ++ b)).1 [m, i]) := by kernel_rfl

set_option maxHeartbeats 4000000 in
theorem rj3 (t0 t1 t2 t3 t4 t5 t6 t7 t8 t9 t10 t11 t12 t13 t14 t15 t16 t17 : List UInt8) (P : Ix → Int) (a b : List UInt8) (A B C : List RawR.Ev) (n1 n2 n3 : Nat) (hP : pwOK P = true) (h1 : a.length ≤ 2000) (h2 : b.length ≤ 2000) (ha : allR a = (A, n1, 16)) (hb : allR b = (B, n2, 16)) (hc : allR ((a ++ [10]) ++ b) = (C, n3, 16)) (hC : C.length = A.length + B.length) (hl1 : A.length ≤ 100000) (hl2 : B.length ≤ 100000)  (next : RunsTo Tryd.prog 9 (cutOf Tryd.f9 8) (envAt Tryd.f9.ntmps ([(5, vL 123 4 A.length), (8, vL 126 4 B.length), (11, vL 129 4 C.length)])) (Sx.look ((rjS t0 t1 t2 t3 t4 t5 t6 t7 t8 t9 t10 t11 t12 t13 t14 t15 t16 t17 ++ pwF P) ++ (jY1 A B C))) 110 (YES) (Sx.look []) 4000) :
    RunsTo Tryd.prog 9 [.code (bodyOf Tryd.f9)] (envOf [vS a, vS b] Tryd.f9.ntmps) (Sx.look ((rjS t0 t1 t2 t3 t4 t5 t6 t7 t8 t9 t10 t11 t12 t13 t14 t15 t16 t17 ++ pwF P) ++ ([]))) 110 (YES) (Sx.look []) 4000 := by
  have hwl : IntKind.i64.wrap ((A.length : Int) + (B.length : Int)) = (A.length : Int) + (B.length : Int) := wr64 (by omega)
  refine runs_more baseJ1 (More.of (rj3_p0 t0 t1 t2 t3 t4 t5 t6 t7 t8 t9 t10 t11 t12 t13 t14 t15 t16 t17 P a b A B C n1 n2 n3) ⟨?oo, rfl, ?rr⟩) (by kernel_rfl) (by kernel_rfl) rfl (gtL (by decide)) (by decide) next
  case oo =>
    clear next
    refine (okc ?_ (okc ?_ (okc ?_ (okc ?_ (okc ?_ (okc ?_ (okc ?_ (okc ?_ (okc ?_ okn)))))))))
    all_goals ((try simp only [ha, hb, hc, hC, hwl]); first | done | exact hP | rfl | omega | (simp (disch := omega) only [SS, ha, hb, hc, hC, hwl, List.length_append, List.length_cons, List.length_nil]; first | done | omega) | (simp_all; done) | (simp_all; omega))
  case rr =>
    clear next
    (try simp only [ha, hb, hc])
    repeat' apply And.intro
    all_goals first | exact True.intro | with_reducible rfl | omega | (intros; trivial) | (intros; rfl) | (intros; constructor <;> intros <;> first | rfl | trivial)

theorem eK_app (A B : List RawR.Ev) : ∀ k, k < (A ++ B).length → eK (A ++ B) [k] = appF A.length 0 (eK A) (eK B) [k] := app_get (fun e : RawR.Ev => e.K) ev0 A B (eK B) (fun _ _ => rfl)
theorem eN_app (A B : List RawR.Ev) : ∀ k, k < (A ++ B).length → eN' (A ++ B) [k] = appF A.length 0 (eN' A) (eN' B) [k] := app_get (fun e : RawR.Ev => e.N) ev0 A B (eN' B) (fun _ _ => rfl)
theorem eLB_app (A B : List RawR.Ev) : ∀ k, k < (A ++ B).length → eLB (A ++ B) [k] = appF A.length 0 (eLB A) (eLB B) [k] := app_get (fun e : RawR.Ev => e.B.length) ev0 A B (eLB B) (fun _ _ => rfl)
theorem eLM_app (A B : List RawR.Ev) : ∀ k, k < (A ++ B).length → eLM (A ++ B) [k] = appF A.length 0 (eLM A) (eLM B) [k] := app_get (fun e : RawR.Ev => e.M.length) ev0 A B (eLM B) (fun _ _ => rfl)
theorem mem_app (n m : Nat) : ∀ k, k < n + m → 0 + k = appF n 0 (fun is => 0 + is.headD 0) (fun is => n + is.headD 0) [k] := by
  intro k hk
  simp only [appF, List.headD_cons, Nat.zero_add]
  split <;> omega
theorem rj4_p0 (t0 t1 t2 t3 t4 t5 t6 t7 t8 t9 t10 t11 t12 t13 t14 t15 t16 t17 : List UInt8) (P : Ix → Int) (A B : List RawR.Ev) :
    isMore (evTill Tryd.prog sumsJ3 700 (behind Tryd.f9 0) 900 9 (cutOf Tryd.f9 8) (envAt Tryd.f9.ntmps ([(5, vL 123 4 A.length), (8, vL 126 4 B.length), (11, vL 129 4 (A ++ B).length)])) ((rjS t0 t1 t2 t3 t4 t5 t6 t7 t8 t9 t10 t11 t12 t13 t14 t15 t16 t17 ++ pwF P) ++ (jY2 A B (A ++ B))) ⟨[.s true, .t, .s true, .t, .s true, .s true, .s true], 160⟩) (moreP (headOf Tryd.f9 0) ([((154 : Nat), Rn.to (162 : Nat))]) Tryd.f9.ntmps ([(5, vL 123 4 A.length), (8, vL 126 4 B.length), (11, vL 129 4 (A ++ B).length), (86, vL 154 4 (A ++ B).length), (87, vN (A ++ B).length), (88, vN (0 : Nat))]) (jY2 A B (A ++ B) ++ jwE 154 (A ++ B).length (A ++ B)) 4000) =
    (OkL [(((0 : Nat) + A.length).ble A.length, true), (decide (((2 : Nat) * ((0 : Nat) + A.length) + (192 : Nat)) * (64 : Nat) ≤ (281474976710656 : Nat)), true), (((0 : Nat) + B.length).ble B.length, true), (((0 : Nat) + ((0 : Nat) + A.length)).ble ((0 : Nat) + A.length), true), (decide (((2 : Nat) * ((0 : Nat) + A.length + B.length) + (192 : Nat)) * (64 : Nat) ≤ (281474976710656 : Nat)), true)] ∧ headOf Tryd.f9 (0 : Nat) = headOf Tryd.f9 (0 : Nat) ∧ (((0 : Nat) = (0 : Nat) ∧ A.length = A.length) ∧ ((0 : Nat) = (0 : Nat) ∧ B.length = B.length) ∧ ((0 : Nat) = (0 : Nat) ∧ (A ++ B).length = (A ++ B).length) ∧ ((0 : Nat) = (0 : Nat) ∧ (A ++ B).length = (0 : Nat) + A.length + B.length) ∧ (↑(A ++ B).length : Int) = (↑((0 : Nat) + A.length + B.length) : Int) ∧ (↑(0 : Nat) : Int) = (0 : Int)) ∧ (A.length = A.length ∧ (∀ (i : Nat), i < A.length → eK A [i] = eK A [i]) ∧ (∀ (i : Nat), i < A.length → eN' A [i] = eN' A [i]) ∧ ((∀ (i : Nat), i < A.length → (0 : Nat) + i = (0 : Nat) + i) ∧ ∀ (i : Nat), i < A.length → eLB A [i] = eLB A [i]) ∧ (∀ (i : Nat), i < A.length → (0 : Nat) + i = (0 : Nat) + i) ∧ ∀ (i : Nat), i < A.length → eLM A [i] = eLM A [i]) ∧ (B.length = B.length ∧ (∀ (i : Nat), i < B.length → eK B [i] = eK B [i]) ∧ (∀ (i : Nat), i < B.length → eN' B [i] = eN' B [i]) ∧ ((∀ (i : Nat), i < B.length → A.length + i = A.length + i) ∧ ∀ (i : Nat), i < B.length → eLB B [i] = eLB B [i]) ∧ (∀ (i : Nat), i < B.length → A.length + i = A.length + i) ∧ ∀ (i : Nat), i < B.length → eLM B [i] = eLM B [i]) ∧ ((A ++ B).length = (A ++ B).length ∧ ∀ (m : Nat), m < (A ++ B).length → zLB (A ++ B) m = zLB (A ++ B) m ∧ ∀ (i : Nat), i < zLB (A ++ B) m → zB (A ++ B) [m, i] = zB (A ++ B) [m, i]) ∧ ((A ++ B).length = (A ++ B).length ∧ ∀ (m : Nat), m < (A ++ B).length → zLM (A ++ B) m = zLM (A ++ B) m ∧ ∀ (i : Nat), i < zLM (A ++ B) m → zM (A ++ B) [m, i] = zM (A ++ B) [m, i]) ∧ ((A ++ B).length = (A ++ B).length ∧ (∀ (i : Nat), i < (A ++ B).length → eK (A ++ B) [i] = eK (A ++ B) [i]) ∧ (∀ (i : Nat), i < (A ++ B).length → eN' (A ++ B) [i] = eN' (A ++ B) [i]) ∧ ((∀ (i : Nat), i < (A ++ B).length → eX (A ++ B) [i] = eX (A ++ B) [i]) ∧ ∀ (i : Nat), i < (A ++ B).length → eLB (A ++ B) [i] = eLB (A ++ B) [i]) ∧ (∀ (i : Nat), i < (A ++ B).length → eX (A ++ B) [i] = eX (A ++ B) [i]) ∧ ∀ (i : Nat), i < (A ++ B).length → eLM (A ++ B) [i] = eLM (A ++ B) [i]) ∧ ((A ++ B).length = (A ++ B).length ∧ ∀ (m : Nat), m < (A ++ B).length → gLB (A ++ B) m = gLB (A ++ B) m ∧ ∀ (i : Nat), i < gLB (A ++ B) m → gB (A ++ B) [m, i] = gB (A ++ B) [m, i]) ∧ ((A ++ B).length = (A ++ B).length ∧ ∀ (m : Nat), m < (A ++ B).length → gLM (A ++ B) m = gLM (A ++ B) m ∧ ∀ (i : Nat), i < gLM (A ++ B) m → gM (A ++ B) [m, i] = gM (A ++ B) [m, i]) ∧ (A ++ B).length = (0 : Nat) + A.length + B.length ∧ (∀ (i : Nat), i < (A ++ B).length → eK (A ++ B) [i] = appF ((0 : Nat) + A.length) (0 : Nat) (fun js => eK A (subIx (0 : Nat) js)) (fun js => eK B (subIx (0 : Nat) js)) [i]) ∧ (∀ (i : Nat), i < (A ++ B).length → eN' (A ++ B) [i] = appF ((0 : Nat) + A.length) (0 : Nat) (fun js => eN' A (subIx (0 : Nat) js)) (fun js => eN' B (subIx (0 : Nat) js)) [i]) ∧ ((∀ (i : Nat), i < (A ++ B).length → (0 : Nat) + i = appF ((0 : Nat) + A.length) (0 : Nat) (fun js => (0 : Nat) + List.headD (subIx (0 : Nat) js) (0 : Nat)) (fun js => A.length + List.headD (subIx (0 : Nat) js) (0 : Nat)) [i]) ∧ ∀ (i : Nat), i < (A ++ B).length → eLB (A ++ B) [i] = appF ((0 : Nat) + A.length) (0 : Nat) (fun js => eLB A (subIx (0 : Nat) js)) (fun js => eLB B (subIx (0 : Nat) js)) [i]) ∧ (∀ (i : Nat), i < (A ++ B).length → (0 : Nat) + i = appF ((0 : Nat) + A.length) (0 : Nat) (fun js => (0 : Nat) + List.headD (subIx (0 : Nat) js) (0 : Nat)) (fun js => A.length + List.headD (subIx (0 : Nat) js) (0 : Nat)) [i]) ∧ ∀ (i : Nat), i < (A ++ B).length → eLM (A ++ B) [i] = appF ((0 : Nat) + A.length) (0 : Nat) (fun js => eLM A (subIx (0 : Nat) js)) (fun js => eLM B (subIx (0 : Nat) js)) [i]) := by kernel_rfl

set_option maxHeartbeats 4000000 in
theorem rj4 (t0 t1 t2 t3 t4 t5 t6 t7 t8 t9 t10 t11 t12 t13 t14 t15 t16 t17 : List UInt8) (P : Ix → Int) (A B : List RawR.Ev) (hl1 : A.length ≤ 100000) (hl2 : B.length ≤ 100000)  (next : RunsTo Tryd.prog 9 (headOf Tryd.f9 0) (envAt Tryd.f9.ntmps ([(5, vL 123 4 A.length), (8, vL 126 4 B.length), (11, vL 129 4 (A ++ B).length), (86, vL 154 4 (A ++ B).length), (87, vN (A ++ B).length), (88, vN (0 : Nat))])) (Sx.look ((rjS t0 t1 t2 t3 t4 t5 t6 t7 t8 t9 t10 t11 t12 t13 t14 t15 t16 t17 ++ pwF P) ++ (jY2 A B (A ++ B) ++ jwE 154 (A ++ B).length (A ++ B)))) 110 (YES) (Sx.look []) 4000) :
    RunsTo Tryd.prog 9 (cutOf Tryd.f9 8) (envAt Tryd.f9.ntmps ([(5, vL 123 4 A.length), (8, vL 126 4 B.length), (11, vL 129 4 (A ++ B).length)])) (Sx.look ((rjS t0 t1 t2 t3 t4 t5 t6 t7 t8 t9 t10 t11 t12 t13 t14 t15 t16 t17 ++ pwF P) ++ (jY2 A B (A ++ B)))) 110 (YES) (Sx.look []) 4000 := by
  refine runs_more baseJ3 (More.of (rj4_p0 t0 t1 t2 t3 t4 t5 t6 t7 t8 t9 t10 t11 t12 t13 t14 t15 t16 t17 P A B) ⟨?oo, rfl, ?rr⟩) (by kernel_rfl) (by kernel_rfl) rfl (gtL (by decide)) (by decide) next
  case oo =>
    clear next
    refine (okc ?_ (okc ?_ (okc ?_ (okc ?_ (okc ?_ okn)))))
    all_goals first | rfl | omega | (simp (disch := omega) only [SS, List.length_append]; first | done | omega) | (simp_all; done) | (simp_all; omega)
  case rr =>
    clear next
    repeat' apply And.intro
    all_goals first | exact True.intro | with_reducible rfl | (intros; trivial) | (intros; rfl) | (simp; omega) | (simp; done) | (intro k hk; have q := eK_app A B k hk; simp only [appF, subIx, Nat.zero_add] at q ⊢; exact q) | (intro k hk; have q := eN_app A B k hk; simp only [appF, subIx, Nat.zero_add] at q ⊢; exact q) | (intro k hk; have q := eLB_app A B k hk; simp only [appF, subIx, Nat.zero_add] at q ⊢; exact q) | (intro k hk; have q := eLM_app A B k hk; simp only [appF, subIx, Nat.zero_add] at q ⊢; exact q) | (intro k hk; have q := mem_app A.length B.length k (by rw [List.length_append] at hk; exact hk); simp only [appF, subIx, Nat.zero_add, List.headD_cons] at q ⊢; exact q) | (intros; constructor <;> intros <;> first | rfl | trivial)

theorem zb_at {Z : List RawR.Ev} {j : Nat} {e : RawR.Ev} (he : Z.getD j ev0 = e) : lenB (fun js => zB Z ((0 + j) :: js)) e.B.length = e.B := by
  unfold lenB
  refine bytes_is rfl (fun i hi => ?_)
  simp only [zB, List.headD_cons, List.tail_cons, Nat.zero_add, he]
theorem gb_at {Z : List RawR.Ev} {j : Nat} {e : RawR.Ev} (hj : j < Z.length) (he : Z.getD j ev0 = e) : lenB (fun js => gB Z ((Z.length - 1 - j) :: js)) e.B.length = e.B := by
  unfold lenB
  refine bytes_is rfl (fun i hi => ?_)
  simp only [gB, List.headD_cons, List.tail_cons]
  rw [at_jj hj, he]
theorem smJ {Z : List RawR.Ev} {j : Nat} {e : RawR.Ev} (hj : j < Z.length) (he : Z.getD j ev0 = e) : sameV e.K e.N e.K e.N e.B.length e.M.length e.B.length e.M.length (fun js => zB Z ((0 + j) :: js)) (fun js => gB Z ((Z.length - 1 - j) :: js)) (fun js => zM Z ((0 + j) :: js)) (fun js => gM Z ((Z.length - 1 - j) :: js)) = true := by
  unfold sameV eqI
  rw [zb_at he, gb_at hj he]
  simp only [decide_true, Bool.true_and]
  refine List.all_eq_true.2 fun i hi => decide_eq_true ?_
  simp only [zM, gM, List.headD_cons, List.tail_cons, Nat.zero_add]
  rw [at_jj hj]
theorem rj5_p0 (t0 t1 t2 t3 t4 t5 t6 t7 t8 t9 t10 t11 t12 t13 t14 t15 t16 t17 : List UInt8) (P : Ix → Int) (A B : List RawR.Ev) (j : Nat) (e : RawR.Ev) :
    isMore (evTill Tryd.prog sumsJ3 700 (behind Tryd.f9 0) 900 9 (headOf Tryd.f9 0) (envAt Tryd.f9.ntmps ([(5, vL 123 4 A.length), (8, vL 126 4 B.length), (11, vL 129 4 (A ++ B).length), (86, vL 154 4 (A ++ B).length), (87, vN (A ++ B).length), (88, vN (j : Nat))])) ((rjS t0 t1 t2 t3 t4 t5 t6 t7 t8 t9 t10 t11 t12 t13 t14 t15 t16 t17 ++ pwF P) ++ (jY2 A B (A ++ B) ++ jwE 154 (A ++ B).length (A ++ B))) ⟨[.s true, .s true, .s true, .s true, .s true, .s true, .s true, .s true, .s true, .s true, .s true, .s true, .s false], 160⟩) (moreP (headOf Tryd.f9 0) ([]) Tryd.f9.ntmps ([(5, vL 123 4 A.length), (8, vL 126 4 B.length), (11, vL 129 4 (A ++ B).length), (86, vL 154 4 (A ++ B).length), (87, vN (A ++ B).length), (88, vN (j + 1 : Nat))]) (jY2 A B (A ++ B) ++ jwE 154 (A ++ B).length (A ++ B)) 4000) =
    (OkL [(decide ((↑j : Int) < (↑(A ++ B).length : Int)), true), (decide ((0 : Int) ≤ (↑j : Int) ∧ (↑j : Int) < (↑(A ++ B).length : Int)), true), (((0 : Nat) + (↑j : Int).toNat).blt (A ++ B).length, true), (((0 : Nat) + (↑j : Int).toNat).blt (A ++ B).length, true), (decide ((0 : Int) ≤ (↑j : Int) ∧ (↑j : Int) < (↑(A ++ B).length : Int)), true), (((0 : Nat) + (↑j : Int).toNat).blt (A ++ B).length, true), (((0 : Nat) + (↑j : Int).toNat).blt (A ++ B).length, true), ((eX (A ++ B) [(0 : Nat) + (↑j : Int).toNat] + (1 : Nat) + ((A ++ B).length - (eX (A ++ B) [(0 : Nat) + (↑j : Int).toNat] + (1 : Nat)))).beq (A ++ B).length, true), ((eX (A ++ B) [(0 : Nat) + (↑j : Int).toNat] + (1 : Nat) + ((A ++ B).length - (eX (A ++ B) [(0 : Nat) + (↑j : Int).toNat] + (1 : Nat)))).beq (A ++ B).length, true), (((0 : Nat) + ((0 : Nat) + (↑j : Int).toNat) + (1 : Nat) + ((A ++ B).length - ((0 : Nat) + ((0 : Nat) + (↑j : Int).toNat) + (1 : Nat)))).beq (A ++ B).length, true), (((0 : Nat) + ((0 : Nat) + (↑j : Int).toNat) + (1 : Nat) + ((A ++ B).length - ((0 : Nat) + ((0 : Nat) + (↑j : Int).toNat) + (1 : Nat)))).beq (A ++ B).length, true), (decide (eLB (A ++ B) [(0 : Nat) + (↑j : Int).toNat] ≤ zLB (A ++ B) ((0 : Nat) + ((0 : Nat) + (↑j : Int).toNat))) && (decide (eLM (A ++ B) [(0 : Nat) + (↑j : Int).toNat] ≤ zLM (A ++ B) ((0 : Nat) + ((0 : Nat) + (↑j : Int).toNat))) && (decide (eLB (A ++ B) [(0 : Nat) + (↑j : Int).toNat] ≤ gLB (A ++ B) (eX (A ++ B) [(0 : Nat) + (↑j : Int).toNat])) && (decide (eLM (A ++ B) [(0 : Nat) + (↑j : Int).toNat] ≤ gLM (A ++ B) (eX (A ++ B) [(0 : Nat) + (↑j : Int).toNat])) && decide (eLM (A ++ B) [(0 : Nat) + (↑j : Int).toNat] ≤ (100000 : Nat))))), true), (!sameV (eK (A ++ B) [(0 : Nat) + (↑j : Int).toNat]) (eN' (A ++ B) [(0 : Nat) + (↑j : Int).toNat]) (eK (A ++ B) [(0 : Nat) + (↑j : Int).toNat]) (eN' (A ++ B) [(0 : Nat) + (↑j : Int).toNat]) (eLB (A ++ B) [(0 : Nat) + (↑j : Int).toNat]) (eLM (A ++ B) [(0 : Nat) + (↑j : Int).toNat]) (eLB (A ++ B) [(0 : Nat) + (↑j : Int).toNat]) (eLM (A ++ B) [(0 : Nat) + (↑j : Int).toNat]) (fun js => zB (A ++ B) (((0 : Nat) + ((0 : Nat) + (↑j : Int).toNat)) :: js)) (fun js => gB (A ++ B) (eX (A ++ B) [(0 : Nat) + (↑j : Int).toNat] :: js)) (fun js => zM (A ++ B) (((0 : Nat) + ((0 : Nat) + (↑j : Int).toNat)) :: js)) fun js => gM (A ++ B) (eX (A ++ B) [(0 : Nat) + (↑j : Int).toNat] :: js), false)] ∧ headOf Tryd.f9 (0 : Nat) = headOf Tryd.f9 (0 : Nat) ∧ (((0 : Nat) = (0 : Nat) ∧ A.length = A.length) ∧ ((0 : Nat) = (0 : Nat) ∧ B.length = B.length) ∧ ((0 : Nat) = (0 : Nat) ∧ (A ++ B).length = (A ++ B).length) ∧ ((0 : Nat) = (0 : Nat) ∧ (A ++ B).length = (A ++ B).length) ∧ (↑(A ++ B).length : Int) = (↑(A ++ B).length : Int) ∧ (↑(j + (1 : Nat)) : Int) = IntKind.i64.wrap ((↑j : Int) + (1 : Int))) ∧ (A.length = A.length ∧ (∀ (i : Nat), i < A.length → eK A [i] = eK A [i]) ∧ (∀ (i : Nat), i < A.length → eN' A [i] = eN' A [i]) ∧ ((∀ (i : Nat), i < A.length → (0 : Nat) + i = (0 : Nat) + i) ∧ ∀ (i : Nat), i < A.length → eLB A [i] = eLB A [i]) ∧ (∀ (i : Nat), i < A.length → (0 : Nat) + i = (0 : Nat) + i) ∧ ∀ (i : Nat), i < A.length → eLM A [i] = eLM A [i]) ∧ (B.length = B.length ∧ (∀ (i : Nat), i < B.length → eK B [i] = eK B [i]) ∧ (∀ (i : Nat), i < B.length → eN' B [i] = eN' B [i]) ∧ ((∀ (i : Nat), i < B.length → A.length + i = A.length + i) ∧ ∀ (i : Nat), i < B.length → eLB B [i] = eLB B [i]) ∧ (∀ (i : Nat), i < B.length → A.length + i = A.length + i) ∧ ∀ (i : Nat), i < B.length → eLM B [i] = eLM B [i]) ∧ ((A ++ B).length = (A ++ B).length ∧ ∀ (m : Nat), m < (A ++ B).length → zLB (A ++ B) m = zLB (A ++ B) m ∧ ∀ (i : Nat), i < zLB (A ++ B) m → zB (A ++ B) [m, i] = zB (A ++ B) [m, i]) ∧ ((A ++ B).length = (A ++ B).length ∧ ∀ (m : Nat), m < (A ++ B).length → zLM (A ++ B) m = zLM (A ++ B) m ∧ ∀ (i : Nat), i < zLM (A ++ B) m → zM (A ++ B) [m, i] = zM (A ++ B) [m, i]) ∧ ((A ++ B).length = (A ++ B).length ∧ (∀ (i : Nat), i < (A ++ B).length → eK (A ++ B) [i] = eK (A ++ B) [i]) ∧ (∀ (i : Nat), i < (A ++ B).length → eN' (A ++ B) [i] = eN' (A ++ B) [i]) ∧ ((∀ (i : Nat), i < (A ++ B).length → eX (A ++ B) [i] = eX (A ++ B) [i]) ∧ ∀ (i : Nat), i < (A ++ B).length → eLB (A ++ B) [i] = eLB (A ++ B) [i]) ∧ (∀ (i : Nat), i < (A ++ B).length → eX (A ++ B) [i] = eX (A ++ B) [i]) ∧ ∀ (i : Nat), i < (A ++ B).length → eLM (A ++ B) [i] = eLM (A ++ B) [i]) ∧ ((A ++ B).length = (A ++ B).length ∧ ∀ (m : Nat), m < (A ++ B).length → gLB (A ++ B) m = gLB (A ++ B) m ∧ ∀ (i : Nat), i < gLB (A ++ B) m → gB (A ++ B) [m, i] = gB (A ++ B) [m, i]) ∧ ((A ++ B).length = (A ++ B).length ∧ ∀ (m : Nat), m < (A ++ B).length → gLM (A ++ B) m = gLM (A ++ B) m ∧ ∀ (i : Nat), i < gLM (A ++ B) m → gM (A ++ B) [m, i] = gM (A ++ B) [m, i]) ∧ (A ++ B).length = (A ++ B).length ∧ (∀ (i : Nat), i < (A ++ B).length → eK (A ++ B) [i] = eK (A ++ B) [i]) ∧ (∀ (i : Nat), i < (A ++ B).length → eN' (A ++ B) [i] = eN' (A ++ B) [i]) ∧ ((∀ (i : Nat), i < (A ++ B).length → (0 : Nat) + i = (0 : Nat) + i) ∧ ∀ (i : Nat), i < (A ++ B).length → eLB (A ++ B) [i] = eLB (A ++ B) [i]) ∧ (∀ (i : Nat), i < (A ++ B).length → (0 : Nat) + i = (0 : Nat) + i) ∧ ∀ (i : Nat), i < (A ++ B).length → eLM (A ++ B) [i] = eLM (A ++ B) [i]) := by kernel_rfl

set_option maxHeartbeats 4000000 in
theorem rj5 (t0 t1 t2 t3 t4 t5 t6 t7 t8 t9 t10 t11 t12 t13 t14 t15 t16 t17 : List UInt8) (P : Ix → Int) (A B : List RawR.Ev) (j : Nat) (e : RawR.Ev) (hj : j < (A ++ B).length) (he : (A ++ B).getD j ev0 = e) (hm : e.M.length ≤ 100000) (hl1 : A.length ≤ 100000) (hl2 : B.length ≤ 100000)  (next : RunsTo Tryd.prog 9 (headOf Tryd.f9 0) (envAt Tryd.f9.ntmps ([(5, vL 123 4 A.length), (8, vL 126 4 B.length), (11, vL 129 4 (A ++ B).length), (86, vL 154 4 (A ++ B).length), (87, vN (A ++ B).length), (88, vN (j + 1 : Nat))])) (Sx.look ((rjS t0 t1 t2 t3 t4 t5 t6 t7 t8 t9 t10 t11 t12 t13 t14 t15 t16 t17 ++ pwF P) ++ (jY2 A B (A ++ B) ++ jwE 154 (A ++ B).length (A ++ B)))) 110 (YES) (Sx.look []) 4000) :
    RunsTo Tryd.prog 9 (headOf Tryd.f9 0) (envAt Tryd.f9.ntmps ([(5, vL 123 4 A.length), (8, vL 126 4 B.length), (11, vL 129 4 (A ++ B).length), (86, vL 154 4 (A ++ B).length), (87, vN (A ++ B).length), (88, vN (j : Nat))])) (Sx.look ((rjS t0 t1 t2 t3 t4 t5 t6 t7 t8 t9 t10 t11 t12 t13 t14 t15 t16 t17 ++ pwF P) ++ (jY2 A B (A ++ B) ++ jwE 154 (A ++ B).length (A ++ B)))) 110 (YES) (Sx.look []) 4000 := by
  have hl3 : (A ++ B).length ≤ 200000 := by rw [List.length_append]; omega
  have hw : IntKind.i64.wrap ((j : Int) + 1) = ((j + 1 : Nat) : Int) := by rw [wr64 (by omega)]; rfl
  have hj0 : 0 + ((j : Nat) : Int).toNat = j := by simp
  have sj := smJ hj he
  have a1 := at_jj hj
  refine runs_more baseJ3 (More.of (rj5_p0 t0 t1 t2 t3 t4 t5 t6 t7 t8 t9 t10 t11 t12 t13 t14 t15 t16 t17 P A B j e) ⟨?oo, rfl, ?rr⟩) (by kernel_rfl) (by kernel_rfl) rfl (gtL (by decide)) (by decide) next
  case oo =>
    clear next
    refine (okc ?_ (okc ?_ (okc ?_ (okc ?_ (okc ?_ (okc ?_ (okc ?_ (okc ?_ (okc ?_ (okc ?_ (okc ?_ (okc ?_ (okc ?_ okn)))))))))))))
    simp only [Nat.zero_add] at sj
    all_goals ((try simp only [hj0, eK, eN', eX, eLB, eLM, gLB, gLM, zLB, zLM, List.headD_cons, a1, he, hw, Int.toNat_natCast, Nat.zero_add]); first | done | rfl | omega | exact sj | exact ⟨Nat.le_refl _, Nat.le_refl _, Nat.le_refl _, Nat.le_refl _, by omega⟩ | (simp (disch := omega) only [SS, hj0, eK, eN', eX, eLB, eLM, gLB, gLM, zLB, zLM, List.headD_cons, a1, he, hw, Int.toNat_natCast, Nat.zero_add]; first | done | omega | exact sj | exact ⟨Nat.le_refl _, Nat.le_refl _, Nat.le_refl _, Nat.le_refl _, by omega⟩) | (simp_all; done) | (simp_all; omega))
  case rr =>
    clear next
    simp only [hw]
    repeat' apply And.intro
    all_goals first | exact True.intro | with_reducible rfl | (intros; trivial) | (intros; rfl) | (intros; constructor <;> intros <;> first | rfl | trivial)

theorem rj6_p0 (t0 t1 t2 t3 t4 t5 t6 t7 t8 t9 t10 t11 t12 t13 t14 t15 t16 t17 : List UInt8) (P : Ix → Int) (A B : List RawR.Ev) (j : Nat) :
    isEnd (evTill Tryd.prog sumsJ3 700 (99) 900 9 (headOf Tryd.f9 0) (envAt Tryd.f9.ntmps ([(5, vL 123 4 A.length), (8, vL 126 4 B.length), (11, vL 129 4 (A ++ B).length), (86, vL 154 4 (A ++ B).length), (87, vN (A ++ B).length), (88, vN (j : Nat))])) ((rjS t0 t1 t2 t3 t4 t5 t6 t7 t8 t9 t10 t11 t12 t13 t14 t15 t16 t17 ++ pwF P) ++ (jY2 A B (A ++ B) ++ jwE 154 (A ++ B).length (A ++ B))) ⟨[.s false, .s true, .s true, .s true, .s true, .s true], 160⟩) (endP ([]) (YES) ([]) 4000) =
    (OkL [(decide ((↑j : Int) < (↑(A ++ B).length : Int)), false), (decide (A.length ≤ A.length) && (decide (A.length ≤ (100000 : Nat)) && okS { K := eK A, N := eN' A, MB := fun is => (0 : Nat) + List.headD is (0 : Nat), LB := eLB A, MM := fun is => (0 : Nat) + List.headD is (0 : Nat), LM := eLM A } A.length (A ++ B).length (A ++ B).length (zLB (A ++ B)) (zLM (A ++ B))), true), (decide (B.length ≤ B.length) && (decide (B.length ≤ (100000 : Nat)) && okS { K := eK B, N := eN' B, MB := fun is => A.length + List.headD is (0 : Nat), LB := eLB B, MM := fun is => A.length + List.headD is (0 : Nat), LM := eLM B } B.length (A ++ B).length (A ++ B).length (zLB (A ++ B)) (zLM (A ++ B))), true), (decide ((A ++ B).length ≤ (A ++ B).length) && (decide ((A ++ B).length ≤ (100000 : Nat)) && okS { K := eK (A ++ B), N := eN' (A ++ B), MB := eX (A ++ B), LB := eLB (A ++ B), MM := eX (A ++ B), LM := eLM (A ++ B) } (A ++ B).length (A ++ B).length (A ++ B).length (gLB (A ++ B)) (gLM (A ++ B))), true), (sumB (rvF (eK (A ++ B)) (eN' (A ++ B)) (eLB (A ++ B)) (eLM (A ++ B)) (eX (A ++ B)) (gM (A ++ B))) (fun i => (↑(eLB (A ++ B) [i]) : Int)) (A ++ B).length == IntKind.i64.wrap (sumB (rvF (eK A) (eN' A) (eLB A) (eLM A) (fun is => (0 : Nat) + List.headD is (0 : Nat)) (zM (A ++ B))) (fun i => (↑(eLB A [i]) : Int)) A.length + sumB (rvF (eK B) (eN' B) (eLB B) (eLM B) (fun is => A.length + List.headD is (0 : Nat)) (zM (A ++ B))) (fun i => (↑(eLB B [i]) : Int)) B.length), true), (sumB (rvG (eK (A ++ B)) (eN' (A ++ B)) (eLB (A ++ B)) (eLM (A ++ B)) (eX (A ++ B)) (gM (A ++ B)) (2 : Int)) (fun i => eN' (A ++ B) [i]) (A ++ B).length == IntKind.i64.wrap (sumB (rvG (eK A) (eN' A) (eLB A) (eLM A) (fun is => (0 : Nat) + List.headD is (0 : Nat)) (zM (A ++ B)) (2 : Int)) (fun i => eN' A [i]) A.length + sumB (rvG (eK B) (eN' B) (eLB B) (eLM B) (fun is => A.length + List.headD is (0 : Nat)) (zM (A ++ B)) (2 : Int)) (fun i => eN' B [i]) B.length), true)] ∧ true = (sumB (rvG (eK (A ++ B)) (eN' (A ++ B)) (eLB (A ++ B)) (eLM (A ++ B)) (eX (A ++ B)) (gM (A ++ B)) (3 : Int)) (fun i => eN' (A ++ B) [i]) (A ++ B).length == IntKind.i64.wrap (sumB (rvG (eK A) (eN' A) (eLB A) (eLM A) (fun is => (0 : Nat) + List.headD is (0 : Nat)) (zM (A ++ B)) (3 : Int)) (fun i => eN' A [i]) A.length + sumB (rvG (eK B) (eN' B) (eLB B) (eLM B) (fun is => A.length + List.headD is (0 : Nat)) (zM (A ++ B)) (3 : Int)) (fun i => eN' B [i]) B.length)) ∧ True) := by kernel_rfl

set_option maxHeartbeats 4000000 in
theorem rj6 (t0 t1 t2 t3 t4 t5 t6 t7 t8 t9 t10 t11 t12 t13 t14 t15 t16 t17 : List UInt8) (P : Ix → Int) (A B : List RawR.Ev) (j : Nat) (hl5 : (A ++ B).length ≤ 100000) (hj : j = (A ++ B).length) (okA_ : okS (sfO 0 A) A.length (A ++ B).length (A ++ B).length (zLB (A ++ B)) (zLM (A ++ B)) = true) (okB_ : okS (sfO A.length B) B.length (A ++ B).length (A ++ B).length (zLB (A ++ B)) (zLM (A ++ B)) = true) (okZ_ : okS (sfX (A ++ B)) (A ++ B).length (A ++ B).length (A ++ B).length (gLB (A ++ B)) (gLM (A ++ B)) = true) (hl1 : A.length ≤ 100000) (hl2 : B.length ≤ 100000)  :
    RunsTo Tryd.prog 9 (headOf Tryd.f9 0) (envAt Tryd.f9.ntmps ([(5, vL 123 4 A.length), (8, vL 126 4 B.length), (11, vL 129 4 (A ++ B).length), (86, vL 154 4 (A ++ B).length), (87, vN (A ++ B).length), (88, vN (j : Nat))])) (Sx.look ((rjS t0 t1 t2 t3 t4 t5 t6 t7 t8 t9 t10 t11 t12 t13 t14 t15 t16 t17 ++ pwF P) ++ (jY2 A B (A ++ B) ++ jwE 154 (A ++ B).length (A ++ B)))) 110 (YES) (Sx.look ([])) 4000 := by
  obtain ⟨p1, p2, p3⟩ := tot_A A B
  obtain ⟨q1, q2, q3⟩ := tot_B A B
  obtain ⟨z1, z2, z3⟩ := tot_Z (A ++ B)
  have c1 := sumE_app rightR (fun e => (e.B.length : Int)) A B
  have c2 := sumE_app (fun e => rightR e && decide (e.K = 2)) (fun e => e.N) A B
  have c3 := sumE_app (fun e => rightR e && decide (e.K = 3)) (fun e => e.N) A B
  have d1 := fun T => sumE_le (p := rightR) (f := fun e => (e.B.length : Int)) (fun e h => by have := right_rng h; omega) T
  have d2 := fun T => sumE_le (p := fun e => rightR e && decide (e.K = 2)) (f := fun e => e.N) (fun e h => by simp only [Bool.and_eq_true] at h; have := right_rng h.1; omega) T
  have d3 := fun T => sumE_le (p := fun e => rightR e && decide (e.K = 3)) (f := fun e => e.N) (fun e h => by simp only [Bool.and_eq_true] at h; have := right_rng h.1; omega) T
  have w1 : IntKind.i64.wrap (sumE rightR (fun e => (e.B.length : Int)) A + sumE rightR (fun e => (e.B.length : Int)) B) = sumE rightR (fun e => (e.B.length : Int)) A + sumE rightR (fun e => (e.B.length : Int)) B := by have := d1 A; have := d1 B; exact wr64 (by omega)
  have w2 : IntKind.i64.wrap (sumE (fun e => rightR e && decide (e.K = 2)) (fun e => e.N) A + sumE (fun e => rightR e && decide (e.K = 2)) (fun e => e.N) B) = sumE (fun e => rightR e && decide (e.K = 2)) (fun e => e.N) A + sumE (fun e => rightR e && decide (e.K = 2)) (fun e => e.N) B := by have := d2 A; have := d2 B; exact wr64 (by omega)
  have w3 : IntKind.i64.wrap (sumE (fun e => rightR e && decide (e.K = 3)) (fun e => e.N) A + sumE (fun e => rightR e && decide (e.K = 3)) (fun e => e.N) B) = sumE (fun e => rightR e && decide (e.K = 3)) (fun e => e.N) A + sumE (fun e => rightR e && decide (e.K = 3)) (fun e => e.N) B := by have := d3 A; have := d3 B; exact wr64 (by omega)
  have hl3 : (A ++ B).length ≤ 200000 := by rw [List.length_append]; omega
  have hl4 : (A ++ B).length ≤ 100000 := hl5
  refine runs_last baseJ3 (Sx.Ends.of (rj6_p0 t0 t1 t2 t3 t4 t5 t6 t7 t8 t9 t10 t11 t12 t13 t14 t15 t16 t17 P A B j) ⟨?oo, ?rr⟩) (by kernel_rfl) rfl (gtL (by decide)) (by decide)
  case oo =>
    refine (okc ?_ (okc ?_ (okc ?_ (okc ?_ (okc ?_ (okc ?_ okn))))))
    all_goals first | (simp only [dT, dF]; omega) | (simp only [p1, p2, p3, q1, q2, q3, z1, z2, z3, c1, c2, c3, w1, w2, w3, beq_self_eq_true]; done) | (simp only [Bool.and_eq_true, decide_eq_true_eq]; first | exact ⟨Nat.le_refl _, by omega, okA_⟩ | exact ⟨Nat.le_refl _, by omega, okB_⟩ | exact ⟨Nat.le_refl _, by omega, okZ_⟩) | (trace_state; sorry)
  case rr =>
    refine ⟨?_, trivial⟩
    simp only [p1, p2, p3, q1, q2, q3, z1, z2, z3, c1, c2, c3, w1, w2, w3, beq_self_eq_true]
    try rfl

end Go.Proofs.YtankmgnjkcgpaaaDoor

set_option linter.unusedSimpArgs false
set_option linter.unusedVariables false
set_option maxRecDepth 100000
namespace Go.Proofs.YtankmgnjkcgpaaaDoor
open Go.Sx RawR

theorem split_cat (c : UInt8) (b : List UInt8) : ∀ a : List UInt8, splitR c (a ++ c :: b) = splitR c a ++ splitR c b
  | [] => by simp [splitR]
  | x :: r => by
    have ih := split_cat c b r
    rw [List.cons_append, splitR, splitR, ih]
    by_cases h : x = c
    · rw [if_pos h, if_pos h]; rfl
    · rw [if_neg h, if_neg h]
      cases hr : splitR c r with
      | nil => exact absurd hr (splitR_ne c r)
      | cons y l => rfl
def allOk (ws : List (List UInt8)) : Bool := ws.all fun l => skipB l || decide (evK l = 16)
def evsOf : List (List UInt8) → List RawR.Ev
  | [] => []
  | l :: r => if skipB l = true then evsOf r else evR l :: evsOf r
theorem evs_app : ∀ a b : List (List UInt8), evsOf (a ++ b) = evsOf a ++ evsOf b
  | [], b => rfl
  | l :: r, b => by
    rw [List.cons_append, evsOf, evsOf, evs_app r b]
    split <;> rfl
theorem evs_len : ∀ ws : List (List UInt8), (evsOf ws).length ≤ ws.length
  | [] => by simp [evsOf]
  | l :: r => by
    have := evs_len r
    rw [evsOf]
    split <;> simp <;> omega
theorem evR_le (l : List UInt8) : (evR l).B.length ≤ 100000 ∧ (evR l).M.length ≤ 100000 := by
  unfold evR
  cases hp : parseR l with
  | none => simp [ev0]
  | some e =>
    have h2 := (line_parse hp).2
    have := right_in h2
    have := right_marks h2
    show e.B.length ≤ 100000 ∧ e.M.length ≤ 100000
    omega
theorem evs_le : ∀ (ws : List (List UInt8)), ∀ e ∈ evsOf ws, e.B.length ≤ 100000 ∧ e.M.length ≤ 100000
  | [], e, h => by simp [evsOf] at h
  | l :: r, e, h => by
    rw [evsOf] at h
    split at h
    · exact evs_le r e h
    · rcases List.mem_cons.1 h with rfl | h
      · exact evR_le l
      · exact evs_le r e h
theorem all_ok : ∀ (ws : List (List UInt8)) (i : Nat) (T : List RawR.Ev), (allOk ws = true → allGo i T ws = (T ++ evsOf ws, 0, 16)) ∧ (allOk ws = false → ∃ n, allGo i T ws = ([], n, 4))
  | [], i, T => ⟨fun _ => by simp [allGo, evsOf], fun h => by simp [allOk] at h⟩
  | l :: r, i, T => by
    have hc : allOk (l :: r) = ((skipB l || decide (evK l = 16)) && allOk r) := rfl
    rw [hc, allGo, evsOf]
    by_cases hs : skipB l = true
    · rw [if_pos hs, if_pos hs, hs, Bool.true_or, Bool.true_and]
      exact all_ok r (i + 1) T
    · have hs' : skipB l = false := by simpa using hs
      rw [if_neg hs, if_neg hs, hs', Bool.false_or]
      by_cases hk : evK l = 16
      · rw [if_pos hk, decide_eq_true hk, Bool.true_and]
        obtain ⟨h1, h2⟩ := all_ok r (i + 1) (T ++ [evR l])
        exact ⟨fun h => by rw [h1 h]; simp, h2⟩
      · rw [if_neg hk, decide_eq_false hk, Bool.false_and]
        exact ⟨(fun h => by cases h), fun _ => ⟨i + 1, rfl⟩⟩
theorem allR_go {a : List UInt8} (h : a.length ≤ 100000) : allR a = allGo 0 [] (splitR 10 a) := if_neg (by omega)
theorem rawJoins_law (t0 t1 t2 t3 t4 t5 t6 t7 t8 t9 t10 t11 t12 t13 t14 t15 t16 t17 : List UInt8) (P : Ix → Int) (a b : List UInt8) (hP : pwOK P = true) : RunsTo Tryd.prog 9 [.code (bodyOf Tryd.f9)] (envOf [vS a, vS b] Tryd.f9.ntmps) (Sx.look ((rjS t0 t1 t2 t3 t4 t5 t6 t7 t8 t9 t10 t11 t12 t13 t14 t15 t16 t17 ++ pwF P) ++ ([]))) 110 (YES) (Sx.look []) 4000 := by
  by_cases h : 2000 < a.length ∨ 2000 < b.length
  · exact rj0 t0 t1 t2 t3 t4 t5 t6 t7 t8 t9 t10 t11 t12 t13 t14 t15 t16 t17 P a b hP h
  have h1 : a.length ≤ 2000 := by omega
  have h2 : b.length ≤ 2000 := by omega
  have e1 := allR_go (a := a) (by omega)
  have e2 := allR_go (a := b) (by omega)
  have e3 := allR_go (a := (a ++ [10]) ++ b) (by simp; omega)
  rw [show (a ++ [10]) ++ b = a ++ 10 :: b by simp, split_cat] at e3
  rw [show a ++ 10 :: b = (a ++ [10]) ++ b by simp] at e3
  have hl1 := evs_len (splitR 10 a)
  have hl2 := evs_len (splitR 10 b)
  rw [splitR_len] at hl1 hl2
  have hc1 : a.count 10 ≤ a.length := List.count_le_length
  have hc2 : b.count 10 ≤ b.length := List.count_le_length
  have m1 := evs_le (splitR 10 a)
  have m2 := evs_le (splitR 10 b)
  obtain ⟨a1, a2⟩ := all_ok (splitR 10 a) 0 []
  obtain ⟨b1, b2⟩ := all_ok (splitR 10 b) 0 []
  obtain ⟨c1, c2⟩ := all_ok (splitR 10 a ++ splitR 10 b) 0 []
  have hand : allOk (splitR 10 a ++ splitR 10 b) = (allOk (splitR 10 a) && allOk (splitR 10 b)) := List.all_append
  rw [hand] at c1 c2
  rw [evs_app] at c1
  cases ha : allOk (splitR 10 a) with
  | false =>
    obtain ⟨n1, q1⟩ := a2 ha
    obtain ⟨n3, q3⟩ := c2 (by rw [ha]; rfl)
    rw [q1] at e1
    rw [q3] at e3
    cases hb : allOk (splitR 10 b) with
    | false =>
      obtain ⟨n2, q2⟩ := b2 hb
      rw [q2] at e2
      exact rj1 t0 t1 t2 t3 t4 t5 t6 t7 t8 t9 t10 t11 t12 t13 t14 t15 t16 t17 P a b [] [] [] n1 n2 n3 4 hP h1 h2 e1 e2 e3 rfl
    | true =>
      rw [b1 hb] at e2
      exact rj1 t0 t1 t2 t3 t4 t5 t6 t7 t8 t9 t10 t11 t12 t13 t14 t15 t16 t17 P a b [] _ [] n1 0 n3 16 hP h1 h2 e1 e2 e3 rfl
  | true =>
    rw [a1 ha, List.nil_append] at e1
    cases hb : allOk (splitR 10 b) with
    | false =>
      obtain ⟨n2, q2⟩ := b2 hb
      obtain ⟨n3, q3⟩ := c2 (by rw [ha, hb]; rfl)
      rw [q2] at e2
      rw [q3] at e3
      exact rj2 t0 t1 t2 t3 t4 t5 t6 t7 t8 t9 t10 t11 t12 t13 t14 t15 t16 t17 P a b _ [] [] 0 n2 n3 hP h1 h2 e1 e2 e3 rfl
    | true =>
      rw [b1 hb, List.nil_append] at e2
      rw [c1 (by rw [ha, hb]; rfl), List.nil_append] at e3
      generalize evsOf (splitR 10 a) = A at e1 e3 hl1 m1
      generalize evsOf (splitR 10 b) = B at e2 e3 hl2 m2
      refine rj3 t0 t1 t2 t3 t4 t5 t6 t7 t8 t9 t10 t11 t12 t13 t14 t15 t16 t17 P a b A B (A ++ B) 0 0 0 hP h1 h2 e1 e2 e3 (by rw [List.length_append]) (by omega) (by omega) ?_
      refine runs_join A B (A ++ B) (X := (rjS t0 t1 t2 t3 t4 t5 t6 t7 t8 t9 t10 t11 t12 t13 t14 t15 t16 t17 ++ pwF P)) (by kernel_rfl) (by omega) (fun t s hs l hl => ?_) ?_
      · rw [nth_eq] at hs
        simp only [envAt, List.getElem?_map, Option.map_eq_some_iff] at hs
        obtain ⟨u, hu, rfl⟩ := hs
        simp only [slotAt] at hl
        repeat' split at hl
        all_goals (simp [SV.labs, Tr.labs] at hl; try omega)
      refine rj4 t0 t1 t2 t3 t4 t5 t6 t7 t8 t9 t10 t11 t12 t13 t14 t15 t16 t17 P A B (by omega) (by omega) ?_
      have hlz : (A ++ B).length ≤ 100000 := by rw [List.length_append]; omega
      have mz : ∀ e ∈ A ++ B, e.B.length ≤ 100000 ∧ e.M.length ≤ 100000 := fun e he => by
        rcases List.mem_append.1 he with he | he
        · exact m1 e he
        · exact m2 e he
      suffices q : ∀ (d j : Nat), j + d = (A ++ B).length → RunsTo Tryd.prog 9 (headOf Tryd.f9 0) (envAt Tryd.f9.ntmps ([(5, vL 123 4 A.length), (8, vL 126 4 B.length), (11, vL 129 4 (A ++ B).length), (86, vL 154 4 (A ++ B).length), (87, vN (A ++ B).length), (88, vN (j : Nat))])) (Sx.look ((rjS t0 t1 t2 t3 t4 t5 t6 t7 t8 t9 t10 t11 t12 t13 t14 t15 t16 t17 ++ pwF P) ++ (jY2 A B (A ++ B) ++ jwE 154 (A ++ B).length (A ++ B)))) 110 (YES) (Sx.look []) 4000 from q (A ++ B).length 0 (by omega)
      intro d
      induction d with
      | zero => intro j hj; exact rj6 t0 t1 t2 t3 t4 t5 t6 t7 t8 t9 t10 t11 t12 t13 t14 t15 t16 t17 P A B j hlz (by omega) (okA m1) (okB m2) (okZ mz) (by omega) (by omega)
      | succ d ih =>
        intro j hj
        refine rj5 t0 t1 t2 t3 t4 t5 t6 t7 t8 t9 t10 t11 t12 t13 t14 t15 t16 t17 P A B j ((A ++ B).getD j ev0) (by omega) rfl ?_ (by omega) (by omega) (ih (j + 1) (by omega))
        exact (mz _ (getD_mem' (by omega))).2
theorem rawJoins_lawT (t0 t1 t2 t3 t4 t5 t6 t7 t8 t9 t10 t11 t12 t13 t14 t15 t16 t17 : List UInt8) (a b : List UInt8) : RunsTo Tryd.prog 9 [.code (bodyOf Tryd.f9)] (envOf [vS a, vS b] Tryd.f9.ntmps) (Sx.look ((rjS t0 t1 t2 t3 t4 t5 t6 t7 t8 t9 t10 t11 t12 t13 t14 t15 t16 t17 ++ pwF powF) ++ ([]))) 110 (YES) (Sx.look []) 4000 :=
  rawJoins_law t0 t1 t2 t3 t4 t5 t6 t7 t8 t9 t10 t11 t12 t13 t14 t15 t16 t17 powF a b powF_ok

end Go.Proofs.YtankmgnjkcgpaaaDoor

