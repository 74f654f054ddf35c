/- Trace: the law TraceTells: the counts; the end. -/
import Derived.Test.YtaleenklamognaaDoorZdC
import Derived.Test.YtaleenklamognaaDoorZeC
import Derived.Test.YtaleenklamognaaDoorSyY
import Derived.Test.YtaleenklamognaaDoorSyPl
import Derived.Lay
import Derived.Test.YtaleenklamognaaDoorTie
import Derived.Test.YtaleenklamognaaDoorCards
set_option linter.unusedSimpArgs false
set_option linter.unusedVariables false
set_option maxRecDepth 100000
namespace Go.Proofs.YtaleenklamognaaDoor
open Go.Sx

open WordR
theorem tr1_p0 (t0 t1 t2 t3 t4 t5 t6 t7 t8 t9 t10 t11 t12 t13 t14 t15 : List UInt8) (r r' : RF) (n m k : Nat) (T U : Ix → List UInt8) (F : Ix → Int) (sb : Bool) (I : List Nat) (w : List UInt8) (C : Ix → Int) (i : Nat) :
    isMore (evTill Tryd.prog sumsTT 900 (behind Tryd.f8 1) 900 8 (headOf Tryd.f8 0) (envAt Tryd.f8.ntmps ([(2, vL 104 1 k), (7, vL 111 13 n), (9, vL 112 13 m), (11, vB sb), (12, vL 113 13 (I).length), (13, vS (w)), (14, vP 114), (50, vL 111 13 n), (51, vN n), (52, vN (i : Nat))])) ((tqS t0 t1 t2 t3 t4 t5 t6 t7 t8 t9 t10 t11 t12 t13 t14 t15 ++ (rfE false 100 101 r.src n ++ famE 101 n (fun i => r.L [i]) T) ++ (rfE false 102 103 r'.src m ++ famE 103 m (fun i => r'.L [i]) U) ++ [⟨104, false, none, 1, .ta k (.vi .i64 F)⟩]) ++ (enE true 111 101 r.src.err n ++ (enE true 112 103 r'.src.err m ++ (rfE true 113 101 (r.src.err.num.sel (I)) (I).length ++ [⟨114, true, none, 133000012, .ta 12 (.vi .i64 (C))⟩])))) ⟨[.s false], 160⟩) (moreP (headOf Tryd.f8 1) ([]) Tryd.f8.ntmps ([(2, vL 104 1 k), (7, vL 111 13 n), (9, vL 112 13 m), (11, vB sb), (12, vL 113 13 I.length), (13, vS w), (99, .agg (.ta 12 (.vi .i64 C))), (100, vN (0 : Nat))]) (enE true 111 101 r.src.err n ++ (enE true 112 103 r'.src.err m ++ rfE true 113 101 (r.src.err.num.sel I) I.length)) 30000) =
    (OkL [(decide ((↑i : Int) < (↑n : Int)), false)] ∧ headOf Tryd.f8 (1 : Nat) = headOf Tryd.f8 (1 : Nat) ∧ (((0 : Nat) = (0 : Nat) ∧ k = k) ∧ ((0 : Nat) = (0 : Nat) ∧ n = n) ∧ ((0 : Nat) = (0 : Nat) ∧ m = m) ∧ sb = sb ∧ ((0 : Nat) = (0 : Nat) ∧ I.length = I.length) ∧ w = w ∧ ((12 : Nat) = (12 : Nat) ∧ ∀ (i : Nat), i < (12 : Nat) → C [i] = C [i]) ∧ (↑(0 : Nat) : Int) = (0 : Int)) ∧ (n = n ∧ (∀ (i : Nat), i < n → r.1 [i] = r.1 [i]) ∧ (∀ (i : Nat), i < n → r.2 [i] = r.2 [i]) ∧ (∀ (i : Nat), i < n → r.3 [i] = r.3 [i]) ∧ (∀ (i : Nat), i < n → r.4 [i] = r.4 [i]) ∧ ((∀ (i : Nat), i < n → i = i) ∧ ∀ (i : Nat), i < n → r.6 [i] = r.6 [i]) ∧ ((∀ (i : Nat), i < n → r.7 [i] = r.7 [i]) ∧ (∀ (i : Nat), i < n → r.8 [i] = r.8 [i]) ∧ (∀ (i : Nat), i < n → r.9 [i] = r.9 [i]) ∧ (∀ (i : Nat), i < n → r.10 [i] = r.10 [i]) ∧ ∀ (i : Nat), i < n → r.11 [i] = r.11 [i]) ∧ (∀ (i : Nat), i < n → r.12 [i] = r.12 [i]) ∧ (∀ (i : Nat), i < n → r.13 [i] = r.13 [i]) ∧ ∀ (i : Nat), i < n → errI (r.15 [i]) = errI (r.15 [i])) ∧ (m = m ∧ (∀ (i : Nat), i < m → r'.1 [i] = r'.1 [i]) ∧ (∀ (i : Nat), i < m → r'.2 [i] = r'.2 [i]) ∧ (∀ (i : Nat), i < m → r'.3 [i] = r'.3 [i]) ∧ (∀ (i : Nat), i < m → r'.4 [i] = r'.4 [i]) ∧ ((∀ (i : Nat), i < m → i = i) ∧ ∀ (i : Nat), i < m → r'.6 [i] = r'.6 [i]) ∧ ((∀ (i : Nat), i < m → r'.7 [i] = r'.7 [i]) ∧ (∀ (i : Nat), i < m → r'.8 [i] = r'.8 [i]) ∧ (∀ (i : Nat), i < m → r'.9 [i] = r'.9 [i]) ∧ (∀ (i : Nat), i < m → r'.10 [i] = r'.10 [i]) ∧ ∀ (i : Nat), i < m → r'.11 [i] = r'.11 [i]) ∧ (∀ (i : Nat), i < m → r'.12 [i] = r'.12 [i]) ∧ (∀ (i : Nat), i < m → r'.13 [i] = r'.13 [i]) ∧ ∀ (i : Nat), i < m → errI (r'.15 [i]) = errI (r'.15 [i])) ∧ I.length = I.length ∧ (∀ (i : Nat), i < I.length → ixI I r.1 [i] = ixI I r.1 [i]) ∧ (∀ (i : Nat), i < I.length → ixI I r.2 [i] = ixI I r.2 [i]) ∧ (∀ (i : Nat), i < I.length → ixI I r.3 [i] = ixI I r.3 [i]) ∧ (∀ (i : Nat), i < I.length → ixI I r.4 [i] = ixI I r.4 [i]) ∧ ((∀ (i : Nat), i < I.length → ixI I (fun is => List.headD is (0 : Nat)) [i] = ixI I (fun is => List.headD is (0 : Nat)) [i]) ∧ ∀ (i : Nat), i < I.length → ixI I r.6 [i] = ixI I r.6 [i]) ∧ ((∀ (i : Nat), i < I.length → ixI I r.7 [i] = ixI I r.7 [i]) ∧ (∀ (i : Nat), i < I.length → ixI I r.8 [i] = ixI I r.8 [i]) ∧ (∀ (i : Nat), i < I.length → ixI I r.9 [i] = ixI I r.9 [i]) ∧ (∀ (i : Nat), i < I.length → ixI I r.10 [i] = ixI I r.10 [i]) ∧ ∀ (i : Nat), i < I.length → ixI I r.11 [i] = ixI I r.11 [i]) ∧ (∀ (i : Nat), i < I.length → ixI I r.12 [i] = ixI I r.12 [i]) ∧ (∀ (i : Nat), i < I.length → ixI I r.13 [i] = ixI I r.13 [i]) ∧ ∀ (i : Nat), i < I.length → ixI I (fun is => xnum (errI (r.15 is))) [i] = ixI I (fun is => xnum (errI (r.15 is))) [i]) := by kernel_rfl

set_option maxHeartbeats 4000000 in
theorem tr1 (t0 t1 t2 t3 t4 t5 t6 t7 t8 t9 t10 t11 t12 t13 t14 t15 : List UInt8) (r r' : RF) (n m k : Nat) (T U : Ix → List UInt8) (F : Ix → Int) (sb : Bool) (I : List Nat) (w : List UInt8) (C : Ix → Int) (i : Nat) (hi : i = n)  (next : RunsTo Tryd.prog 8 (headOf Tryd.f8 1) (envAt Tryd.f8.ntmps ([(2, vL 104 1 k), (7, vL 111 13 n), (9, vL 112 13 m), (11, vB sb), (12, vL 113 13 I.length), (13, vS w), (99, .agg (.ta 12 (.vi .i64 C))), (100, vN (0 : Nat))])) (Sx.look ((tqS t0 t1 t2 t3 t4 t5 t6 t7 t8 t9 t10 t11 t12 t13 t14 t15 ++ (rfE false 100 101 r.src n ++ famE 101 n (fun i => r.L [i]) T) ++ (rfE false 102 103 r'.src m ++ famE 103 m (fun i => r'.L [i]) U) ++ [⟨104, false, none, 1, .ta k (.vi .i64 F)⟩]) ++ (enE true 111 101 r.src.err n ++ (enE true 112 103 r'.src.err m ++ rfE true 113 101 (r.src.err.num.sel I) I.length)))) 110 (YES) (Sx.look []) 30000) :
    RunsTo Tryd.prog 8 (headOf Tryd.f8 0) (envAt Tryd.f8.ntmps ([(2, vL 104 1 k), (7, vL 111 13 n), (9, vL 112 13 m), (11, vB sb), (12, vL 113 13 (I).length), (13, vS (w)), (14, vP 114), (50, vL 111 13 n), (51, vN n), (52, vN (i : Nat))])) (Sx.look ((tqS t0 t1 t2 t3 t4 t5 t6 t7 t8 t9 t10 t11 t12 t13 t14 t15 ++ (rfE false 100 101 r.src n ++ famE 101 n (fun i => r.L [i]) T) ++ (rfE false 102 103 r'.src m ++ famE 103 m (fun i => r'.L [i]) U) ++ [⟨104, false, none, 1, .ta k (.vi .i64 F)⟩]) ++ (enE true 111 101 r.src.err n ++ (enE true 112 103 r'.src.err m ++ (rfE true 113 101 (r.src.err.num.sel (I)) (I).length ++ [⟨114, true, none, 133000012, .ta 12 (.vi .i64 (C))⟩]))))) 110 (YES) (Sx.look []) 30000 := by
  refine runs_more baseTT (More.of (tr1_p0 t0 t1 t2 t3 t4 t5 t6 t7 t8 t9 t10 t11 t12 t13 t14 t15 r r' n m k T U F sb I w C i) ⟨?oo, rfl, ?rr⟩) (by kernel_rfl) (by kernel_rfl) rfl (gtL (by decide)) (by decide) next
  case oo =>
    clear next
    refine (okc ?_ okn)
    all_goals ((try simp (disch := omega) only [SS]); first | done | omega | assumption | (simp (disch := omega) only [SS] at *; first | done | omega | assumption) | (simp_all; done))
  case rr =>
    clear next
    try simp (disch := omega) only [SS]
    repeat' apply And.intro
    all_goals first | exact True.intro | with_reducible rfl | omega | (intros; first | exact True.intro | with_reducible rfl | omega | (simp_all; done)) | (simp_all; done) | rfl

theorem tr2_p0 (t0 t1 t2 t3 t4 t5 t6 t7 t8 t9 t10 t11 t12 t13 t14 t15 : List UInt8) (r r' : RF) (n m k : Nat) (T U : Ix → List UInt8) (F : Ix → Int) (sb : Bool) (I : List Nat) (w : List UInt8) (C : Ix → Int) (q : Nat) :
    isMore (evTill Tryd.prog sumsTT 900 (behind Tryd.f8 1) 900 8 (headOf Tryd.f8 1) (envAt Tryd.f8.ntmps ([(2, vL 104 1 k), (7, vL 111 13 n), (9, vL 112 13 m), (11, vB sb), (12, vL 113 13 I.length), (13, vS w), (99, .agg (.ta 12 (.vi .i64 C))), (100, vN (q : Nat))])) ((tqS t0 t1 t2 t3 t4 t5 t6 t7 t8 t9 t10 t11 t12 t13 t14 t15 ++ (rfE false 100 101 r.src n ++ famE 101 n (fun i => r.L [i]) T) ++ (rfE false 102 103 r'.src m ++ famE 103 m (fun i => r'.L [i]) U) ++ [⟨104, false, none, 1, .ta k (.vi .i64 F)⟩]) ++ (enE true 111 101 r.src.err n ++ (enE true 112 103 r'.src.err m ++ rfE true 113 101 (r.src.err.num.sel I) I.length))) ⟨[.s true, .s true, .s true, .s false], 160⟩) (moreP (headOf Tryd.f8 1) ([]) Tryd.f8.ntmps ([(2, vL 104 1 k), (7, vL 111 13 n), (9, vL 112 13 m), (11, vB sb), (12, vL 113 13 I.length), (13, vS w), (99, .agg (.ta 12 (.vi .i64 C))), (100, vN (q + 1 : Nat))]) (enE true 111 101 r.src.err n ++ (enE true 112 103 r'.src.err m ++ rfE true 113 101 (r.src.err.num.sel I) I.length)) 30000) =
    (OkL [(decide ((↑q : Int) < (12 : Int)), true), (decide ((0 : Int) ≤ (↑q : Int) ∧ (↑q : Int) < (↑(12 : Nat) : Int)), true), (decide (n ≤ (1000 : Nat)) && (decide (n ≤ n) && (decide ((1 : Nat) ≤ (1 : Nat)) && decide ((1 : Nat) ≤ (100000 : Nat)))), true), ((↑(onI (1 : Nat) (fun is => (↑q : Int)) r.1 n).length : Int) != C [(↑q : Int).toNat], false)] ∧ headOf Tryd.f8 (1 : Nat) = headOf Tryd.f8 (1 : Nat) ∧ (((0 : Nat) = (0 : Nat) ∧ k = k) ∧ ((0 : Nat) = (0 : Nat) ∧ n = n) ∧ ((0 : Nat) = (0 : Nat) ∧ m = m) ∧ sb = sb ∧ ((0 : Nat) = (0 : Nat) ∧ I.length = I.length) ∧ w = w ∧ ((12 : Nat) = (12 : Nat) ∧ ∀ (i : Nat), i < (12 : Nat) → C [i] = C [i]) ∧ (↑(q + (1 : Nat)) : Int) = IntKind.i64.wrap ((↑q : Int) + (1 : Int))) ∧ (n = n ∧ (∀ (i : Nat), i < n → r.1 [i] = r.1 [i]) ∧ (∀ (i : Nat), i < n → r.2 [i] = r.2 [i]) ∧ (∀ (i : Nat), i < n → r.3 [i] = r.3 [i]) ∧ (∀ (i : Nat), i < n → r.4 [i] = r.4 [i]) ∧ ((∀ (i : Nat), i < n → i = i) ∧ ∀ (i : Nat), i < n → r.6 [i] = r.6 [i]) ∧ ((∀ (i : Nat), i < n → r.7 [i] = r.7 [i]) ∧ (∀ (i : Nat), i < n → r.8 [i] = r.8 [i]) ∧ (∀ (i : Nat), i < n → r.9 [i] = r.9 [i]) ∧ (∀ (i : Nat), i < n → r.10 [i] = r.10 [i]) ∧ ∀ (i : Nat), i < n → r.11 [i] = r.11 [i]) ∧ (∀ (i : Nat), i < n → r.12 [i] = r.12 [i]) ∧ (∀ (i : Nat), i < n → r.13 [i] = r.13 [i]) ∧ ∀ (i : Nat), i < n → errI (r.15 [i]) = errI (r.15 [i])) ∧ (m = m ∧ (∀ (i : Nat), i < m → r'.1 [i] = r'.1 [i]) ∧ (∀ (i : Nat), i < m → r'.2 [i] = r'.2 [i]) ∧ (∀ (i : Nat), i < m → r'.3 [i] = r'.3 [i]) ∧ (∀ (i : Nat), i < m → r'.4 [i] = r'.4 [i]) ∧ ((∀ (i : Nat), i < m → i = i) ∧ ∀ (i : Nat), i < m → r'.6 [i] = r'.6 [i]) ∧ ((∀ (i : Nat), i < m → r'.7 [i] = r'.7 [i]) ∧ (∀ (i : Nat), i < m → r'.8 [i] = r'.8 [i]) ∧ (∀ (i : Nat), i < m → r'.9 [i] = r'.9 [i]) ∧ (∀ (i : Nat), i < m → r'.10 [i] = r'.10 [i]) ∧ ∀ (i : Nat), i < m → r'.11 [i] = r'.11 [i]) ∧ (∀ (i : Nat), i < m → r'.12 [i] = r'.12 [i]) ∧ (∀ (i : Nat), i < m → r'.13 [i] = r'.13 [i]) ∧ ∀ (i : Nat), i < m → errI (r'.15 [i]) = errI (r'.15 [i])) ∧ I.length = I.length ∧ (∀ (i : Nat), i < I.length → ixI I r.1 [i] = ixI I r.1 [i]) ∧ (∀ (i : Nat), i < I.length → ixI I r.2 [i] = ixI I r.2 [i]) ∧ (∀ (i : Nat), i < I.length → ixI I r.3 [i] = ixI I r.3 [i]) ∧ (∀ (i : Nat), i < I.length → ixI I r.4 [i] = ixI I r.4 [i]) ∧ ((∀ (i : Nat), i < I.length → ixI I (fun is => List.headD is (0 : Nat)) [i] = ixI I (fun is => List.headD is (0 : Nat)) [i]) ∧ ∀ (i : Nat), i < I.length → ixI I r.6 [i] = ixI I r.6 [i]) ∧ ((∀ (i : Nat), i < I.length → ixI I r.7 [i] = ixI I r.7 [i]) ∧ (∀ (i : Nat), i < I.length → ixI I r.8 [i] = ixI I r.8 [i]) ∧ (∀ (i : Nat), i < I.length → ixI I r.9 [i] = ixI I r.9 [i]) ∧ (∀ (i : Nat), i < I.length → ixI I r.10 [i] = ixI I r.10 [i]) ∧ ∀ (i : Nat), i < I.length → ixI I r.11 [i] = ixI I r.11 [i]) ∧ (∀ (i : Nat), i < I.length → ixI I r.12 [i] = ixI I r.12 [i]) ∧ (∀ (i : Nat), i < I.length → ixI I r.13 [i] = ixI I r.13 [i]) ∧ ∀ (i : Nat), i < I.length → ixI I (fun is => xnum (errI (r.15 is))) [i] = ixI I (fun is => xnum (errI (r.15 is))) [i]) := by kernel_rfl

set_option maxHeartbeats 4000000 in
theorem tr2 (t0 t1 t2 t3 t4 t5 t6 t7 t8 t9 t10 t11 t12 t13 t14 t15 : List UInt8) (r r' : RF) (n m k : Nat) (T U : Ix → List UInt8) (F : Ix → Int) (sb : Bool) (I : List Nat) (w : List UInt8) (C : Ix → Int) (q : Nat) (hq : q < 12) (hn : n ≤ 20) (hc : C [q] = ((onI 1 (fun _ => (q : Int)) r.K n).length : Int))  (next : RunsTo Tryd.prog 8 (headOf Tryd.f8 1) (envAt Tryd.f8.ntmps ([(2, vL 104 1 k), (7, vL 111 13 n), (9, vL 112 13 m), (11, vB sb), (12, vL 113 13 I.length), (13, vS w), (99, .agg (.ta 12 (.vi .i64 C))), (100, vN (q + 1 : Nat))])) (Sx.look ((tqS t0 t1 t2 t3 t4 t5 t6 t7 t8 t9 t10 t11 t12 t13 t14 t15 ++ (rfE false 100 101 r.src n ++ famE 101 n (fun i => r.L [i]) T) ++ (rfE false 102 103 r'.src m ++ famE 103 m (fun i => r'.L [i]) U) ++ [⟨104, false, none, 1, .ta k (.vi .i64 F)⟩]) ++ (enE true 111 101 r.src.err n ++ (enE true 112 103 r'.src.err m ++ rfE true 113 101 (r.src.err.num.sel I) I.length)))) 110 (YES) (Sx.look []) 30000) :
    RunsTo Tryd.prog 8 (headOf Tryd.f8 1) (envAt Tryd.f8.ntmps ([(2, vL 104 1 k), (7, vL 111 13 n), (9, vL 112 13 m), (11, vB sb), (12, vL 113 13 I.length), (13, vS w), (99, .agg (.ta 12 (.vi .i64 C))), (100, vN (q : Nat))])) (Sx.look ((tqS t0 t1 t2 t3 t4 t5 t6 t7 t8 t9 t10 t11 t12 t13 t14 t15 ++ (rfE false 100 101 r.src n ++ famE 101 n (fun i => r.L [i]) T) ++ (rfE false 102 103 r'.src m ++ famE 103 m (fun i => r'.L [i]) U) ++ [⟨104, false, none, 1, .ta k (.vi .i64 F)⟩]) ++ (enE true 111 101 r.src.err n ++ (enE true 112 103 r'.src.err m ++ rfE true 113 101 (r.src.err.num.sel I) I.length)))) 110 (YES) (Sx.look []) 30000 := by
  have hw : IntKind.i64.wrap ((q : Int) + 1) = ((q + 1 : Nat) : Int) := by rw [wr64 (by omega)]; rfl
  refine runs_more baseTT (More.of (tr2_p0 t0 t1 t2 t3 t4 t5 t6 t7 t8 t9 t10 t11 t12 t13 t14 t15 r r' n m k T U F sb I w C q) ⟨?oo, rfl, ?rr⟩) (by kernel_rfl) (by kernel_rfl) rfl (gtL (by decide)) (by decide) next
  case oo =>
    clear next
    refine (okc ?_ (okc ?_ (okc ?_ (okc ?_ okn))))
    all_goals first | omega | exact hc | exact hc.symm | (simp only [onI, RF.src, RF.err, Nat.zero_add] at *; first | omega | (simp; omega) | (simp_all; done)) | (simp (disch := omega) only [SS, hw, hc]; first | done | omega | exact hc | assumption) | (simp_all; done) | (simp_all; omega)
  case rr =>
    clear next
    try simp (disch := omega) only [SS, hw, hc]
    repeat' apply And.intro
    all_goals first | exact True.intro | with_reducible rfl | omega | (intros; first | exact True.intro | with_reducible rfl | omega | (simp_all; done)) | (simp_all; done) | rfl

theorem tr3_p0 (t0 t1 t2 t3 t4 t5 t6 t7 t8 t9 t10 t11 t12 t13 t14 t15 : List UInt8) (r r' : RF) (n m k : Nat) (T U : Ix → List UInt8) (F : Ix → Int) (sb : Bool) (I : List Nat) (w : List UInt8) (C : Ix → Int) (q : Nat) :
    isEnd (evTill Tryd.prog sumsTT 900 (99) 900 8 (headOf Tryd.f8 1) (envAt Tryd.f8.ntmps ([(2, vL 104 1 k), (7, vL 111 13 n), (9, vL 112 13 m), (11, vB sb), (12, vL 113 13 I.length), (13, vS w), (99, .agg (.ta 12 (.vi .i64 C))), (100, vN (q : Nat))])) ((tqS t0 t1 t2 t3 t4 t5 t6 t7 t8 t9 t10 t11 t12 t13 t14 t15 ++ (rfE false 100 101 r.src n ++ famE 101 n (fun i => r.L [i]) T) ++ (rfE false 102 103 r'.src m ++ famE 103 m (fun i => r'.L [i]) U) ++ [⟨104, false, none, 1, .ta k (.vi .i64 F)⟩]) ++ (enE true 111 101 r.src.err n ++ (enE true 112 103 r'.src.err m ++ rfE true 113 101 (r.src.err.num.sel I) I.length))) ⟨[.s false, .s true, .s true, .s true, .s true, .s true, .s true], 160⟩) (endP ([]) (YES) ([]) 30000) =
    (OkL [(decide ((↑q : Int) < (12 : Int)), false), (decide (n ≤ (100000 : Nat)) && (decide (n ≤ n) && (decide (m ≤ m) && ((okM (fun is => List.headD is (0 : Nat)) r.6 n n fun i => r.6 [i]) && okM (fun is => List.headD is (0 : Nat)) r'.6 m m fun i => r'.6 [i]))), true), ((n == m && (List.range n).all fun i => sameAt { K := r.1, N := r.2, C := r.3, X := r.4, M := fun is => List.headD is (0 : Nat), L := r.6, nk := r.7, nc := r.8, ns := r.9, no := r.10, nb := r.11, V := r.12, O := r.13, E := fun is => errI (r.15 is), B := fun x => (0 : Int) } { K := r'.1, N := r'.2, C := r'.3, X := r'.4, M := fun is => List.headD is (0 : Nat), L := r'.6, nk := r'.7, nc := r'.8, ns := r'.9, no := r'.10, nb := r'.11, V := r'.12, O := r'.13, E := fun is => errI (r'.15 is), B := fun x => (0 : Int) } T U i i) == sb, true), (decide (n ≤ (1000 : Nat)) && (decide (n ≤ n) && (decide (k ≤ k) && decide (k ≤ (100000 : Nat)))), true), (decide ((onI k F r.1 n).length ≤ (100000 : Nat)) && (decide ((onI k F r.1 n).length ≤ (onI k F r.1 n).length) && (decide (I.length ≤ I.length) && ((okM (ixI (onI k F r.1 n) fun is => List.headD is (0 : Nat)) (ixI (onI k F r.1 n) r.6) (onI k F r.1 n).length n fun i => r.6 [i]) && okM (ixI I fun is => List.headD is (0 : Nat)) (ixI I r.6) I.length n fun i => r.6 [i]))), true), ((onI k F r.1 n).length == I.length && (List.range (onI k F r.1 n).length).all fun i => sameAw { K := ixI (onI k F r.1 n) r.1, N := ixI (onI k F r.1 n) r.2, C := ixI (onI k F r.1 n) r.3, X := ixI (onI k F r.1 n) r.4, M := ixI (onI k F r.1 n) fun is => List.headD is (0 : Nat), L := ixI (onI k F r.1 n) r.6, nk := ixI (onI k F r.1 n) r.7, nc := ixI (onI k F r.1 n) r.8, ns := ixI (onI k F r.1 n) r.9, no := ixI (onI k F r.1 n) r.10, nb := ixI (onI k F r.1 n) r.11, V := ixI (onI k F r.1 n) r.12, O := ixI (onI k F r.1 n) r.13, E := ixI (onI k F r.1 n) fun is => errI (r.15 is), B := fun x => (0 : Int) } { K := ixI I r.1, N := ixI I r.2, C := ixI I r.3, X := ixI I r.4, M := ixI I fun is => List.headD is (0 : Nat), L := ixI I r.6, nk := ixI I r.7, nc := ixI I r.8, ns := ixI I r.9, no := ixI I r.10, nb := ixI I r.11, V := ixI I r.12, O := ixI I r.13, E := fun x => (0 : Nat), B := ixI I fun is => xnum (errI (r.15 is)) } T T i i, true), (decide (n ≤ (1000 : Nat)) && (decide (n ≤ n) && lowX r.4 n), true)] ∧ true = (sdT r.4 (onI (1 : Nat) (fun x => (1 : Int)) r.1 n) (onI (1 : Nat) (fun x => (1 : Int)) r.1 n).length == w) ∧ True) := by kernel_rfl

set_option maxHeartbeats 4000000 in
theorem tr3 (t0 t1 t2 t3 t4 t5 t6 t7 t8 t9 t10 t11 t12 t13 t14 t15 : List UInt8) (r r' : RF) (n m k : Nat) (T U : Ix → List UInt8) (F : Ix → Int) (sb : Bool) (I : List Nat) (w : List UInt8) (C : Ix → Int) (q : Nat) (hq : q = 12) (hn : n ≤ 20) (hm : m ≤ 20) (hk : k ≤ 10) (o1 : okM r.src.M r.L n n (fun i => r.L [i]) = true) (o2 : okM r'.src.M r'.L m m (fun i => r'.L [i]) = true) (hx : lowX r.X n = true) (hs : ((n == m) && (List.range n).all fun i => sameAt r.src.err r'.src.err T U i i) = sb) (hI : onI k F r.K n = I) (hIl : I.length ≤ 20) (o3 : okM (r.src.sel I).M (r.src.sel I).L I.length n (fun i => r.L [i]) = true) (o4 : okM (r.src.sel I).M (r.src.sel I).L I.length n (fun i => r.L [i]) = true) (ht : ((List.range I.length).all fun i => sameAw (r.src.err.sel I) (r.src.err.num.sel I) T T i i) = true) (hd : sdT r.X (onI 1 (fun _ => 1) r.K n) (onI 1 (fun _ => 1) r.K n).length = w)  :
    RunsTo Tryd.prog 8 (headOf Tryd.f8 1) (envAt Tryd.f8.ntmps ([(2, vL 104 1 k), (7, vL 111 13 n), (9, vL 112 13 m), (11, vB sb), (12, vL 113 13 I.length), (13, vS w), (99, .agg (.ta 12 (.vi .i64 C))), (100, vN (q : Nat))])) (Sx.look ((tqS t0 t1 t2 t3 t4 t5 t6 t7 t8 t9 t10 t11 t12 t13 t14 t15 ++ (rfE false 100 101 r.src n ++ famE 101 n (fun i => r.L [i]) T) ++ (rfE false 102 103 r'.src m ++ famE 103 m (fun i => r'.L [i]) U) ++ [⟨104, false, none, 1, .ta k (.vi .i64 F)⟩]) ++ (enE true 111 101 r.src.err n ++ (enE true 112 103 r'.src.err m ++ rfE true 113 101 (r.src.err.num.sel I) I.length)))) 110 (YES) (Sx.look ([])) 30000 := by
  refine runs_last baseTT (Sx.Ends.of (tr3_p0 t0 t1 t2 t3 t4 t5 t6 t7 t8 t9 t10 t11 t12 t13 t14 t15 r r' n m k T U F sb I w C q) ⟨?oo, ?rr⟩) (by kernel_rfl) rfl (gtL (by decide)) (by decide)
  case oo =>
    refine (okc ?_ (okc ?_ (okc ?_ (okc ?_ (okc ?_ (okc ?_ (okc ?_ okn)))))))
    · exact decide_eq_false (by omega)
    · simp only [Bool.and_eq_true, decide_eq_true_eq]; exact ⟨by omega, Nat.le_refl _, Nat.le_refl _, o1, o2⟩
    · exact beq_iff_eq.2 hs
    · simp only [Bool.and_eq_true, decide_eq_true_eq]; exact ⟨by omega, Nat.le_refl _, Nat.le_refl _, by omega⟩
    · rw [hI]; simp only [Bool.and_eq_true, decide_eq_true_eq]; exact ⟨by omega, Nat.le_refl _, Nat.le_refl _, o3, o3⟩
    · rw [hI, Bool.and_eq_true]; exact ⟨beq_self_eq_true _, ht⟩
    · simp only [Bool.and_eq_true, decide_eq_true_eq]; exact ⟨by omega, Nat.le_refl _, hx⟩
  case rr =>
    exact ⟨(beq_iff_eq.2 hd).symm, trivial⟩

end Go.Proofs.YtaleenklamognaaDoor

set_option linter.unusedSimpArgs false
set_option linter.unusedVariables false
set_option maxRecDepth 100000
namespace Go.Proofs.YtaleenklamognaaDoor
open Go.Sx WordR

theorem rowsB_at {r : RF} {T : Ix → List UInt8} {n i : Nat} (h : rowsB r T n = true) (hi : i < n) : (r.X [i]).length ≤ 500 ∧ r.L [i] ≤ 12 := by
  unfold rowsB at h
  simp only [Bool.and_eq_true] at h
  have h2 := List.all_eq_true.1 h.2 i (List.mem_range.2 hi)
  unfold rowB fewB at h2
  simp only [Bool.and_eq_true, decide_eq_true_eq] at h2
  exact ⟨h2.1, by omega⟩
theorem rowsB_n {r : RF} {T : Ix → List UInt8} {n : Nat} (h : rowsB r T n = true) : n ≤ 20 := by
  unfold rowsB at h
  simp only [Bool.and_eq_true, decide_eq_true_eq] at h
  exact h.1
theorem okMs_src (r : RF) (n : Nat) : okMs r.src.M r.L n n (fun i => r.L [i]) = true :=
  List.all_eq_true.2 fun i hi => decide_eq_true ⟨List.mem_range.1 hi, Nat.le_refl _⟩
theorem okM_src {r : RF} {T : Ix → List UInt8} {n : Nat} (h : rowsB r.src T n = true) : okM r.src.M r.L n n (fun i => r.L [i]) = true :=
  List.all_eq_true.2 fun i hi => decide_eq_true ⟨List.mem_range.1 hi, Nat.le_refl _, by have := (rowsB_at h (List.mem_range.1 hi)).2; show r.L [i] ≤ 100000; have e : r.src.L = r.L := rfl; rw [e] at this; omega⟩
theorem okM_sel {r : RF} {T : Ix → List UInt8} {n : Nat} (h : rowsB r.src T n = true) (I : List Nat) (hI : ∀ i ∈ I, i < n) : okM (r.src.sel I).M (r.src.sel I).L I.length n (fun i => r.L [i]) = true :=
  List.all_eq_true.2 fun j hj => by
    have hj := List.mem_range.1 hj
    have hm : I.getD j 0 ∈ I := by
      rw [List.getD_eq_getElem?_getD, List.getElem?_eq_getElem hj]; exact List.getElem_mem _
    have := (rowsB_at h (hI _ hm)).2
    exact decide_eq_true ⟨hI _ hm, Nat.le_refl _, (show r.L [I.getD j 0] ≤ 100000 by have e : r.src.L = r.L := rfl; rw [e] at this; omega)⟩
theorem sameG_refl (r r' : RF) (T : Ix → List UInt8) (h1 : r.K [] = r'.K []) (h2 : r.N [] = r'.N []) (h3 : r.C [] = r'.C []) (h4 : r.X [] = r'.X []) (h5 : r.L [] = r'.L []) (h6 : r.nk [] = r'.nk []) (h7 : r.nc [] = r'.nc []) (h8 : r.ns [] = r'.ns []) (h9 : r.no [] = r'.no []) (h10 : r.nb [] = r'.nb []) (h11 : r.V [] = r'.V []) (h12 : r.O [] = r'.O []) : sameG r r' T T = true := by
  simp [sameG, noteB, txRw, h1, h2, h3, h4, h5, h6, h7, h8, h9, h10, h11, h12]
theorem same_self (r : RF) (I : List Nat) (T : Ix → List UInt8) : ((List.range I.length).all fun i => sameAw (r.err.sel I) (r.err.num.sel I) T T i i) = true :=
  List.all_eq_true.2 fun i _ => by
    unfold sameAw sameW
    rw [Bool.and_eq_true]
    exact ⟨sameG_refl _ _ _ rfl rfl rfl rfl rfl rfl rfl rfl rfl rfl rfl rfl, beq_iff_eq.2 rfl⟩
theorem has_one (c x : Int) : hasB 1 (fun _ => c) x = decide (c = x) := by
  rw [Bool.eq_iff_iff, has_iff, decide_eq_true_eq]
  exact ⟨fun ⟨q, _, h⟩ => h, fun h => ⟨0, by omega, h⟩⟩
theorem cnt_on (r : RF) (q : Nat) : ∀ n, cntT r n [q] = ((onI 1 (fun _ => (q : Int)) r.K n).length : Int)
  | 0 => rfl
  | n + 1 => by
    rw [cntT_s, cnt_on r q n, onI_succ, has_one]
    unfold eqI
    by_cases h : r.K [n] = (q : Int)
    · rw [if_pos h, decide_eq_true h.symm]; simp
    · rw [if_neg h, decide_eq_false (fun e => h e.symm)]; simp
theorem sdT_take (X : Ix → List UInt8) (I : List Nat) : ∀ k, k ≤ I.length → sdT X I k = (I.take k).flatMap fun i => X [i]
  | 0, _ => by simp [sdT]
  | k + 1, h => by
    rw [sdT, sdT_take X I k (by omega), List.take_succ_eq_append_getElem (by omega), List.flatMap_append]
    congr 1
    rw [List.getD_eq_getElem?_getD, List.getElem?_eq_getElem (by omega)]
    simp
theorem sd_on (r : RF) (n : Nat) : sdT r.X (onI 1 (fun _ => 1) r.K n) (onI 1 (fun _ => 1) r.K n).length = sdA r n := by
  rw [sdT_take _ _ _ (Nat.le_refl _), List.take_length]
  induction n with
  | zero => rfl
  | succ n ih =>
    rw [onI_succ, List.flatMap_append, ih, sdA, has_one]
    congr 1
    by_cases h : r.K [n] = 1
    · rw [if_pos h, decide_eq_true h.symm]; simp
    · rw [if_neg h, decide_eq_false (fun e => h e.symm)]; simp
theorem sdA_len {r : RF} {T : Ix → List UInt8} {n : Nat} (h : rowsB r.src T n = true) : ∀ i, i ≤ n → (sdA r i).length ≤ 500 * i
  | 0, _ => by simp [sdA]
  | i + 1, hi => by
    have := sdA_len h i (by omega)
    have h2 := (rowsB_at h (show i < n by omega)).1
    have e : r.src.X = r.X := rfl
    rw [e] at h2
    rw [sdA, List.length_append]
    split
    · omega
    · simp; omega
theorem traceTells_law (t0 t1 t2 t3 t4 t5 t6 t7 t8 t9 t10 t11 t12 t13 t14 t15 : List UInt8) (r r' : RF) (n m k : Nat) (T U : Ix → List UInt8) (F : Ix → Int) : RunsTo Tryd.prog 8 [.code (bodyOf Tryd.f8)] (envOf [vL 100 13 n, vL 102 13 m, vL 104 1 k] Tryd.f8.ntmps) (Sx.look ((tqS t0 t1 t2 t3 t4 t5 t6 t7 t8 t9 t10 t11 t12 t13 t14 t15 ++ (rfE false 100 101 r.src n ++ famE 101 n (fun i => r.L [i]) T) ++ (rfE false 102 103 r'.src m ++ famE 103 m (fun i => r'.L [i]) U) ++ [⟨104, false, none, 1, .ta k (.vi .i64 F)⟩]) ++ ([]))) 110 (YES) (Sx.look []) 30000 := by
  have o1 := okMs_src r n
  have o2 := okMs_src r' m
  cases h1 : rowsB r.src T n with
  | false => exact tt1 t0 t1 t2 t3 t4 t5 t6 t7 t8 t9 t10 t11 t12 t13 t14 t15 r r' n m k T U F o1 o2 h1
  | true =>
  cases h2 : rowsB r'.src U m with
  | false => exact tt2 t0 t1 t2 t3 t4 t5 t6 t7 t8 t9 t10 t11 t12 t13 t14 t15 r r' n m k T U F o1 o2 h1 h2
  | true =>
  by_cases h3 : 10 < k
  · exact tt3 t0 t1 t2 t3 t4 t5 t6 t7 t8 t9 t10 t11 t12 t13 t14 t15 r r' n m k T U F o1 o2 h1 h2 h3
  have hn := rowsB_n h1
  have hm := rowsB_n h2
  refine tt4 t0 t1 t2 t3 t4 t5 t6 t7 t8 t9 t10 t11 t12 t13 t14 t15 r r' n m k T U F _ o1 o2 h1 h2 (by omega) rfl ?_
  refine RunsTo.row0 (A := (tqS t0 t1 t2 t3 t4 t5 t6 t7 t8 t9 t10 t11 t12 t13 t14 t15 ++ (rfE false 100 101 r.src n ++ famE 101 n (fun i => r.L [i]) T) ++ (rfE false 102 103 r'.src m ++ famE 103 m (fun i => r'.L [i]) U) ++ [⟨104, false, none, 1, .ta k (.vi .i64 F)⟩]) ++ (enE true 111 101 r.src.err n ++ enE true 112 103 r'.src.err m)) (B := [⟨114, true, none, 133000012, .ta 12 (.vi .i64 (cntT r 0))⟩]) (u' := rfT 101 (r.src.err.num.sel [])) ?_
  have main : RunsTo Tryd.prog 8 (headOf Tryd.f8 0) (envAt Tryd.f8.ntmps ([(2, vL 104 1 k), (7, vL 111 13 n), (9, vL 112 13 m), (11, vB (((n : Int) == (m : Int)) && (List.range (0)).all (sameAA r.src r'.src T U))), (12, vL 113 13 (onI k F r.K (0)).length), (13, vS (sdA r (0))), (14, vP 114), (50, vL 111 13 n), (51, vN n), (52, vN (0 : Nat))])) (Sx.look ((tqS t0 t1 t2 t3 t4 t5 t6 t7 t8 t9 t10 t11 t12 t13 t14 t15 ++ (rfE false 100 101 r.src n ++ famE 101 n (fun i => r.L [i]) T) ++ (rfE false 102 103 r'.src m ++ famE 103 m (fun i => r'.L [i]) U) ++ [⟨104, false, none, 1, .ta k (.vi .i64 F)⟩]) ++ (enE true 111 101 r.src.err n ++ (enE true 112 103 r'.src.err m ++ (rfE true 113 101 (r.src.err.num.sel (onI k F r.K (0))) (onI k F r.K (0)).length ++ [⟨114, true, none, 133000012, .ta 12 (.vi .i64 (cntT r (0)))⟩]))))) 110 (YES) (Sx.look []) 30000 := by
    refine down_loop (n := n) (R := fun i => RunsTo Tryd.prog 8 (headOf Tryd.f8 0) (envAt Tryd.f8.ntmps ([(2, vL 104 1 k), (7, vL 111 13 n), (9, vL 112 13 m), (11, vB (((n : Int) == (m : Int)) && (List.range (i)).all (sameAA r.src r'.src T U))), (12, vL 113 13 (onI k F r.K (i)).length), (13, vS (sdA r (i))), (14, vP 114), (50, vL 111 13 n), (51, vN n), (52, vN (i : Nat))])) (Sx.look ((tqS t0 t1 t2 t3 t4 t5 t6 t7 t8 t9 t10 t11 t12 t13 t14 t15 ++ (rfE false 100 101 r.src n ++ famE 101 n (fun i => r.L [i]) T) ++ (rfE false 102 103 r'.src m ++ famE 103 m (fun i => r'.L [i]) U) ++ [⟨104, false, none, 1, .ta k (.vi .i64 F)⟩]) ++ (enE true 111 101 r.src.err n ++ (enE true 112 103 r'.src.err m ++ (rfE true 113 101 (r.src.err.num.sel (onI k F r.K (i))) (onI k F r.K (i)).length ++ [⟨114, true, none, 133000012, .ta 12 (.vi .i64 (cntT r (i)))⟩]))))) 110 (YES) (Sx.look []) 30000) (fun i hi q => ?_) ?_
    · have hl := onI_len k F r.K i
      have hw := sdA_len h1 i (by omega)
      have hb := rowsB_at h1 hi
      have hx : (r.X [i]).length ≤ 500 := hb.1
      have hL : r.L [i] ≤ 12 := hb.2
      rw [onI_succ] at q
      rw [show sdA r (i + 1) = sdA r i ++ (if r.K [i] = 1 then r.X [i] else []) from rfl] at q
      have hall : (List.range (i + 1)).all (sameAA r.src r'.src T U) = ((List.range i).all (sameAA r.src r'.src T U) && sameAA r.src r'.src T U i) := by
        rw [List.range_succ, List.all_append]; simp
      rw [hall, ← Bool.and_assoc] at q
      have hw' : (sdA r i).length ≤ 100000 := by omega
      cases hsb : (((n : Int) == (m : Int)) && (List.range i).all (sameAA r.src r'.src T U)) with
      | false =>
        rw [hsb, Bool.false_and] at q
        cases hk : hasB k F (r.K [i]) with
        | true => rw [hk] at q; exact tqf1 t0 t1 t2 t3 t4 t5 t6 t7 t8 t9 t10 t11 t12 t13 t14 t15 r r' n m k T U F _ _ i hi hn (by omega) hL hw' hx hl hk q
        | false => rw [hk, if_neg (by decide), List.append_nil] at q; exact tqf0 t0 t1 t2 t3 t4 t5 t6 t7 t8 t9 t10 t11 t12 t13 t14 t15 r r' n m k T U F _ _ i hi hn (by omega) hL hw' hx hl hk q
      | true =>
        rw [hsb, Bool.true_and] at q
        have hnm : i < m := by
          simp only [Bool.and_eq_true, beq_iff_eq] at hsb
          omega
        cases hs : sameAA r.src r'.src T U i with
        | true =>
          rw [hs] at q
          cases hk : hasB k F (r.K [i]) with
          | true => rw [hk] at q; exact tqt1 t0 t1 t2 t3 t4 t5 t6 t7 t8 t9 t10 t11 t12 t13 t14 t15 r r' n m k T U F _ _ i hi hn (by omega) hL hw' hx hnm hs hl hk q
          | false => rw [hk, if_neg (by decide), List.append_nil] at q; exact tqt0 t0 t1 t2 t3 t4 t5 t6 t7 t8 t9 t10 t11 t12 t13 t14 t15 r r' n m k T U F _ _ i hi hn (by omega) hL hw' hx hnm hs hl hk q
        | false =>
          rw [hs] at q
          cases hk : hasB k F (r.K [i]) with
          | true => rw [hk] at q; exact tqn1 t0 t1 t2 t3 t4 t5 t6 t7 t8 t9 t10 t11 t12 t13 t14 t15 r r' n m k T U F _ _ i hi hn (by omega) hL hw' hx hnm hs hl hk q
          | false => rw [hk, if_neg (by decide), List.append_nil] at q; exact tqn0 t0 t1 t2 t3 t4 t5 t6 t7 t8 t9 t10 t11 t12 t13 t14 t15 r r' n m k T U F _ _ i hi hn (by omega) hL hw' hx hnm hs hl hk q
    · refine tr1 t0 t1 t2 t3 t4 t5 t6 t7 t8 t9 t10 t11 t12 t13 t14 t15 r r' n m k T U F _ _ _ _ n rfl ?_
      have hlx : lowX r.X n = true := List.all_eq_true.2 fun i hi => decide_eq_true (rowsB_at h1 (List.mem_range.1 hi)).1
      have hlen := onI_len k F r.K n
      refine down_loop (n := 12) (R := fun q => RunsTo Tryd.prog 8 (headOf Tryd.f8 1) (envAt Tryd.f8.ntmps ([(2, vL 104 1 k), (7, vL 111 13 n), (9, vL 112 13 m), (11, vB (((n : Int) == (m : Int)) && (List.range n).all (sameAA r.src r'.src T U))), (12, vL 113 13 (onI k F r.K n).length), (13, vS (sdA r n)), (99, .agg (.ta 12 (.vi .i64 (cntT r n)))), (100, vN (q : Nat))])) (Sx.look ((tqS t0 t1 t2 t3 t4 t5 t6 t7 t8 t9 t10 t11 t12 t13 t14 t15 ++ (rfE false 100 101 r.src n ++ famE 101 n (fun i => r.L [i]) T) ++ (rfE false 102 103 r'.src m ++ famE 103 m (fun i => r'.L [i]) U) ++ [⟨104, false, none, 1, .ta k (.vi .i64 F)⟩]) ++ (enE true 111 101 r.src.err n ++ (enE true 112 103 r'.src.err m ++ rfE true 113 101 (r.src.err.num.sel (onI k F r.K n)) (onI k F r.K n).length)))) 110 (YES) (Sx.look []) 30000) (fun q hq z => tr2 t0 t1 t2 t3 t4 t5 t6 t7 t8 t9 t10 t11 t12 t13 t14 t15 r r' n m k T U F _ _ _ _ q hq hn (cnt_on r q n) z) ?_
      refine tr3 t0 t1 t2 t3 t4 t5 t6 t7 t8 t9 t10 t11 t12 t13 t14 t15 r r' n m k T U F _ _ _ _ 12 rfl hn hm (by omega) (okM_src h1) (okM_src h2) hlx ?_ rfl (by omega) (okM_sel h1 _ onI_lt) (okM_sel h1 _ onI_lt) (same_self r.src _ T) (sd_on r n)
      rw [show (n == m) = ((n : Int) == (m : Int)) by rw [Bool.eq_iff_iff, beq_iff_eq, beq_iff_eq]; omega]
      rfl
  rw [show (((n : Int) == (m : Int)) && (List.range 0).all (sameAA r.src r'.src T U)) = ((n : Int) == (m : Int)) by simp] at main
  simp only [List.append_assoc] at main ⊢
  exact main

end Go.Proofs.YtaleenklamognaaDoor

set_option maxRecDepth 100000
set_option linter.unusedSimpArgs false
set_option linter.unusedVariables false
namespace Go.Proofs.YtaleenklamognaaDoor
open Go.ChangeShapes Go.WideShapes Go.ChangeAt Go.RowKit
open Go.Sx

theorem traceTells_sh : shsOf Tryd.prog Tryd.f8.params.toList = some [.sl (.tc (.ki .i64) (.tc (.ki .i64) (.tc (.ki .i64) (.tc .ks (.tc (.sl .ks) (.tc (.tc (.ki .i64) (.tc (.ki .i64) (.tc (.ki .i64) (.tc (.ki .i64) (.tc .kb .t0))))) (.tc (.ki .i64) (.tc (.ki .i64) (.tc (.ki .i64) .t0))))))))), .sl (.tc (.ki .i64) (.tc (.ki .i64) (.tc (.ki .i64) (.tc .ks (.tc (.sl .ks) (.tc (.tc (.ki .i64) (.tc (.ki .i64) (.tc (.ki .i64) (.tc (.ki .i64) (.tc .kb .t0))))) (.tc (.ki .i64) (.tc (.ki .i64) (.tc (.ki .i64) .t0))))))))), .sl (.ki .i64)] := by kernel_rfl

theorem traceTells_star : "*" ++ "errors.errorString" = "*errors.errorString" := by decide
theorem traceTells_row (u : TypeId) (h : Tryd.prog.typeName? 3 u = some "*errors.errorString") : u = 213 :=
  typeName_ptr_named (nm := "errors.errorString") (by rw [traceTells_star]; kernel_rfl) (by kernel_rfl) (by decide) u (by rw [traceTells_star]; exact h)

theorem traceTells_errTy : ErrTy Tryd.prog "*errors.errorString" 25 213 215 9 := errTy_of (by kernel_rfl) traceTells_row (by kernel_rfl) (by kernel_rfl) (by kernel_rfl) (by kernel_rfl) (by kernel_rfl)

theorem traceTells_own : ownKnob Tryd.prog.godebug = none := by kernel_rfl
theorem traceTells_met (os : Os) (args : Array Value) : laidMetH Tryd.prog Rows.traceTellsRow.laid ((World.laidAll Tryd.prog os Rows.traceTellsRow.laid).forCall (fun _ _ => 0) ⟨#[], args, []⟩).memory := by
  rw [MakeChecks.laidMetH_plain _ _ _ (by kernel_rfl)]; exact laidMet_laidAll _ (by kernel_rfl) (by kernel_rfl)
theorem traceTells_plain (w : World) : laidMetH Tryd.prog Rows.traceTellsRow.laid w = laidMet Tryd.prog Rows.traceTellsRow.laid w := MakeChecks.laidMetH_plain _ _ _ (by kernel_rfl)

def traceTells_texts : List (Nat × List UInt8) := [(4, [97, 32, 110, 117, 109, 98, 101, 114, 32, 105, 115, 32, 111, 117, 116, 32, 111, 102, 32, 105, 116, 115, 32, 114, 97, 110, 103, 101]), (3, [116, 104, 101, 114, 101, 32, 105, 115, 32, 110, 111, 32, 109, 111, 114, 101, 32, 114, 111, 111, 109]), (5, [115, 111, 109, 101, 116, 104, 105, 110, 103, 32, 105, 115, 32, 109, 105, 115, 115, 105, 110, 103, 32, 97, 116, 32, 116, 104, 101, 32, 101, 110, 100]), (0, [116, 104, 101, 114, 101, 32, 105, 115, 32, 109, 111, 114, 101, 32, 116, 104, 97, 110, 32, 109, 97, 121, 32, 98, 101]), (6, [105, 116, 32, 105, 115, 32, 110, 111, 116, 32, 111, 102, 32, 105, 116, 115, 32, 102, 111, 114, 109]), (2, [116, 104, 101, 114, 101, 32, 105, 115, 32, 110, 111, 32, 115, 117, 99, 104, 32, 110, 97, 109, 101]), (7, [116, 104, 101, 114, 101, 32, 105, 115, 32, 110, 111, 110, 101]), (8, [105, 116, 32, 105, 115, 32, 116, 104, 101, 114, 101, 32, 97, 108, 114, 101, 97, 100, 121]), (9, [105, 116, 32, 105, 115, 32, 111, 102, 32, 97, 110, 111, 116, 104, 101, 114, 32, 107, 105, 110, 100]), (10, [105, 116, 32, 99, 97, 110, 32, 110, 111, 116, 32, 98, 101, 32, 100, 111, 110, 101, 32, 105, 110, 32, 116, 104, 105, 115, 32, 115, 116, 97, 116, 101]), (11, [105, 116, 32, 103, 111, 101, 115, 32, 116, 111, 111, 32, 100, 101, 101, 112]), (12, [116, 104, 101, 32, 102, 117, 101, 108, 32, 105, 115, 32, 115, 112, 101, 110, 116]), (13, [116, 104, 101, 114, 101, 32, 97, 114, 101, 32, 116, 111, 111, 32, 109, 97, 110, 121, 32, 99, 97, 108, 108, 115, 32, 119, 105, 116, 104, 105, 110, 32, 111, 110, 101, 32, 97, 110, 111, 116, 104, 101, 114]), (14, [105, 116, 32, 105, 115, 32, 99, 108, 111, 115, 101, 100]), (15, [105, 116, 32, 119, 111, 117, 108, 100, 32, 109, 97, 116, 99, 104, 32, 110, 111, 116, 104, 105, 110, 103, 32, 97, 116, 32, 97, 108, 108]), (1, [116, 104, 101, 32, 116, 101, 120, 116, 32, 105, 115, 32, 110, 111, 32, 110, 117, 109, 98, 101, 114])]
theorem traceTells_sent : sentOf Tryd.prog "*errors.errorString" Rows.traceTellsRow.laid = some traceTells_texts := by kernel_rfl

theorem traceTells_readable : ∀ t ∈ Tryd.f8.params.toList, Tryd.prog.readableRec t = true ∧ t < Tryd.prog.types.size := by
  have h : (Tryd.f8.params.toList.all fun t => Tryd.prog.readableRec t && decide (t < Tryd.prog.types.size)) = true := by kernel_rfl
  intro t ht
  have := List.all_eq_true.1 h t ht
  simpa using this

theorem traceTells_wants : ∀ t ∈ Tryd.f8.params.toList, Tryd.prog.wantsStandIn t = false := by
  have h : (Tryd.f8.params.toList.all fun t => !Tryd.prog.wantsStandIn t) = true := by kernel_rfl
  intro t ht
  have := List.all_eq_true.1 h t ht
  simpa using this

theorem traceTells_lifted (os : Os) (started : os.Started) (H : Type) (enc : TypeId × Value → H) :
    ReturnsInHanded {} Tryd.checked os 8 .any (fun w args => (Rows.traceTellsSpec.pre enc Tryd.prog Tryd.f8 [] false w args ∧ laidMetH Tryd.prog Rows.traceTellsRow.laid w) ∧ sizedMet enc Tryd.prog Tryd.f8 (OpenSpec.ofChange Rows.traceTellsSpec) false w args)
      (Rows.traceTellsSpec.post enc Tryd.prog Tryd.f8 false true false false) := by
  refine returnsInHanded_of_change_and (C := Tryd.checked) (X := fun w _ => laidMetH Tryd.prog Rows.traceTellsRow.laid w) (fun _ _ _ hh h => h.of_heap hh) traceTells_own started (by kernel_rfl) Tryd.func8
    (ChangeSpec.witness_shaped (enc := enc) (C := Tryd.checked) (os := os) (X := fun w _ => laidMetH Tryd.prog Rows.traceTellsRow.laid w) false (World.laidAll Tryd.prog os Rows.traceTellsRow.laid) #[.slice none 0 0, .slice none 0 0, .slice none 0 0] 8 (World.laidAll_os _ _ _) (World.shaped_of_ZipB (by kernel_rfl) (by kernel_rfl)) (by kernel_rfl) (by kernel_rfl) (by kernel_rfl) (traceTells_met os _)) ?_
  intro W base args ds gs before hval hW _ _ hL _
  have hW' := hW
  obtain ⟨p, q, hA, hV, rfl, hfz, hnd⟩ := hW
  obtain ⟨rfl, rfl⟩ := trodVars_none hV
  rw [traceTells_plain] at hL
  obtain ⟨s1, s2, s3⟩ := sents_open traceTells_errTy hL traceTells_sent (by kernel_rfl)
  have hG : Tryd.prog.globals.size = 23 := by kernel_rfl
  rw [hG] at s2 s3
  have g3 : ds.length = 3 := (args_open traceTells_sh hA (fun j t v h1 h2 => hval j t v (by rw [← Array.getElem?_toList]; exact h1) (by rw [← Array.getElem?_toList]; exact h2))).2.2.1
  match ds, g3 with
  | [d1, d2, d3], _ =>
    refine (law_calls Tryd.func8 (body := bodyOf Tryd.f8) (by kernel_rfl) traceTells_sh hA hval (lab := 100) (n := 110) (n' := 30000) (L' := Sx.look []) gtopP s1 s2 (fun e he => ?_) (fun cs hcs hIs => ?_)).mono fun e W' ⟨he, hB⟩ => ⟨_, he, law_post (bt := 4) (by kernel_rfl) traceTells_readable rfl (by kernel_rfl) (by kernel_rfl) hW' rfl hB⟩
    · obtain ⟨a1, a2, a3⟩ := s3 e he
      exact ⟨a1, Nat.lt_of_lt_of_le a2 gtopP, fun l hl => Nat.lt_of_lt_of_le (a3 l hl) gtopP⟩
    · clear hcs
      refine RunsTo.start (cargs := [.v (.vl 100 (fun _ => 0) 13 [] (fun _ => lenOf (Go.Sx.rd0 cs [] 0))), .v (.vl 102 (fun _ => 0) 13 [] (fun _ => lenOf (Go.Sx.rd0 cs [] 1))), .v (.vl 104 (fun _ => 0) 1 [] (fun _ => lenOf (Go.Sx.rd0 cs [] 2)))]) ?_ ⟨⟨rfl, rfl⟩, ⟨rfl, rfl⟩, ⟨rfl, rfl⟩, trivial⟩
      exact traceTells_law _ _ _ _ _ _ _ _ _ _ _ _ _ _ _ _ ⟨fun is => Sx.intOf (rdOf W 13 (Go.Sx.rd0 cs) 0 is 0), fun is => Sx.intOf (rdOf W 13 (Go.Sx.rd0 cs) 0 is 1), fun is => Sx.intOf (rdOf W 13 (Go.Sx.rd0 cs) 0 is 2), fun is => Sx.strOf (rdOf W 13 (Go.Sx.rd0 cs) 0 is 3), fun _ => 0, fun is => lenOf (rdOf W 13 (Go.Sx.rd0 cs) 0 is 4), fun is => Sx.intOf (rdOf W 13 (Go.Sx.rd0 cs) 0 is 5), fun is => Sx.intOf (rdOf W 13 (Go.Sx.rd0 cs) 0 is 6), fun is => Sx.intOf (rdOf W 13 (Go.Sx.rd0 cs) 0 is 7), fun is => Sx.intOf (rdOf W 13 (Go.Sx.rd0 cs) 0 is 8), fun is => Sx.boolOf (rdOf W 13 (Go.Sx.rd0 cs) 0 is 9), fun is => Sx.intOf (rdOf W 13 (Go.Sx.rd0 cs) 0 is 10), fun is => Sx.intOf (rdOf W 13 (Go.Sx.rd0 cs) 0 is 11), fun _ => 0, fun is => Sx.intOf (rdOf W 13 (Go.Sx.rd0 cs) 0 is 12)⟩ ⟨fun is => Sx.intOf (rdOf W 13 (Go.Sx.rd0 cs) 1 is 0), fun is => Sx.intOf (rdOf W 13 (Go.Sx.rd0 cs) 1 is 1), fun is => Sx.intOf (rdOf W 13 (Go.Sx.rd0 cs) 1 is 2), fun is => Sx.strOf (rdOf W 13 (Go.Sx.rd0 cs) 1 is 3), fun _ => 0, fun is => lenOf (rdOf W 13 (Go.Sx.rd0 cs) 1 is 4), fun is => Sx.intOf (rdOf W 13 (Go.Sx.rd0 cs) 1 is 5), fun is => Sx.intOf (rdOf W 13 (Go.Sx.rd0 cs) 1 is 6), fun is => Sx.intOf (rdOf W 13 (Go.Sx.rd0 cs) 1 is 7), fun is => Sx.intOf (rdOf W 13 (Go.Sx.rd0 cs) 1 is 8), fun is => Sx.boolOf (rdOf W 13 (Go.Sx.rd0 cs) 1 is 9), fun is => Sx.intOf (rdOf W 13 (Go.Sx.rd0 cs) 1 is 10), fun is => Sx.intOf (rdOf W 13 (Go.Sx.rd0 cs) 1 is 11), fun _ => 0, fun is => Sx.intOf (rdOf W 13 (Go.Sx.rd0 cs) 1 is 12)⟩ (lenOf (Go.Sx.rd0 cs [] 0)) (lenOf (Go.Sx.rd0 cs [] 1)) (lenOf (Go.Sx.rd0 cs [] 2)) (fun is => Sx.strOf (rdOf W 1 (rdOf W 13 (Go.Sx.rd0 cs) 0) 4 is 0)) (fun is => Sx.strOf (rdOf W 1 (rdOf W 13 (Go.Sx.rd0 cs) 1) 4 is 0)) (fun is => Sx.intOf (rdOf W 1 (Go.Sx.rd0 cs) 2 is 0))

theorem traceTells_holds : Rows.TraceTellsSaid :=
  OpenClaim.holds_of_wide 8 Tryd.f8 rfl rfl rfl rfl rfl rfl rfl ⟨rfl, rfl, rfl, rfl, rfl⟩ rfl rfl rfl rfl rfl (by kernel_rfl) Tryd.func8 (by kernel_rfl)
    (of_decide_eq_true (by kernel_rfl)) (by unfold Func.isWrapper; first | (rw [if_pos (by decide +kernel)]; kernel_rfl) | (rw [if_neg (by decide +kernel)]; exact ⟨rfl, rfl⟩))
    (fun os started H enc _ => traceTells_lifted os started H enc)

theorem traceTells_card_holds : Rows.TraceTellsCardSaid :=
  Claim7.holds_tied_plain_at .later [] [.data, .data, .data, .sentinel, .sentinel, .sentinel, .sentinel, .sentinel, .sentinel, .sentinel, .sentinel, .sentinel, .sentinel, .sentinel, .sentinel, .sentinel, .sentinel, .sentinel, .sentinel, .widerDeep] true (true, "adce2fd5dd0887f6362622a91578a8c9f336eace8c67ecf4b186e5f5f59c33e1") true
    traceTells_holds (fun _ h => by cases h) (by kernel_rfl) (fun _ h => by cases h) traceTells_row_tie rfl ⟨rfl, rfl⟩ (by kernel_rfl) rfl
    (fun f fn hf hfn => by
      obtain rfl : f = 8 := Option.some.inj ((show Tryd.prog.funcNamed "truchman/truchmanlaw38.TraceTells" = some 8 by kernel_rfl).symm.trans hf) |>.symm
      obtain rfl : fn = Tryd.f8 := (Option.some.inj (Tryd.func8.symm.trans hfn)).symm
      exact ⟨by kernel_rfl, fun j t ht => traceTells_wants t (List.mem_of_getElem? (by rw [Array.getElem?_toList]; exact ht))⟩)
    (by kernel_rfl)
end Go.Proofs.YtaleenklamognaaDoor

