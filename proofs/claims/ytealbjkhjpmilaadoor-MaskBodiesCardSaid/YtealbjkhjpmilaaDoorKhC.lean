/- Masks: bodies, the law. -/
import Derived.Test.YtealbjkhjpmilaaDoorKeC
set_option linter.unusedSimpArgs false
set_option linter.unusedVariables false
set_option maxRecDepth 100000
namespace Go.Proofs.YtealbjkhjpmilaaDoor
open Go.Sx


def allG (t0 t1 t2 t3 t4 t5 t6 t7 t8 t9 t10 t11 t12 t13 t14 t15 : List UInt8) : List Ent := sentEnts 25 223 [(7, t0), (8, t1), (3, t2), (4, t3), (0, t4), (9, t5), (10, t6), (2, t7), (5, t8), (1, t9), (11, t10), (12, t11), (13, t12), (14, t13), (15, t14), (16, t15)]
theorem nmK : numOf 28 = 3 ∧ numOf 29 = 4 ∧ numOf 30 = 9 := ⟨rfl, rfl, rfl⟩
def sumsM0 : List (FuncId × Summ) := [(35, numS), (23, aliP.summ 50), (30, cutP.summ 50), (100, trP.summ 50)]
theorem baseM0 : Base0 Tryd.prog sumsM0 := ((((baseO.cons Tryd.func100 (by kernel_rfl) (PC.summ_ok trP_pc gtopG)).cons Tryd.func30 (by kernel_rfl) (PC.summ_ok cutP_pc gtopG)).cons Tryd.func23 (by kernel_rfl) (PC.summ_ok ali_pc gtopG)).cons Tryd.func35 (by kernel_rfl) numS_ok)
def sumsM1 : List (FuncId × Summ) := [(35, numS), (23, aliP.summ 50), (30, cutP.summ 50), (100, trP.summ 50), (40, parseOkP.summ 50)]
theorem baseM1 : Base0 Tryd.prog sumsM1 := (((((baseO.cons Tryd.func40 (by kernel_rfl) (PC.summ_ok parseOkP_pc gtopG)).cons Tryd.func100 (by kernel_rfl) (PC.summ_ok trP_pc gtopG)).cons Tryd.func30 (by kernel_rfl) (PC.summ_ok cutP_pc gtopG)).cons Tryd.func23 (by kernel_rfl) (PC.summ_ok ali_pc gtopG)).cons Tryd.func35 (by kernel_rfl) numS_ok)
def sumsN0 : List (FuncId × Summ) := [(35, numS), (23, aliP.summ 50), (30, cutP.summ 50), (100, trP.summ 50), (39, bodyDoP.summ 50)]
theorem baseN0 : Base0 Tryd.prog sumsN0 := (((((baseO.cons Tryd.func39 (by kernel_rfl) (PC.summ_ok bodyDoP_pc gtopG)).cons Tryd.func100 (by kernel_rfl) (PC.summ_ok trP_pc gtopG)).cons Tryd.func30 (by kernel_rfl) (PC.summ_ok cutP_pc gtopG)).cons Tryd.func23 (by kernel_rfl) (PC.summ_ok ali_pc gtopG)).cons Tryd.func35 (by kernel_rfl) numS_ok)
def sumsN1 : List (FuncId × Summ) := [(35, numS), (23, aliP.summ 50), (30, cutP.summ 50), (100, trP.summ 50), (40, parseOkP.summ 50), (39, bodyDoP.summ 50)]
theorem baseN1 : Base0 Tryd.prog sumsN1 := ((((((baseO.cons Tryd.func39 (by kernel_rfl) (PC.summ_ok bodyDoP_pc gtopG)).cons Tryd.func40 (by kernel_rfl) (PC.summ_ok parseOkP_pc gtopG)).cons Tryd.func100 (by kernel_rfl) (PC.summ_ok trP_pc gtopG)).cons Tryd.func30 (by kernel_rfl) (PC.summ_ok cutP_pc gtopG)).cons Tryd.func23 (by kernel_rfl) (PC.summ_ok ali_pc gtopG)).cons Tryd.func35 (by kernel_rfl) numS_ok)
theorem mbLong_p0 (t0 t1 t2 t3 t4 t5 t6 t7 t8 t9 t10 t11 t12 t13 t14 t15 : List UInt8) (N : Nat) (B F : Ix → Int) (v : Int) :
    isEnd (evTill Tryd.prog sumsM0 300 (99) 900 8 [.code (bodyOf Tryd.f8)] (envOf [vL 100 1 N, vN v, .agg (arrT F)] Tryd.f8.ntmps) (allG t0 t1 t2 t3 t4 t5 t6 t7 t8 t9 t10 t11 t12 t13 t14 t15 ++ bE 100 N B ++ ([])) ⟨[.t, .f, .s true], 110⟩) (endP ([]) (YES) ([]) 900) =
    (OkL [(decide ((↑N : Int) > (100 : Int)), true)] ∧ true = true ∧ True) := by kernel_rfl

set_option maxHeartbeats 4000000 in
theorem mbLong (t0 t1 t2 t3 t4 t5 t6 t7 t8 t9 t10 t11 t12 t13 t14 t15 : List UInt8) (N : Nat) (B F : Ix → Int) (v : Int) (hN : 100 < N) :
    RunsTo Tryd.prog 8 [.code (bodyOf Tryd.f8)] (envOf [vL 100 1 N, vN v, .agg (arrT F)] Tryd.f8.ntmps) (Sx.look (allG t0 t1 t2 t3 t4 t5 t6 t7 t8 t9 t10 t11 t12 t13 t14 t15 ++ bE 100 N B ++ ([]))) 110 (YES) (Sx.look ([])) 900 := by
  refine runs_last baseM0 (Sx.Ends.of (mbLong_p0 t0 t1 t2 t3 t4 t5 t6 t7 t8 t9 t10 t11 t12 t13 t14 t15 N B F v) ⟨?oo, ?rr⟩) (by kernel_rfl) rfl (gtL (by decide)) (by decide)
  case oo =>
    refine (okc ?_ okn)
    all_goals ((try simp (disch := omega) only [SS]); first | done | omega | assumption | (simp (disch := omega) only [SS] at *; first | done | omega | assumption) | (simp_all; done))
  case rr =>
    try simp (disch := omega) only [SS]
    repeat' apply And.intro
    all_goals first | exact True.intro | with_reducible rfl | omega | (intros; first | exact True.intro | with_reducible rfl | omega | (simp_all; done)) | (simp_all; done) | rfl

theorem par_cut {N : Nat} {B : Ix → Int} (hN : 2 ≤ N ∧ N ≤ 34) (hB : ∀ i, i < N → 0 ≤ B [i] ∧ B [i] < 256) : bytesOf (parF N B) [] 0 (cutN (parF N B) 0 32) = cutL ((bytesOf B [] 0 N).drop 2) := by
  have hP : ∀ i, i < 32 → 0 ≤ parF N B [i] ∧ parF N B [i] < 256 := by
    intro i hi
    simp only [parF, List.headD_cons]
    by_cases h : i + 2 < N
    · simp only [h, if_true]; exact hB _ (by omega)
    · simp only [h, if_false]; omega
  rw [cut_bytes _ 32 hP]
  have key : ∀ d, (N - 2) + d ≤ 32 → cutL (bytesOf (parF N B) [] 0 (N - 2 + d)) = cutL ((bytesOf B [] 0 N).drop 2) := by
    intro d
    induction d with
    | zero =>
      intro _
      congr 1
      apply List.ext_getElem?
      intro k
      simp only [bytesOf, List.getElem?_drop, List.getElem?_map, List.nil_append, Nat.zero_add, Nat.add_zero]
      by_cases hk : k < N - 2
      · rw [List.getElem?_range hk, List.getElem?_range (by omega)]
        simp only [Option.map_some, parF, List.headD_cons, show k + 2 < N by omega, if_true]
        rw [Nat.add_comm]
      · rw [List.getElem?_eq_none (by simp; omega), List.getElem?_eq_none (by simp; omega)]
        rfl
    | succ d ih =>
      intro hd
      have e : bytesOf (parF N B) [] 0 (N - 2 + (d + 1)) = bytesOf (parF N B) [] 0 (N - 2 + d) ++ [0] := by
        have : ¬ (N - 2 + d + 2 < N) := by omega
        rw [← Nat.add_assoc]
        simp [bytesOf, List.range_succ, parF, this]
      rw [e, cutL_app, if_pos rfl]
      exact ih (by omega)
  have := key (32 - (N - 2)) (by omega)
  rwa [show N - 2 + (32 - (N - 2)) = 32 by omega] at this
theorem mbSA_p0 (t0 t1 t2 t3 t4 t5 t6 t7 t8 t9 t10 t11 t12 t13 t14 t15 : List UInt8) (N : Nat) (B F : Ix → Int) (v : Int) :
    isEnd (evTill Tryd.prog sumsM0 300 (99) 900 8 [.code (bodyOf Tryd.f8)] (envOf [vL 100 1 N, vN v, .agg (arrT F)] Tryd.f8.ntmps) (allG t0 t1 t2 t3 t4 t5 t6 t7 t8 t9 t10 t11 t12 t13 t14 t15 ++ bE 100 N B ++ ([])) ⟨[.t, .f, .s false, .s true, .s true, .s true, .f, .f, .f, .t, .t, .t, .t, .t, .t, .f, .f, .s false, .t, .s true, .t], 110⟩) (endP ([]) (YES) ([]) 900) =
    (OkL [(decide ((↑N : Int) > (100 : Int)), false), (decide ((↑N : Int) < (2 : Int)), true), (((0 : Nat) + N).ble N, true), (decide ((↑(bytesOf B [] (0 : Nat) N).length : Int) < (2 : Int)), true), (decide (v ≥ (251 : Int)), false), (decide (v < (251 : Int)), true)] ∧ true = true ∧ True) := by kernel_rfl

set_option maxHeartbeats 4000000 in
theorem mbSA (t0 t1 t2 t3 t4 t5 t6 t7 t8 t9 t10 t11 t12 t13 t14 t15 : List UInt8) (N : Nat) (B F : Ix → Int) (v : Int) (hB : ∀ i, i < N → 0 ≤ B [i] ∧ B [i] < 256) (hF : ∀ i, i < 32 → 0 ≤ F [i] ∧ F [i] < 256) (hv : -9223372036854775808 ≤ v ∧ v < 9223372036854775808) (hN : N < 2) (hv0 : v < 251) :
    RunsTo Tryd.prog 8 [.code (bodyOf Tryd.f8)] (envOf [vL 100 1 N, vN v, .agg (arrT F)] Tryd.f8.ntmps) (Sx.look (allG t0 t1 t2 t3 t4 t5 t6 t7 t8 t9 t10 t11 t12 t13 t14 t15 ++ bE 100 N B ++ ([]))) 110 (YES) (Sx.look ([])) 900 := by
  have hbl := bytesOf_len B [] 0 N
  have hF2 := bndB_of hF
  have hcF := cut_bytes F 32 hF
  have hcu : cutN F 0 32 ≤ 32 := cutN_le _ _ _
  have z0 : ((0 : Nat) : Int) = 0 := rfl
  have hlf := bytesOf_len F [] 0 32
  have hcl : (cutL (bytesOf F [] 0 32)).length ≤ 32 := by rw [← hcF, bytesOf_len]; exact hcu
  have e53 : bytesOf (upd (upd (fun is => 0) [0] (IntKind.u8.wrap 253)) [1] 2) [] 0 2 = [253, 2] := rfl
  have hl2 : ([253, 2] : List UInt8).length = 2 := rfl
  refine runs_last baseM0 (Sx.Ends.of (mbSA_p0 t0 t1 t2 t3 t4 t5 t6 t7 t8 t9 t10 t11 t12 t13 t14 t15 N B F v) ⟨?oo, ?rr⟩) (by kernel_rfl) rfl (gtL (by decide)) (by decide)
  case oo =>
    refine (okc ?_ (okc ?_ (okc ?_ (okc ?_ (okc ?_ (okc ?_ okn))))))
    all_goals ((try simp (disch := omega) only [SS, nmK, hbl, hF2, hcF, z0, hlf, beq_self_eq_true]); first | done | omega | assumption | (simp (disch := omega) only [SS, nmK, hbl, hF2, hcF, z0, hlf, beq_self_eq_true] at *; first | done | omega | assumption) | (simp_all; done))
  case rr =>
    try simp (disch := omega) only [SS, nmK, hbl, hF2, hcF, z0, hlf, beq_self_eq_true]
    repeat' apply And.intro
    all_goals first | exact True.intro | with_reducible rfl | omega | (intros; first | exact True.intro | with_reducible rfl | omega | (simp_all; done)) | (simp_all; done) | rfl

theorem mbSB_p0 (t0 t1 t2 t3 t4 t5 t6 t7 t8 t9 t10 t11 t12 t13 t14 t15 : List UInt8) (N : Nat) (B F : Ix → Int) (v : Int) :
    isEnd (evTill Tryd.prog sumsM0 300 (99) 900 8 [.code (bodyOf Tryd.f8)] (envOf [vL 100 1 N, vN v, .agg (arrT F)] Tryd.f8.ntmps) (allG t0 t1 t2 t3 t4 t5 t6 t7 t8 t9 t10 t11 t12 t13 t14 t15 ++ bE 100 N B ++ ([])) ⟨[.t, .f, .s false, .s true, .s true, .s true, .f, .f, .f, .t, .t, .t, .t, .t, .t, .f, .f, .s true, .s true, .s false, .s true, .t], 110⟩) (endP ([]) (YES) ([]) 900) =
    (OkL [(decide ((↑N : Int) > (100 : Int)), false), (decide ((↑N : Int) < (2 : Int)), true), (((0 : Nat) + N).ble N, true), (decide ((↑(bytesOf B [] (0 : Nat) N).length : Int) < (2 : Int)), true), (decide (v ≥ (251 : Int)), true), (!decide (v ≤ (254 : Int)), true), (decide (v < (251 : Int)), false), (decide (v > (254 : Int)), true)] ∧ true = true ∧ True) := by kernel_rfl

set_option maxHeartbeats 4000000 in
theorem mbSB (t0 t1 t2 t3 t4 t5 t6 t7 t8 t9 t10 t11 t12 t13 t14 t15 : List UInt8) (N : Nat) (B F : Ix → Int) (v : Int) (hB : ∀ i, i < N → 0 ≤ B [i] ∧ B [i] < 256) (hF : ∀ i, i < 32 → 0 ≤ F [i] ∧ F [i] < 256) (hv : -9223372036854775808 ≤ v ∧ v < 9223372036854775808) (hN : N < 2) (hv0 : 254 < v) :
    RunsTo Tryd.prog 8 [.code (bodyOf Tryd.f8)] (envOf [vL 100 1 N, vN v, .agg (arrT F)] Tryd.f8.ntmps) (Sx.look (allG t0 t1 t2 t3 t4 t5 t6 t7 t8 t9 t10 t11 t12 t13 t14 t15 ++ bE 100 N B ++ ([]))) 110 (YES) (Sx.look ([])) 900 := by
  have hbl := bytesOf_len B [] 0 N
  have hF2 := bndB_of hF
  have hcF := cut_bytes F 32 hF
  have hcu : cutN F 0 32 ≤ 32 := cutN_le _ _ _
  have z0 : ((0 : Nat) : Int) = 0 := rfl
  have hlf := bytesOf_len F [] 0 32
  have hcl : (cutL (bytesOf F [] 0 32)).length ≤ 32 := by rw [← hcF, bytesOf_len]; exact hcu
  have e53 : bytesOf (upd (upd (fun is => 0) [0] (IntKind.u8.wrap 253)) [1] 2) [] 0 2 = [253, 2] := rfl
  have hl2 : ([253, 2] : List UInt8).length = 2 := rfl
  refine runs_last baseM0 (Sx.Ends.of (mbSB_p0 t0 t1 t2 t3 t4 t5 t6 t7 t8 t9 t10 t11 t12 t13 t14 t15 N B F v) ⟨?oo, ?rr⟩) (by kernel_rfl) rfl (gtL (by decide)) (by decide)
  case oo =>
    refine (okc ?_ (okc ?_ (okc ?_ (okc ?_ (okc ?_ (okc ?_ (okc ?_ (okc ?_ okn))))))))
    all_goals ((try simp (disch := omega) only [SS, nmK, hbl, hF2, hcF, z0, hlf, beq_self_eq_true]); first | done | omega | assumption | (simp (disch := omega) only [SS, nmK, hbl, hF2, hcF, z0, hlf, beq_self_eq_true] at *; first | done | omega | assumption) | (simp_all; done))
  case rr =>
    try simp (disch := omega) only [SS, nmK, hbl, hF2, hcF, z0, hlf, beq_self_eq_true]
    repeat' apply And.intro
    all_goals first | exact True.intro | with_reducible rfl | omega | (intros; first | exact True.intro | with_reducible rfl | omega | (simp_all; done)) | (simp_all; done) | rfl

theorem mbSC_p0 (t0 t1 t2 t3 t4 t5 t6 t7 t8 t9 t10 t11 t12 t13 t14 t15 : List UInt8) (N : Nat) (B F : Ix → Int) (v : Int) :
    isEnd (evTill Tryd.prog sumsN0 300 (99) 900 8 [.code (bodyOf Tryd.f8)] (envOf [vL 100 1 N, vN v, .agg (arrT F)] Tryd.f8.ntmps) (allG t0 t1 t2 t3 t4 t5 t6 t7 t8 t9 t10 t11 t12 t13 t14 t15 ++ bE 100 N B ++ ([])) ⟨[.t, .f, .s false, .s true, .s true, .s true, .f, .f, .f, .t, .t, .t, .t, .t, .t, .f, .f, .s true, .s false, .s false, .t, .s true, .t, .t, .s true, .t, .s true], 110⟩) (endP ([]) (YES) ([]) 900) =
    (OkL [(decide ((↑N : Int) > (100 : Int)), false), (decide ((↑N : Int) < (2 : Int)), true), (((0 : Nat) + N).ble N, true), (decide ((↑(bytesOf B [] (0 : Nat) N).length : Int) < (2 : Int)), true), (decide (v = (253 : Int)) && bndB (fun js => F js) (32 : Nat), true), (decide (v < (251 : Int)), false), (decide (v > (254 : Int)), false), (v == (253 : Int), true), (decide ((bytesOf (upd (upd (fun is => (0 : Int)) [(0 : Nat)] (IntKind.u8.wrap v)) [(1 : Nat)] (2 : Int)) [] (0 : Nat) (2 : Nat)).length + (cutL (bytesOf F [] (0 : Nat) (32 : Nat))).length ≤ (9223372036854775807 : Nat)), true), (((0 : Nat) + ([(253 : UInt8), (2 : UInt8)] ++ bytesOf (fun js => F js) [] (0 : Nat) (cutN (fun js => F js) (0 : Int) (32 : Nat))).length).ble ([(253 : UInt8), (2 : UInt8)] ++ bytesOf (fun js => F js) [] (0 : Nat) (cutN (fun js => F js) (0 : Int) (32 : Nat))).length, true)] ∧ true = (bytesOf (fun is => (↑(([(253 : UInt8), (2 : UInt8)] ++ bytesOf (fun js => F js) [] (0 : Nat) (cutN (fun js => F js) (0 : Int) (32 : Nat))).getD (List.headD is (0 : Nat)) (0 : UInt8)).toNat : Int)) [] (0 : Nat) ([(253 : UInt8), (2 : UInt8)] ++ bytesOf (fun js => F js) [] (0 : Nat) (cutN (fun js => F js) (0 : Int) (32 : Nat))).length == bytesOf (upd (upd (fun is => (0 : Int)) [(0 : Nat)] (IntKind.u8.wrap v)) [(1 : Nat)] (2 : Int)) [] (0 : Nat) (2 : Nat) ++ cutL (bytesOf F [] (0 : Nat) (32 : Nat))) ∧ True) := by kernel_rfl

set_option maxHeartbeats 4000000 in
theorem mbSC (t0 t1 t2 t3 t4 t5 t6 t7 t8 t9 t10 t11 t12 t13 t14 t15 : List UInt8) (N : Nat) (B F : Ix → Int) (v : Int) (hB : ∀ i, i < N → 0 ≤ B [i] ∧ B [i] < 256) (hF : ∀ i, i < 32 → 0 ≤ F [i] ∧ F [i] < 256) (hv : -9223372036854775808 ≤ v ∧ v < 9223372036854775808) (hN : N < 2) (hv0 : v = 253) :
    RunsTo Tryd.prog 8 [.code (bodyOf Tryd.f8)] (envOf [vL 100 1 N, vN v, .agg (arrT F)] Tryd.f8.ntmps) (Sx.look (allG t0 t1 t2 t3 t4 t5 t6 t7 t8 t9 t10 t11 t12 t13 t14 t15 ++ bE 100 N B ++ ([]))) 110 (YES) (Sx.look ([])) 900 := by
  have hbl := bytesOf_len B [] 0 N
  have hF2 := bndB_of hF
  have hcF := cut_bytes F 32 hF
  have hcu : cutN F 0 32 ≤ 32 := cutN_le _ _ _
  have z0 : ((0 : Nat) : Int) = 0 := rfl
  have hlf := bytesOf_len F [] 0 32
  have hcl : (cutL (bytesOf F [] 0 32)).length ≤ 32 := by rw [← hcF, bytesOf_len]; exact hcu
  have e53 : bytesOf (upd (upd (fun is => 0) [0] (IntKind.u8.wrap 253)) [1] 2) [] 0 2 = [253, 2] := rfl
  have hl2 : ([253, 2] : List UInt8).length = 2 := rfl
  refine runs_last baseN0 (Sx.Ends.of (mbSC_p0 t0 t1 t2 t3 t4 t5 t6 t7 t8 t9 t10 t11 t12 t13 t14 t15 N B F v) ⟨?oo, ?rr⟩) (by kernel_rfl) rfl (gtL (by decide)) (by decide)
  case oo =>
    refine (okc ?_ (okc ?_ (okc ?_ (okc ?_ (okc ?_ (okc ?_ (okc ?_ (okc ?_ (okc ?_ (okc ?_ okn))))))))))
    all_goals ((try simp (disch := omega) only [SS, nmK, hbl, hF2, hcF, z0, hlf, beq_self_eq_true, hv0, e53, hl2, bytesOf_full]); first | done | omega | assumption | (simp (disch := omega) only [SS, nmK, hbl, hF2, hcF, z0, hlf, beq_self_eq_true, hv0, e53, hl2, bytesOf_full] at *; first | done | omega | assumption) | (simp_all; done))
  case rr =>
    try simp (disch := omega) only [SS, nmK, hbl, hF2, hcF, z0, hlf, beq_self_eq_true, hv0, e53, hl2, bytesOf_full]
    repeat' apply And.intro
    all_goals first | exact True.intro | with_reducible rfl | omega | (intros; first | exact True.intro | with_reducible rfl | omega | (simp_all; done)) | (simp_all; done) | rfl

theorem mbSD_p0 (t0 t1 t2 t3 t4 t5 t6 t7 t8 t9 t10 t11 t12 t13 t14 t15 : List UInt8) (N : Nat) (B F : Ix → Int) (v : Int) :
    isEnd (evTill Tryd.prog sumsM0 300 (99) 900 8 [.code (bodyOf Tryd.f8)] (envOf [vL 100 1 N, vN v, .agg (arrT F)] Tryd.f8.ntmps) (allG t0 t1 t2 t3 t4 t5 t6 t7 t8 t9 t10 t11 t12 t13 t14 t15 ++ bE 100 N B ++ ([])) ⟨[.t, .f, .s false, .s true, .s true, .s true, .f, .f, .f, .t, .t, .t, .t, .t, .t, .f, .f, .s true, .s false, .s false, .s false, .s false, .t, .s false, .t, .t], 110⟩) (endP ([]) (YES) ([]) 900) =
    (OkL [(decide ((↑N : Int) > (100 : Int)), false), (decide ((↑N : Int) < (2 : Int)), true), (((0 : Nat) + N).ble N, true), (decide ((↑(bytesOf B [] (0 : Nat) N).length : Int) < (2 : Int)), true), (decide (v ≥ (251 : Int)), true), (!decide (v ≤ (254 : Int)), false), (v == (253 : Int), false), (decide (v < (251 : Int)), false), (decide (v > (254 : Int)), false), (v == (253 : Int), false)] ∧ true = (bytesOf (upd (upd (fun is => (0 : Int)) [(0 : Nat)] (IntKind.u8.wrap v)) [(1 : Nat)] (2 : Int)) [] (0 : Nat) (2 : Nat) == bytesOf (upd (upd (fun is => (0 : Int)) [(0 : Nat)] (IntKind.u8.wrap v)) [(1 : Nat)] (2 : Int)) [] (0 : Nat) (2 : Nat)) ∧ True) := by kernel_rfl

set_option maxHeartbeats 4000000 in
theorem mbSD (t0 t1 t2 t3 t4 t5 t6 t7 t8 t9 t10 t11 t12 t13 t14 t15 : List UInt8) (N : Nat) (B F : Ix → Int) (v : Int) (hB : ∀ i, i < N → 0 ≤ B [i] ∧ B [i] < 256) (hF : ∀ i, i < 32 → 0 ≤ F [i] ∧ F [i] < 256) (hv : -9223372036854775808 ≤ v ∧ v < 9223372036854775808) (hN : N < 2) (hv0 : 251 ≤ v ∧ v ≤ 254 ∧ v ≠ 253) :
    RunsTo Tryd.prog 8 [.code (bodyOf Tryd.f8)] (envOf [vL 100 1 N, vN v, .agg (arrT F)] Tryd.f8.ntmps) (Sx.look (allG t0 t1 t2 t3 t4 t5 t6 t7 t8 t9 t10 t11 t12 t13 t14 t15 ++ bE 100 N B ++ ([]))) 110 (YES) (Sx.look ([])) 900 := by
  have hbl := bytesOf_len B [] 0 N
  have hF2 := bndB_of hF
  have hcF := cut_bytes F 32 hF
  have hcu : cutN F 0 32 ≤ 32 := cutN_le _ _ _
  have z0 : ((0 : Nat) : Int) = 0 := rfl
  have hlf := bytesOf_len F [] 0 32
  have hcl : (cutL (bytesOf F [] 0 32)).length ≤ 32 := by rw [← hcF, bytesOf_len]; exact hcu
  have e53 : bytesOf (upd (upd (fun is => 0) [0] (IntKind.u8.wrap 253)) [1] 2) [] 0 2 = [253, 2] := rfl
  have hl2 : ([253, 2] : List UInt8).length = 2 := rfl
  have hu : IntKind.u8.wrap v = v := u8id (by omega)
  refine runs_last baseM0 (Sx.Ends.of (mbSD_p0 t0 t1 t2 t3 t4 t5 t6 t7 t8 t9 t10 t11 t12 t13 t14 t15 N B F v) ⟨?oo, ?rr⟩) (by kernel_rfl) rfl (gtL (by decide)) (by decide)
  case oo =>
    refine (okc ?_ (okc ?_ (okc ?_ (okc ?_ (okc ?_ (okc ?_ (okc ?_ (okc ?_ (okc ?_ (okc ?_ okn))))))))))
    all_goals ((try simp (disch := omega) only [SS, nmK, hbl, hF2, hcF, z0, hlf, beq_self_eq_true, hu]); first | done | omega | assumption | (simp (disch := omega) only [SS, nmK, hbl, hF2, hcF, z0, hlf, beq_self_eq_true, hu] at *; first | done | omega | assumption) | (simp_all; done))
  case rr =>
    try simp (disch := omega) only [SS, nmK, hbl, hF2, hcF, z0, hlf, beq_self_eq_true, hu]
    repeat' apply And.intro
    all_goals first | exact True.intro | with_reducible rfl | omega | (intros; first | exact True.intro | with_reducible rfl | omega | (simp_all; done)) | (simp_all; done) | rfl

theorem mbK0A_p0 (t0 t1 t2 t3 t4 t5 t6 t7 t8 t9 t10 t11 t12 t13 t14 t15 : List UInt8) (N : Nat) (B F : Ix → Int) (v : Int) :
    isEnd (evTill Tryd.prog sumsM0 300 (99) 900 8 [.code (bodyOf Tryd.f8)] (envOf [vL 100 1 N, vN v, .agg (arrT F)] Tryd.f8.ntmps) (allG t0 t1 t2 t3 t4 t5 t6 t7 t8 t9 t10 t11 t12 t13 t14 t15 ++ bE 100 N B ++ ([])) ⟨[.t, .f, .s false, .s false, .s true, .s true, .s true, .s false, .t, .s true, .s false, .s true, .s true, .f, .f, .f, .t, .t, .t, .t, .t, .t, .f, .f, .s false, .t, .s true, .t], 110⟩) (endP ([]) (YES) ([]) 900) =
    (OkL [(decide ((↑N : Int) > (100 : Int)), false), (decide ((↑N : Int) < (2 : Int)), false), (decide ((0 : Int) ≤ (0 : Int) ∧ (0 : Int) < (↑N : Int)), true), (Nat.blt (0 : Nat) N, true), (Nat.blt (0 : Nat) N, true), (decide (IntKind.i64.wrap (B [(0 : Nat)]) ≥ (251 : Int)), false), (((0 : Nat) + N).ble N, true), (decide ((↑(bytesOf B [] (0 : Nat) N).length : Int) < (2 : Int)), false), (decide ((0 : Int) ≤ (0 : Int) ∧ (0 : Int) < (↑(bytesOf B [] (0 : Nat) N).length : Int)), true), (decide ((↑((bytesOf B [] (0 : Nat) N).getD (0 : Nat) (0 : UInt8)).toNat : Int) < (251 : Int)), true), (decide (v ≥ (251 : Int)), false), (decide (v < (251 : Int)), true)] ∧ true = true ∧ True) := by kernel_rfl

set_option maxHeartbeats 4000000 in
theorem mbK0A (t0 t1 t2 t3 t4 t5 t6 t7 t8 t9 t10 t11 t12 t13 t14 t15 : List UInt8) (N : Nat) (B F : Ix → Int) (v : Int) (hB : ∀ i, i < N → 0 ≤ B [i] ∧ B [i] < 256) (hF : ∀ i, i < 32 → 0 ≤ F [i] ∧ F [i] < 256) (hv : -9223372036854775808 ≤ v ∧ v < 9223372036854775808) (hN : 2 ≤ N ∧ N ≤ 100) (hk : B [0] < 251) (hv0 : v < 251) :
    RunsTo Tryd.prog 8 [.code (bodyOf Tryd.f8)] (envOf [vL 100 1 N, vN v, .agg (arrT F)] Tryd.f8.ntmps) (Sx.look (allG t0 t1 t2 t3 t4 t5 t6 t7 t8 t9 t10 t11 t12 t13 t14 t15 ++ bE 100 N B ++ ([]))) 110 (YES) (Sx.look ([])) 900 := by
  have hbl := bytesOf_len B [] 0 N
  have hF2 := bndB_of hF
  have hcF := cut_bytes F 32 hF
  have hcu : cutN F 0 32 ≤ 32 := cutN_le _ _ _
  have z0 : ((0 : Nat) : Int) = 0 := rfl
  have hlf := bytesOf_len F [] 0 32
  have hcl : (cutL (bytesOf F [] 0 32)).length ≤ 32 := by rw [← hcF, bytesOf_len]; exact hcu
  have e53 : bytesOf (upd (upd (fun is => 0) [0] (IntKind.u8.wrap 253)) [1] 2) [] 0 2 = [253, 2] := rfl
  have hl2 : ([253, 2] : List UInt8).length = 2 := rfl
  have h0 := hB 0 (by omega)
  have h1 := hB 1 (by omega)
  have g0 : ((((bytesOf B [] 0 N).getD 0 0).toNat : Nat) : Int) = B [0] := bytesOf_nat (is := []) (st := 0) (by omega) h0
  have g1 : ((((bytesOf B [] 0 N).getD 1 0).toNat : Nat) : Int) = B [1] := bytesOf_nat (is := []) (st := 0) (by omega) h1
  refine runs_last baseM0 (Sx.Ends.of (mbK0A_p0 t0 t1 t2 t3 t4 t5 t6 t7 t8 t9 t10 t11 t12 t13 t14 t15 N B F v) ⟨?oo, ?rr⟩) (by kernel_rfl) rfl (gtL (by decide)) (by decide)
  case oo =>
    refine (okc ?_ (okc ?_ (okc ?_ (okc ?_ (okc ?_ (okc ?_ (okc ?_ (okc ?_ (okc ?_ (okc ?_ (okc ?_ (okc ?_ okn))))))))))))
    all_goals ((try simp (disch := omega) only [SS, nmK, hbl, hF2, hcF, z0, hlf, beq_self_eq_true, g0, g1]); first | done | omega | assumption | (simp (disch := omega) only [SS, nmK, hbl, hF2, hcF, z0, hlf, beq_self_eq_true, g0, g1] at *; first | done | omega | assumption) | (simp_all; done))
  case rr =>
    try simp (disch := omega) only [SS, nmK, hbl, hF2, hcF, z0, hlf, beq_self_eq_true, g0, g1]
    repeat' apply And.intro
    all_goals first | exact True.intro | with_reducible rfl | omega | (intros; first | exact True.intro | with_reducible rfl | omega | (simp_all; done)) | (simp_all; done) | rfl

theorem mbK0B_p0 (t0 t1 t2 t3 t4 t5 t6 t7 t8 t9 t10 t11 t12 t13 t14 t15 : List UInt8) (N : Nat) (B F : Ix → Int) (v : Int) :
    isEnd (evTill Tryd.prog sumsM0 300 (99) 900 8 [.code (bodyOf Tryd.f8)] (envOf [vL 100 1 N, vN v, .agg (arrT F)] Tryd.f8.ntmps) (allG t0 t1 t2 t3 t4 t5 t6 t7 t8 t9 t10 t11 t12 t13 t14 t15 ++ bE 100 N B ++ ([])) ⟨[.t, .f, .s false, .s false, .s true, .s true, .s true, .s false, .t, .s true, .s false, .s true, .s true, .f, .f, .f, .t, .t, .t, .t, .t, .t, .f, .f, .s true, .s true, .s false, .s true, .t], 110⟩) (endP ([]) (YES) ([]) 900) =
    (OkL [(decide ((↑N : Int) > (100 : Int)), false), (decide ((↑N : Int) < (2 : Int)), false), (decide ((0 : Int) ≤ (0 : Int) ∧ (0 : Int) < (↑N : Int)), true), (Nat.blt (0 : Nat) N, true), (Nat.blt (0 : Nat) N, true), (decide (IntKind.i64.wrap (B [(0 : Nat)]) ≥ (251 : Int)), false), (((0 : Nat) + N).ble N, true), (decide ((↑(bytesOf B [] (0 : Nat) N).length : Int) < (2 : Int)), false), (decide ((0 : Int) ≤ (0 : Int) ∧ (0 : Int) < (↑(bytesOf B [] (0 : Nat) N).length : Int)), true), (decide ((↑((bytesOf B [] (0 : Nat) N).getD (0 : Nat) (0 : UInt8)).toNat : Int) < (251 : Int)), true), (decide (v ≥ (251 : Int)), true), (!decide (v ≤ (254 : Int)), true), (decide (v < (251 : Int)), false), (decide (v > (254 : Int)), true)] ∧ true = true ∧ True) := by kernel_rfl

set_option maxHeartbeats 4000000 in
theorem mbK0B (t0 t1 t2 t3 t4 t5 t6 t7 t8 t9 t10 t11 t12 t13 t14 t15 : List UInt8) (N : Nat) (B F : Ix → Int) (v : Int) (hB : ∀ i, i < N → 0 ≤ B [i] ∧ B [i] < 256) (hF : ∀ i, i < 32 → 0 ≤ F [i] ∧ F [i] < 256) (hv : -9223372036854775808 ≤ v ∧ v < 9223372036854775808) (hN : 2 ≤ N ∧ N ≤ 100) (hk : B [0] < 251) (hv0 : 254 < v) :
    RunsTo Tryd.prog 8 [.code (bodyOf Tryd.f8)] (envOf [vL 100 1 N, vN v, .agg (arrT F)] Tryd.f8.ntmps) (Sx.look (allG t0 t1 t2 t3 t4 t5 t6 t7 t8 t9 t10 t11 t12 t13 t14 t15 ++ bE 100 N B ++ ([]))) 110 (YES) (Sx.look ([])) 900 := by
  have hbl := bytesOf_len B [] 0 N
  have hF2 := bndB_of hF
  have hcF := cut_bytes F 32 hF
  have hcu : cutN F 0 32 ≤ 32 := cutN_le _ _ _
  have z0 : ((0 : Nat) : Int) = 0 := rfl
  have hlf := bytesOf_len F [] 0 32
  have hcl : (cutL (bytesOf F [] 0 32)).length ≤ 32 := by rw [← hcF, bytesOf_len]; exact hcu
  have e53 : bytesOf (upd (upd (fun is => 0) [0] (IntKind.u8.wrap 253)) [1] 2) [] 0 2 = [253, 2] := rfl
  have hl2 : ([253, 2] : List UInt8).length = 2 := rfl
  have h0 := hB 0 (by omega)
  have h1 := hB 1 (by omega)
  have g0 : ((((bytesOf B [] 0 N).getD 0 0).toNat : Nat) : Int) = B [0] := bytesOf_nat (is := []) (st := 0) (by omega) h0
  have g1 : ((((bytesOf B [] 0 N).getD 1 0).toNat : Nat) : Int) = B [1] := bytesOf_nat (is := []) (st := 0) (by omega) h1
  refine runs_last baseM0 (Sx.Ends.of (mbK0B_p0 t0 t1 t2 t3 t4 t5 t6 t7 t8 t9 t10 t11 t12 t13 t14 t15 N B F v) ⟨?oo, ?rr⟩) (by kernel_rfl) rfl (gtL (by decide)) (by decide)
  case oo =>
    refine (okc ?_ (okc ?_ (okc ?_ (okc ?_ (okc ?_ (okc ?_ (okc ?_ (okc ?_ (okc ?_ (okc ?_ (okc ?_ (okc ?_ (okc ?_ (okc ?_ okn))))))))))))))
    all_goals ((try simp (disch := omega) only [SS, nmK, hbl, hF2, hcF, z0, hlf, beq_self_eq_true, g0, g1]); first | done | omega | assumption | (simp (disch := omega) only [SS, nmK, hbl, hF2, hcF, z0, hlf, beq_self_eq_true, g0, g1] at *; first | done | omega | assumption) | (simp_all; done))
  case rr =>
    try simp (disch := omega) only [SS, nmK, hbl, hF2, hcF, z0, hlf, beq_self_eq_true, g0, g1]
    repeat' apply And.intro
    all_goals first | exact True.intro | with_reducible rfl | omega | (intros; first | exact True.intro | with_reducible rfl | omega | (simp_all; done)) | (simp_all; done) | rfl

theorem mbK0C_p0 (t0 t1 t2 t3 t4 t5 t6 t7 t8 t9 t10 t11 t12 t13 t14 t15 : List UInt8) (N : Nat) (B F : Ix → Int) (v : Int) :
    isEnd (evTill Tryd.prog sumsN0 300 (99) 900 8 [.code (bodyOf Tryd.f8)] (envOf [vL 100 1 N, vN v, .agg (arrT F)] Tryd.f8.ntmps) (allG t0 t1 t2 t3 t4 t5 t6 t7 t8 t9 t10 t11 t12 t13 t14 t15 ++ bE 100 N B ++ ([])) ⟨[.t, .f, .s false, .s false, .s true, .s true, .s true, .s false, .t, .s true, .s false, .s true, .s true, .f, .f, .f, .t, .t, .t, .t, .t, .t, .f, .f, .s true, .s false, .s false, .t, .s true, .t, .t, .s true, .t, .s true], 110⟩) (endP ([]) (YES) ([]) 900) =
    (OkL [(decide ((↑N : Int) > (100 : Int)), false), (decide ((↑N : Int) < (2 : Int)), false), (decide ((0 : Int) ≤ (0 : Int) ∧ (0 : Int) < (↑N : Int)), true), (Nat.blt (0 : Nat) N, true), (Nat.blt (0 : Nat) N, true), (decide (IntKind.i64.wrap (B [(0 : Nat)]) ≥ (251 : Int)), false), (((0 : Nat) + N).ble N, true), (decide ((↑(bytesOf B [] (0 : Nat) N).length : Int) < (2 : Int)), false), (decide ((0 : Int) ≤ (0 : Int) ∧ (0 : Int) < (↑(bytesOf B [] (0 : Nat) N).length : Int)), true), (decide ((↑((bytesOf B [] (0 : Nat) N).getD (0 : Nat) (0 : UInt8)).toNat : Int) < (251 : Int)), true), (decide (v = (253 : Int)) && bndB (fun js => F js) (32 : Nat), true), (decide (v < (251 : Int)), false), (decide (v > (254 : Int)), false), (v == (253 : Int), true), (decide ((bytesOf (upd (upd (fun is => (0 : Int)) [(0 : Nat)] (IntKind.u8.wrap v)) [(1 : Nat)] (2 : Int)) [] (0 : Nat) (2 : Nat)).length + (cutL (bytesOf F [] (0 : Nat) (32 : Nat))).length ≤ (9223372036854775807 : Nat)), true), (((0 : Nat) + ([(253 : UInt8), (2 : UInt8)] ++ bytesOf (fun js => F js) [] (0 : Nat) (cutN (fun js => F js) (0 : Int) (32 : Nat))).length).ble ([(253 : UInt8), (2 : UInt8)] ++ bytesOf (fun js => F js) [] (0 : Nat) (cutN (fun js => F js) (0 : Int) (32 : Nat))).length, true)] ∧ true = (bytesOf (fun is => (↑(([(253 : UInt8), (2 : UInt8)] ++ bytesOf (fun js => F js) [] (0 : Nat) (cutN (fun js => F js) (0 : Int) (32 : Nat))).getD (List.headD is (0 : Nat)) (0 : UInt8)).toNat : Int)) [] (0 : Nat) ([(253 : UInt8), (2 : UInt8)] ++ bytesOf (fun js => F js) [] (0 : Nat) (cutN (fun js => F js) (0 : Int) (32 : Nat))).length == bytesOf (upd (upd (fun is => (0 : Int)) [(0 : Nat)] (IntKind.u8.wrap v)) [(1 : Nat)] (2 : Int)) [] (0 : Nat) (2 : Nat) ++ cutL (bytesOf F [] (0 : Nat) (32 : Nat))) ∧ True) := by kernel_rfl

set_option maxHeartbeats 4000000 in
theorem mbK0C (t0 t1 t2 t3 t4 t5 t6 t7 t8 t9 t10 t11 t12 t13 t14 t15 : List UInt8) (N : Nat) (B F : Ix → Int) (v : Int) (hB : ∀ i, i < N → 0 ≤ B [i] ∧ B [i] < 256) (hF : ∀ i, i < 32 → 0 ≤ F [i] ∧ F [i] < 256) (hv : -9223372036854775808 ≤ v ∧ v < 9223372036854775808) (hN : 2 ≤ N ∧ N ≤ 100) (hk : B [0] < 251) (hv0 : v = 253) :
    RunsTo Tryd.prog 8 [.code (bodyOf Tryd.f8)] (envOf [vL 100 1 N, vN v, .agg (arrT F)] Tryd.f8.ntmps) (Sx.look (allG t0 t1 t2 t3 t4 t5 t6 t7 t8 t9 t10 t11 t12 t13 t14 t15 ++ bE 100 N B ++ ([]))) 110 (YES) (Sx.look ([])) 900 := by
  have hbl := bytesOf_len B [] 0 N
  have hF2 := bndB_of hF
  have hcF := cut_bytes F 32 hF
  have hcu : cutN F 0 32 ≤ 32 := cutN_le _ _ _
  have z0 : ((0 : Nat) : Int) = 0 := rfl
  have hlf := bytesOf_len F [] 0 32
  have hcl : (cutL (bytesOf F [] 0 32)).length ≤ 32 := by rw [← hcF, bytesOf_len]; exact hcu
  have e53 : bytesOf (upd (upd (fun is => 0) [0] (IntKind.u8.wrap 253)) [1] 2) [] 0 2 = [253, 2] := rfl
  have hl2 : ([253, 2] : List UInt8).length = 2 := rfl
  have h0 := hB 0 (by omega)
  have h1 := hB 1 (by omega)
  have g0 : ((((bytesOf B [] 0 N).getD 0 0).toNat : Nat) : Int) = B [0] := bytesOf_nat (is := []) (st := 0) (by omega) h0
  have g1 : ((((bytesOf B [] 0 N).getD 1 0).toNat : Nat) : Int) = B [1] := bytesOf_nat (is := []) (st := 0) (by omega) h1
  refine runs_last baseN0 (Sx.Ends.of (mbK0C_p0 t0 t1 t2 t3 t4 t5 t6 t7 t8 t9 t10 t11 t12 t13 t14 t15 N B F v) ⟨?oo, ?rr⟩) (by kernel_rfl) rfl (gtL (by decide)) (by decide)
  case oo =>
    refine (okc ?_ (okc ?_ (okc ?_ (okc ?_ (okc ?_ (okc ?_ (okc ?_ (okc ?_ (okc ?_ (okc ?_ (okc ?_ (okc ?_ (okc ?_ (okc ?_ (okc ?_ (okc ?_ okn))))))))))))))))
    all_goals ((try simp (disch := omega) only [SS, nmK, hbl, hF2, hcF, z0, hlf, beq_self_eq_true, g0, g1, hv0, e53, hl2, bytesOf_full]); first | done | omega | assumption | (simp (disch := omega) only [SS, nmK, hbl, hF2, hcF, z0, hlf, beq_self_eq_true, g0, g1, hv0, e53, hl2, bytesOf_full] at *; first | done | omega | assumption) | (simp_all; done))
  case rr =>
    try simp (disch := omega) only [SS, nmK, hbl, hF2, hcF, z0, hlf, beq_self_eq_true, g0, g1, hv0, e53, hl2, bytesOf_full]
    repeat' apply And.intro
    all_goals first | exact True.intro | with_reducible rfl | omega | (intros; first | exact True.intro | with_reducible rfl | omega | (simp_all; done)) | (simp_all; done) | rfl

theorem mbK0D_p0 (t0 t1 t2 t3 t4 t5 t6 t7 t8 t9 t10 t11 t12 t13 t14 t15 : List UInt8) (N : Nat) (B F : Ix → Int) (v : Int) :
    isEnd (evTill Tryd.prog sumsM0 300 (99) 900 8 [.code (bodyOf Tryd.f8)] (envOf [vL 100 1 N, vN v, .agg (arrT F)] Tryd.f8.ntmps) (allG t0 t1 t2 t3 t4 t5 t6 t7 t8 t9 t10 t11 t12 t13 t14 t15 ++ bE 100 N B ++ ([])) ⟨[.t, .f, .s false, .s false, .s true, .s true, .s true, .s false, .t, .s true, .s false, .s true, .s true, .f, .f, .f, .t, .t, .t, .t, .t, .t, .f, .f, .s true, .s false, .s false, .s false, .s false, .t, .s false, .t, .t], 110⟩) (endP ([]) (YES) ([]) 900) =
    (OkL [(decide ((↑N : Int) > (100 : Int)), false), (decide ((↑N : Int) < (2 : Int)), false), (decide ((0 : Int) ≤ (0 : Int) ∧ (0 : Int) < (↑N : Int)), true), (Nat.blt (0 : Nat) N, true), (Nat.blt (0 : Nat) N, true), (decide (IntKind.i64.wrap (B [(0 : Nat)]) ≥ (251 : Int)), false), (((0 : Nat) + N).ble N, true), (decide ((↑(bytesOf B [] (0 : Nat) N).length : Int) < (2 : Int)), false), (decide ((0 : Int) ≤ (0 : Int) ∧ (0 : Int) < (↑(bytesOf B [] (0 : Nat) N).length : Int)), true), (decide ((↑((bytesOf B [] (0 : Nat) N).getD (0 : Nat) (0 : UInt8)).toNat : Int) < (251 : Int)), true), (decide (v ≥ (251 : Int)), true), (!decide (v ≤ (254 : Int)), false), (v == (253 : Int), false), (decide (v < (251 : Int)), false), (decide (v > (254 : Int)), false), (v == (253 : Int), false)] ∧ true = (bytesOf (upd (upd (fun is => (0 : Int)) [(0 : Nat)] (IntKind.u8.wrap v)) [(1 : Nat)] (2 : Int)) [] (0 : Nat) (2 : Nat) == bytesOf (upd (upd (fun is => (0 : Int)) [(0 : Nat)] (IntKind.u8.wrap v)) [(1 : Nat)] (2 : Int)) [] (0 : Nat) (2 : Nat)) ∧ True) := by kernel_rfl

set_option maxHeartbeats 4000000 in
theorem mbK0D (t0 t1 t2 t3 t4 t5 t6 t7 t8 t9 t10 t11 t12 t13 t14 t15 : List UInt8) (N : Nat) (B F : Ix → Int) (v : Int) (hB : ∀ i, i < N → 0 ≤ B [i] ∧ B [i] < 256) (hF : ∀ i, i < 32 → 0 ≤ F [i] ∧ F [i] < 256) (hv : -9223372036854775808 ≤ v ∧ v < 9223372036854775808) (hN : 2 ≤ N ∧ N ≤ 100) (hk : B [0] < 251) (hv0 : 251 ≤ v ∧ v ≤ 254 ∧ v ≠ 253) :
    RunsTo Tryd.prog 8 [.code (bodyOf Tryd.f8)] (envOf [vL 100 1 N, vN v, .agg (arrT F)] Tryd.f8.ntmps) (Sx.look (allG t0 t1 t2 t3 t4 t5 t6 t7 t8 t9 t10 t11 t12 t13 t14 t15 ++ bE 100 N B ++ ([]))) 110 (YES) (Sx.look ([])) 900 := by
  have hbl := bytesOf_len B [] 0 N
  have hF2 := bndB_of hF
  have hcF := cut_bytes F 32 hF
  have hcu : cutN F 0 32 ≤ 32 := cutN_le _ _ _
  have z0 : ((0 : Nat) : Int) = 0 := rfl
  have hlf := bytesOf_len F [] 0 32
  have hcl : (cutL (bytesOf F [] 0 32)).length ≤ 32 := by rw [← hcF, bytesOf_len]; exact hcu
  have e53 : bytesOf (upd (upd (fun is => 0) [0] (IntKind.u8.wrap 253)) [1] 2) [] 0 2 = [253, 2] := rfl
  have hl2 : ([253, 2] : List UInt8).length = 2 := rfl
  have h0 := hB 0 (by omega)
  have h1 := hB 1 (by omega)
  have g0 : ((((bytesOf B [] 0 N).getD 0 0).toNat : Nat) : Int) = B [0] := bytesOf_nat (is := []) (st := 0) (by omega) h0
  have g1 : ((((bytesOf B [] 0 N).getD 1 0).toNat : Nat) : Int) = B [1] := bytesOf_nat (is := []) (st := 0) (by omega) h1
  have hu : IntKind.u8.wrap v = v := u8id (by omega)
  refine runs_last baseM0 (Sx.Ends.of (mbK0D_p0 t0 t1 t2 t3 t4 t5 t6 t7 t8 t9 t10 t11 t12 t13 t14 t15 N B F v) ⟨?oo, ?rr⟩) (by kernel_rfl) rfl (gtL (by decide)) (by decide)
  case oo =>
    refine (okc ?_ (okc ?_ (okc ?_ (okc ?_ (okc ?_ (okc ?_ (okc ?_ (okc ?_ (okc ?_ (okc ?_ (okc ?_ (okc ?_ (okc ?_ (okc ?_ (okc ?_ (okc ?_ okn))))))))))))))))
    all_goals ((try simp (disch := omega) only [SS, nmK, hbl, hF2, hcF, z0, hlf, beq_self_eq_true, g0, g1, hu]); first | done | omega | assumption | (simp (disch := omega) only [SS, nmK, hbl, hF2, hcF, z0, hlf, beq_self_eq_true, g0, g1, hu] at *; first | done | omega | assumption) | (simp_all; done))
  case rr =>
    try simp (disch := omega) only [SS, nmK, hbl, hF2, hcF, z0, hlf, beq_self_eq_true, g0, g1, hu]
    repeat' apply And.intro
    all_goals first | exact True.intro | with_reducible rfl | omega | (intros; first | exact True.intro | with_reducible rfl | omega | (simp_all; done)) | (simp_all; done) | rfl

theorem mbK1A_p0 (t0 t1 t2 t3 t4 t5 t6 t7 t8 t9 t10 t11 t12 t13 t14 t15 : List UInt8) (N : Nat) (B F : Ix → Int) (v : Int) :
    isEnd (evTill Tryd.prog sumsM0 300 (99) 900 8 [.code (bodyOf Tryd.f8)] (envOf [vL 100 1 N, vN v, .agg (arrT F)] Tryd.f8.ntmps) (allG t0 t1 t2 t3 t4 t5 t6 t7 t8 t9 t10 t11 t12 t13 t14 t15 ++ bE 100 N B ++ ([])) ⟨[.t, .f, .s false, .s false, .s true, .s true, .s true, .s true, .s true, .s true, .s false, .s true, .s false, .s true, .s true, .f, .f, .f, .t, .t, .t, .t, .t, .t, .f, .f, .s false, .t, .s true, .t], 110⟩) (endP ([]) (YES) ([]) 900) =
    (OkL [(decide ((↑N : Int) > (100 : Int)), false), (decide ((↑N : Int) < (2 : Int)), false), (decide ((0 : Int) ≤ (0 : Int) ∧ (0 : Int) < (↑N : Int)), true), (Nat.blt (0 : Nat) N, true), (Nat.blt (0 : Nat) N, true), (decide (IntKind.i64.wrap (B [(0 : Nat)]) ≥ (251 : Int)), true), (!decide (IntKind.i64.wrap (B [(0 : Nat)]) ≤ (254 : Int)), true), (((0 : Nat) + N).ble N, true), (decide ((↑(bytesOf B [] (0 : Nat) N).length : Int) < (2 : Int)), false), (decide ((0 : Int) ≤ (0 : Int) ∧ (0 : Int) < (↑(bytesOf B [] (0 : Nat) N).length : Int)), true), (decide ((↑((bytesOf B [] (0 : Nat) N).getD (0 : Nat) (0 : UInt8)).toNat : Int) < (251 : Int)), false), (decide ((0 : Int) ≤ (0 : Int) ∧ (0 : Int) < (↑(bytesOf B [] (0 : Nat) N).length : Int)), true), (decide ((↑((bytesOf B [] (0 : Nat) N).getD (0 : Nat) (0 : UInt8)).toNat : Int) > (254 : Int)), true), (decide (v ≥ (251 : Int)), false), (decide (v < (251 : Int)), true)] ∧ true = true ∧ True) := by kernel_rfl

set_option maxHeartbeats 4000000 in
theorem mbK1A (t0 t1 t2 t3 t4 t5 t6 t7 t8 t9 t10 t11 t12 t13 t14 t15 : List UInt8) (N : Nat) (B F : Ix → Int) (v : Int) (hB : ∀ i, i < N → 0 ≤ B [i] ∧ B [i] < 256) (hF : ∀ i, i < 32 → 0 ≤ F [i] ∧ F [i] < 256) (hv : -9223372036854775808 ≤ v ∧ v < 9223372036854775808) (hN : 2 ≤ N ∧ N ≤ 100) (hk : 254 < B [0]) (hv0 : v < 251) :
    RunsTo Tryd.prog 8 [.code (bodyOf Tryd.f8)] (envOf [vL 100 1 N, vN v, .agg (arrT F)] Tryd.f8.ntmps) (Sx.look (allG t0 t1 t2 t3 t4 t5 t6 t7 t8 t9 t10 t11 t12 t13 t14 t15 ++ bE 100 N B ++ ([]))) 110 (YES) (Sx.look ([])) 900 := by
  have hbl := bytesOf_len B [] 0 N
  have hF2 := bndB_of hF
  have hcF := cut_bytes F 32 hF
  have hcu : cutN F 0 32 ≤ 32 := cutN_le _ _ _
  have z0 : ((0 : Nat) : Int) = 0 := rfl
  have hlf := bytesOf_len F [] 0 32
  have hcl : (cutL (bytesOf F [] 0 32)).length ≤ 32 := by rw [← hcF, bytesOf_len]; exact hcu
  have e53 : bytesOf (upd (upd (fun is => 0) [0] (IntKind.u8.wrap 253)) [1] 2) [] 0 2 = [253, 2] := rfl
  have hl2 : ([253, 2] : List UInt8).length = 2 := rfl
  have h0 := hB 0 (by omega)
  have h1 := hB 1 (by omega)
  have g0 : ((((bytesOf B [] 0 N).getD 0 0).toNat : Nat) : Int) = B [0] := bytesOf_nat (is := []) (st := 0) (by omega) h0
  have g1 : ((((bytesOf B [] 0 N).getD 1 0).toNat : Nat) : Int) = B [1] := bytesOf_nat (is := []) (st := 0) (by omega) h1
  refine runs_last baseM0 (Sx.Ends.of (mbK1A_p0 t0 t1 t2 t3 t4 t5 t6 t7 t8 t9 t10 t11 t12 t13 t14 t15 N B F v) ⟨?oo, ?rr⟩) (by kernel_rfl) rfl (gtL (by decide)) (by decide)
  case oo =>
    refine (okc ?_ (okc ?_ (okc ?_ (okc ?_ (okc ?_ (okc ?_ (okc ?_ (okc ?_ (okc ?_ (okc ?_ (okc ?_ (okc ?_ (okc ?_ (okc ?_ (okc ?_ okn)))))))))))))))
    all_goals ((try simp (disch := omega) only [SS, nmK, hbl, hF2, hcF, z0, hlf, beq_self_eq_true, g0, g1]); first | done | omega | assumption | (simp (disch := omega) only [SS, nmK, hbl, hF2, hcF, z0, hlf, beq_self_eq_true, g0, g1] at *; first | done | omega | assumption) | (simp_all; done))
  case rr =>
    try simp (disch := omega) only [SS, nmK, hbl, hF2, hcF, z0, hlf, beq_self_eq_true, g0, g1]
    repeat' apply And.intro
    all_goals first | exact True.intro | with_reducible rfl | omega | (intros; first | exact True.intro | with_reducible rfl | omega | (simp_all; done)) | (simp_all; done) | rfl

theorem mbK1B_p0 (t0 t1 t2 t3 t4 t5 t6 t7 t8 t9 t10 t11 t12 t13 t14 t15 : List UInt8) (N : Nat) (B F : Ix → Int) (v : Int) :
    isEnd (evTill Tryd.prog sumsM0 300 (99) 900 8 [.code (bodyOf Tryd.f8)] (envOf [vL 100 1 N, vN v, .agg (arrT F)] Tryd.f8.ntmps) (allG t0 t1 t2 t3 t4 t5 t6 t7 t8 t9 t10 t11 t12 t13 t14 t15 ++ bE 100 N B ++ ([])) ⟨[.t, .f, .s false, .s false, .s true, .s true, .s true, .s true, .s true, .s true, .s false, .s true, .s false, .s true, .s true, .f, .f, .f, .t, .t, .t, .t, .t, .t, .f, .f, .s true, .s true, .s false, .s true, .t], 110⟩) (endP ([]) (YES) ([]) 900) =
    (OkL [(decide ((↑N : Int) > (100 : Int)), false), (decide ((↑N : Int) < (2 : Int)), false), (decide ((0 : Int) ≤ (0 : Int) ∧ (0 : Int) < (↑N : Int)), true), (Nat.blt (0 : Nat) N, true), (Nat.blt (0 : Nat) N, true), (decide (IntKind.i64.wrap (B [(0 : Nat)]) ≥ (251 : Int)), true), (!decide (IntKind.i64.wrap (B [(0 : Nat)]) ≤ (254 : Int)), true), (((0 : Nat) + N).ble N, true), (decide ((↑(bytesOf B [] (0 : Nat) N).length : Int) < (2 : Int)), false), (decide ((0 : Int) ≤ (0 : Int) ∧ (0 : Int) < (↑(bytesOf B [] (0 : Nat) N).length : Int)), true), (decide ((↑((bytesOf B [] (0 : Nat) N).getD (0 : Nat) (0 : UInt8)).toNat : Int) < (251 : Int)), false), (decide ((0 : Int) ≤ (0 : Int) ∧ (0 : Int) < (↑(bytesOf B [] (0 : Nat) N).length : Int)), true), (decide ((↑((bytesOf B [] (0 : Nat) N).getD (0 : Nat) (0 : UInt8)).toNat : Int) > (254 : Int)), true), (decide (v ≥ (251 : Int)), true), (!decide (v ≤ (254 : Int)), true), (decide (v < (251 : Int)), false), (decide (v > (254 : Int)), true)] ∧ true = true ∧ True) := by kernel_rfl

set_option maxHeartbeats 4000000 in
theorem mbK1B (t0 t1 t2 t3 t4 t5 t6 t7 t8 t9 t10 t11 t12 t13 t14 t15 : List UInt8) (N : Nat) (B F : Ix → Int) (v : Int) (hB : ∀ i, i < N → 0 ≤ B [i] ∧ B [i] < 256) (hF : ∀ i, i < 32 → 0 ≤ F [i] ∧ F [i] < 256) (hv : -9223372036854775808 ≤ v ∧ v < 9223372036854775808) (hN : 2 ≤ N ∧ N ≤ 100) (hk : 254 < B [0]) (hv0 : 254 < v) :
    RunsTo Tryd.prog 8 [.code (bodyOf Tryd.f8)] (envOf [vL 100 1 N, vN v, .agg (arrT F)] Tryd.f8.ntmps) (Sx.look (allG t0 t1 t2 t3 t4 t5 t6 t7 t8 t9 t10 t11 t12 t13 t14 t15 ++ bE 100 N B ++ ([]))) 110 (YES) (Sx.look ([])) 900 := by
  have hbl := bytesOf_len B [] 0 N
  have hF2 := bndB_of hF
  have hcF := cut_bytes F 32 hF
  have hcu : cutN F 0 32 ≤ 32 := cutN_le _ _ _
  have z0 : ((0 : Nat) : Int) = 0 := rfl
  have hlf := bytesOf_len F [] 0 32
  have hcl : (cutL (bytesOf F [] 0 32)).length ≤ 32 := by rw [← hcF, bytesOf_len]; exact hcu
  have e53 : bytesOf (upd (upd (fun is => 0) [0] (IntKind.u8.wrap 253)) [1] 2) [] 0 2 = [253, 2] := rfl
  have hl2 : ([253, 2] : List UInt8).length = 2 := rfl
  have h0 := hB 0 (by omega)
  have h1 := hB 1 (by omega)
  have g0 : ((((bytesOf B [] 0 N).getD 0 0).toNat : Nat) : Int) = B [0] := bytesOf_nat (is := []) (st := 0) (by omega) h0
  have g1 : ((((bytesOf B [] 0 N).getD 1 0).toNat : Nat) : Int) = B [1] := bytesOf_nat (is := []) (st := 0) (by omega) h1
  refine runs_last baseM0 (Sx.Ends.of (mbK1B_p0 t0 t1 t2 t3 t4 t5 t6 t7 t8 t9 t10 t11 t12 t13 t14 t15 N B F v) ⟨?oo, ?rr⟩) (by kernel_rfl) rfl (gtL (by decide)) (by decide)
  case oo =>
    refine (okc ?_ (okc ?_ (okc ?_ (okc ?_ (okc ?_ (okc ?_ (okc ?_ (okc ?_ (okc ?_ (okc ?_ (okc ?_ (okc ?_ (okc ?_ (okc ?_ (okc ?_ (okc ?_ (okc ?_ okn)))))))))))))))))
    all_goals ((try simp (disch := omega) only [SS, nmK, hbl, hF2, hcF, z0, hlf, beq_self_eq_true, g0, g1]); first | done | omega | assumption | (simp (disch := omega) only [SS, nmK, hbl, hF2, hcF, z0, hlf, beq_self_eq_true, g0, g1] at *; first | done | omega | assumption) | (simp_all; done))
  case rr =>
    try simp (disch := omega) only [SS, nmK, hbl, hF2, hcF, z0, hlf, beq_self_eq_true, g0, g1]
    repeat' apply And.intro
    all_goals first | exact True.intro | with_reducible rfl | omega | (intros; first | exact True.intro | with_reducible rfl | omega | (simp_all; done)) | (simp_all; done) | rfl

theorem mbK1C_p0 (t0 t1 t2 t3 t4 t5 t6 t7 t8 t9 t10 t11 t12 t13 t14 t15 : List UInt8) (N : Nat) (B F : Ix → Int) (v : Int) :
    isEnd (evTill Tryd.prog sumsN0 300 (99) 900 8 [.code (bodyOf Tryd.f8)] (envOf [vL 100 1 N, vN v, .agg (arrT F)] Tryd.f8.ntmps) (allG t0 t1 t2 t3 t4 t5 t6 t7 t8 t9 t10 t11 t12 t13 t14 t15 ++ bE 100 N B ++ ([])) ⟨[.t, .f, .s false, .s false, .s true, .s true, .s true, .s true, .s true, .s true, .s false, .s true, .s false, .s true, .s true, .f, .f, .f, .t, .t, .t, .t, .t, .t, .f, .f, .s true, .s false, .s false, .t, .s true, .t, .t, .s true, .t, .s true], 110⟩) (endP ([]) (YES) ([]) 900) =
    (OkL [(decide ((↑N : Int) > (100 : Int)), false), (decide ((↑N : Int) < (2 : Int)), false), (decide ((0 : Int) ≤ (0 : Int) ∧ (0 : Int) < (↑N : Int)), true), (Nat.blt (0 : Nat) N, true), (Nat.blt (0 : Nat) N, true), (decide (IntKind.i64.wrap (B [(0 : Nat)]) ≥ (251 : Int)), true), (!decide (IntKind.i64.wrap (B [(0 : Nat)]) ≤ (254 : Int)), true), (((0 : Nat) + N).ble N, true), (decide ((↑(bytesOf B [] (0 : Nat) N).length : Int) < (2 : Int)), false), (decide ((0 : Int) ≤ (0 : Int) ∧ (0 : Int) < (↑(bytesOf B [] (0 : Nat) N).length : Int)), true), (decide ((↑((bytesOf B [] (0 : Nat) N).getD (0 : Nat) (0 : UInt8)).toNat : Int) < (251 : Int)), false), (decide ((0 : Int) ≤ (0 : Int) ∧ (0 : Int) < (↑(bytesOf B [] (0 : Nat) N).length : Int)), true), (decide ((↑((bytesOf B [] (0 : Nat) N).getD (0 : Nat) (0 : UInt8)).toNat : Int) > (254 : Int)), true), (decide (v = (253 : Int)) && bndB (fun js => F js) (32 : Nat), true), (decide (v < (251 : Int)), false), (decide (v > (254 : Int)), false), (v == (253 : Int), true), (decide ((bytesOf (upd (upd (fun is => (0 : Int)) [(0 : Nat)] (IntKind.u8.wrap v)) [(1 : Nat)] (2 : Int)) [] (0 : Nat) (2 : Nat)).length + (cutL (bytesOf F [] (0 : Nat) (32 : Nat))).length ≤ (9223372036854775807 : Nat)), true), (((0 : Nat) + ([(253 : UInt8), (2 : UInt8)] ++ bytesOf (fun js => F js) [] (0 : Nat) (cutN (fun js => F js) (0 : Int) (32 : Nat))).length).ble ([(253 : UInt8), (2 : UInt8)] ++ bytesOf (fun js => F js) [] (0 : Nat) (cutN (fun js => F js) (0 : Int) (32 : Nat))).length, true)] ∧ true = (bytesOf (fun is => (↑(([(253 : UInt8), (2 : UInt8)] ++ bytesOf (fun js => F js) [] (0 : Nat) (cutN (fun js => F js) (0 : Int) (32 : Nat))).getD (List.headD is (0 : Nat)) (0 : UInt8)).toNat : Int)) [] (0 : Nat) ([(253 : UInt8), (2 : UInt8)] ++ bytesOf (fun js => F js) [] (0 : Nat) (cutN (fun js => F js) (0 : Int) (32 : Nat))).length == bytesOf (upd (upd (fun is => (0 : Int)) [(0 : Nat)] (IntKind.u8.wrap v)) [(1 : Nat)] (2 : Int)) [] (0 : Nat) (2 : Nat) ++ cutL (bytesOf F [] (0 : Nat) (32 : Nat))) ∧ True) := by kernel_rfl

set_option maxHeartbeats 4000000 in
theorem mbK1C (t0 t1 t2 t3 t4 t5 t6 t7 t8 t9 t10 t11 t12 t13 t14 t15 : List UInt8) (N : Nat) (B F : Ix → Int) (v : Int) (hB : ∀ i, i < N → 0 ≤ B [i] ∧ B [i] < 256) (hF : ∀ i, i < 32 → 0 ≤ F [i] ∧ F [i] < 256) (hv : -9223372036854775808 ≤ v ∧ v < 9223372036854775808) (hN : 2 ≤ N ∧ N ≤ 100) (hk : 254 < B [0]) (hv0 : v = 253) :
    RunsTo Tryd.prog 8 [.code (bodyOf Tryd.f8)] (envOf [vL 100 1 N, vN v, .agg (arrT F)] Tryd.f8.ntmps) (Sx.look (allG t0 t1 t2 t3 t4 t5 t6 t7 t8 t9 t10 t11 t12 t13 t14 t15 ++ bE 100 N B ++ ([]))) 110 (YES) (Sx.look ([])) 900 := by
  have hbl := bytesOf_len B [] 0 N
  have hF2 := bndB_of hF
  have hcF := cut_bytes F 32 hF
  have hcu : cutN F 0 32 ≤ 32 := cutN_le _ _ _
  have z0 : ((0 : Nat) : Int) = 0 := rfl
  have hlf := bytesOf_len F [] 0 32
  have hcl : (cutL (bytesOf F [] 0 32)).length ≤ 32 := by rw [← hcF, bytesOf_len]; exact hcu
  have e53 : bytesOf (upd (upd (fun is => 0) [0] (IntKind.u8.wrap 253)) [1] 2) [] 0 2 = [253, 2] := rfl
  have hl2 : ([253, 2] : List UInt8).length = 2 := rfl
  have h0 := hB 0 (by omega)
  have h1 := hB 1 (by omega)
  have g0 : ((((bytesOf B [] 0 N).getD 0 0).toNat : Nat) : Int) = B [0] := bytesOf_nat (is := []) (st := 0) (by omega) h0
  have g1 : ((((bytesOf B [] 0 N).getD 1 0).toNat : Nat) : Int) = B [1] := bytesOf_nat (is := []) (st := 0) (by omega) h1
  refine runs_last baseN0 (Sx.Ends.of (mbK1C_p0 t0 t1 t2 t3 t4 t5 t6 t7 t8 t9 t10 t11 t12 t13 t14 t15 N B F v) ⟨?oo, ?rr⟩) (by kernel_rfl) rfl (gtL (by decide)) (by decide)
  case oo =>
    refine (okc ?_ (okc ?_ (okc ?_ (okc ?_ (okc ?_ (okc ?_ (okc ?_ (okc ?_ (okc ?_ (okc ?_ (okc ?_ (okc ?_ (okc ?_ (okc ?_ (okc ?_ (okc ?_ (okc ?_ (okc ?_ (okc ?_ okn)))))))))))))))))))
    all_goals ((try simp (disch := omega) only [SS, nmK, hbl, hF2, hcF, z0, hlf, beq_self_eq_true, g0, g1, hv0, e53, hl2, bytesOf_full]); first | done | omega | assumption | (simp (disch := omega) only [SS, nmK, hbl, hF2, hcF, z0, hlf, beq_self_eq_true, g0, g1, hv0, e53, hl2, bytesOf_full] at *; first | done | omega | assumption) | (simp_all; done))
  case rr =>
    try simp (disch := omega) only [SS, nmK, hbl, hF2, hcF, z0, hlf, beq_self_eq_true, g0, g1, hv0, e53, hl2, bytesOf_full]
    repeat' apply And.intro
    all_goals first | exact True.intro | with_reducible rfl | omega | (intros; first | exact True.intro | with_reducible rfl | omega | (simp_all; done)) | (simp_all; done) | rfl

theorem mbK1D_p0 (t0 t1 t2 t3 t4 t5 t6 t7 t8 t9 t10 t11 t12 t13 t14 t15 : List UInt8) (N : Nat) (B F : Ix → Int) (v : Int) :
    isEnd (evTill Tryd.prog sumsM0 300 (99) 900 8 [.code (bodyOf Tryd.f8)] (envOf [vL 100 1 N, vN v, .agg (arrT F)] Tryd.f8.ntmps) (allG t0 t1 t2 t3 t4 t5 t6 t7 t8 t9 t10 t11 t12 t13 t14 t15 ++ bE 100 N B ++ ([])) ⟨[.t, .f, .s false, .s false, .s true, .s true, .s true, .s true, .s true, .s true, .s false, .s true, .s false, .s true, .s true, .f, .f, .f, .t, .t, .t, .t, .t, .t, .f, .f, .s true, .s false, .s false, .s false, .s false, .t, .s false, .t, .t], 110⟩) (endP ([]) (YES) ([]) 900) =
    (OkL [(decide ((↑N : Int) > (100 : Int)), false), (decide ((↑N : Int) < (2 : Int)), false), (decide ((0 : Int) ≤ (0 : Int) ∧ (0 : Int) < (↑N : Int)), true), (Nat.blt (0 : Nat) N, true), (Nat.blt (0 : Nat) N, true), (decide (IntKind.i64.wrap (B [(0 : Nat)]) ≥ (251 : Int)), true), (!decide (IntKind.i64.wrap (B [(0 : Nat)]) ≤ (254 : Int)), true), (((0 : Nat) + N).ble N, true), (decide ((↑(bytesOf B [] (0 : Nat) N).length : Int) < (2 : Int)), false), (decide ((0 : Int) ≤ (0 : Int) ∧ (0 : Int) < (↑(bytesOf B [] (0 : Nat) N).length : Int)), true), (decide ((↑((bytesOf B [] (0 : Nat) N).getD (0 : Nat) (0 : UInt8)).toNat : Int) < (251 : Int)), false), (decide ((0 : Int) ≤ (0 : Int) ∧ (0 : Int) < (↑(bytesOf B [] (0 : Nat) N).length : Int)), true), (decide ((↑((bytesOf B [] (0 : Nat) N).getD (0 : Nat) (0 : UInt8)).toNat : Int) > (254 : Int)), true), (decide (v ≥ (251 : Int)), true), (!decide (v ≤ (254 : Int)), false), (v == (253 : Int), false), (decide (v < (251 : Int)), false), (decide (v > (254 : Int)), false), (v == (253 : Int), false)] ∧ true = (bytesOf (upd (upd (fun is => (0 : Int)) [(0 : Nat)] (IntKind.u8.wrap v)) [(1 : Nat)] (2 : Int)) [] (0 : Nat) (2 : Nat) == bytesOf (upd (upd (fun is => (0 : Int)) [(0 : Nat)] (IntKind.u8.wrap v)) [(1 : Nat)] (2 : Int)) [] (0 : Nat) (2 : Nat)) ∧ True) := by kernel_rfl

set_option maxHeartbeats 4000000 in
theorem mbK1D (t0 t1 t2 t3 t4 t5 t6 t7 t8 t9 t10 t11 t12 t13 t14 t15 : List UInt8) (N : Nat) (B F : Ix → Int) (v : Int) (hB : ∀ i, i < N → 0 ≤ B [i] ∧ B [i] < 256) (hF : ∀ i, i < 32 → 0 ≤ F [i] ∧ F [i] < 256) (hv : -9223372036854775808 ≤ v ∧ v < 9223372036854775808) (hN : 2 ≤ N ∧ N ≤ 100) (hk : 254 < B [0]) (hv0 : 251 ≤ v ∧ v ≤ 254 ∧ v ≠ 253) :
    RunsTo Tryd.prog 8 [.code (bodyOf Tryd.f8)] (envOf [vL 100 1 N, vN v, .agg (arrT F)] Tryd.f8.ntmps) (Sx.look (allG t0 t1 t2 t3 t4 t5 t6 t7 t8 t9 t10 t11 t12 t13 t14 t15 ++ bE 100 N B ++ ([]))) 110 (YES) (Sx.look ([])) 900 := by
  have hbl := bytesOf_len B [] 0 N
  have hF2 := bndB_of hF
  have hcF := cut_bytes F 32 hF
  have hcu : cutN F 0 32 ≤ 32 := cutN_le _ _ _
  have z0 : ((0 : Nat) : Int) = 0 := rfl
  have hlf := bytesOf_len F [] 0 32
  have hcl : (cutL (bytesOf F [] 0 32)).length ≤ 32 := by rw [← hcF, bytesOf_len]; exact hcu
  have e53 : bytesOf (upd (upd (fun is => 0) [0] (IntKind.u8.wrap 253)) [1] 2) [] 0 2 = [253, 2] := rfl
  have hl2 : ([253, 2] : List UInt8).length = 2 := rfl
  have h0 := hB 0 (by omega)
  have h1 := hB 1 (by omega)
  have g0 : ((((bytesOf B [] 0 N).getD 0 0).toNat : Nat) : Int) = B [0] := bytesOf_nat (is := []) (st := 0) (by omega) h0
  have g1 : ((((bytesOf B [] 0 N).getD 1 0).toNat : Nat) : Int) = B [1] := bytesOf_nat (is := []) (st := 0) (by omega) h1
  have hu : IntKind.u8.wrap v = v := u8id (by omega)
  refine runs_last baseM0 (Sx.Ends.of (mbK1D_p0 t0 t1 t2 t3 t4 t5 t6 t7 t8 t9 t10 t11 t12 t13 t14 t15 N B F v) ⟨?oo, ?rr⟩) (by kernel_rfl) rfl (gtL (by decide)) (by decide)
  case oo =>
    refine (okc ?_ (okc ?_ (okc ?_ (okc ?_ (okc ?_ (okc ?_ (okc ?_ (okc ?_ (okc ?_ (okc ?_ (okc ?_ (okc ?_ (okc ?_ (okc ?_ (okc ?_ (okc ?_ (okc ?_ (okc ?_ (okc ?_ okn)))))))))))))))))))
    all_goals ((try simp (disch := omega) only [SS, nmK, hbl, hF2, hcF, z0, hlf, beq_self_eq_true, g0, g1, hu]); first | done | omega | assumption | (simp (disch := omega) only [SS, nmK, hbl, hF2, hcF, z0, hlf, beq_self_eq_true, g0, g1, hu] at *; first | done | omega | assumption) | (simp_all; done))
  case rr =>
    try simp (disch := omega) only [SS, nmK, hbl, hF2, hcF, z0, hlf, beq_self_eq_true, g0, g1, hu]
    repeat' apply And.intro
    all_goals first | exact True.intro | with_reducible rfl | omega | (intros; first | exact True.intro | with_reducible rfl | omega | (simp_all; done)) | (simp_all; done) | rfl

theorem mbK2A_p0 (t0 t1 t2 t3 t4 t5 t6 t7 t8 t9 t10 t11 t12 t13 t14 t15 : List UInt8) (N : Nat) (B F : Ix → Int) (v : Int) :
    isEnd (evTill Tryd.prog sumsM0 300 (99) 900 8 [.code (bodyOf Tryd.f8)] (envOf [vL 100 1 N, vN v, .agg (arrT F)] Tryd.f8.ntmps) (allG t0 t1 t2 t3 t4 t5 t6 t7 t8 t9 t10 t11 t12 t13 t14 t15 ++ bE 100 N B ++ ([])) ⟨[.t, .f, .s false, .s false, .s true, .s true, .s true, .s true, .s false, .s true, .s true, .s true, .s true, .s true, .s false, .s true, .s false, .s true, .s false, .s true, .s true, .f, .f, .f, .t, .t, .t, .t, .t, .t, .f, .f, .s false, .t, .s true, .t], 110⟩) (endP ([]) (YES) ([]) 900) =
    (OkL [(decide ((↑N : Int) > (100 : Int)), false), (decide ((↑N : Int) < (2 : Int)), false), (decide ((0 : Int) ≤ (0 : Int) ∧ (0 : Int) < (↑N : Int)), true), (Nat.blt (0 : Nat) N, true), (Nat.blt (0 : Nat) N, true), (decide (IntKind.i64.wrap (B [(0 : Nat)]) ≥ (251 : Int)), true), (!decide (IntKind.i64.wrap (B [(0 : Nat)]) ≤ (254 : Int)), false), (decide ((0 : Int) ≤ (1 : Int) ∧ (1 : Int) < (↑N : Int)), true), (Nat.blt (1 : Nat) N, true), (Nat.blt (1 : Nat) N, true), (B [(1 : Nat)] != (2 : Int), true), (((0 : Nat) + N).ble N, true), (decide ((↑(bytesOf B [] (0 : Nat) N).length : Int) < (2 : Int)), false), (decide ((0 : Int) ≤ (0 : Int) ∧ (0 : Int) < (↑(bytesOf B [] (0 : Nat) N).length : Int)), true), (decide ((↑((bytesOf B [] (0 : Nat) N).getD (0 : Nat) (0 : UInt8)).toNat : Int) < (251 : Int)), false), (decide ((0 : Int) ≤ (0 : Int) ∧ (0 : Int) < (↑(bytesOf B [] (0 : Nat) N).length : Int)), true), (decide ((↑((bytesOf B [] (0 : Nat) N).getD (0 : Nat) (0 : UInt8)).toNat : Int) > (254 : Int)), false), (decide ((0 : Int) ≤ (1 : Int) ∧ (1 : Int) < (↑(bytesOf B [] (0 : Nat) N).length : Int)), true), ((↑((bytesOf B [] (0 : Nat) N).getD (1 : Nat) (0 : UInt8)).toNat : Int) != (2 : Int), true), (decide (v ≥ (251 : Int)), false), (decide (v < (251 : Int)), true)] ∧ true = true ∧ True) := by kernel_rfl

set_option maxHeartbeats 4000000 in
theorem mbK2A (t0 t1 t2 t3 t4 t5 t6 t7 t8 t9 t10 t11 t12 t13 t14 t15 : List UInt8) (N : Nat) (B F : Ix → Int) (v : Int) (hB : ∀ i, i < N → 0 ≤ B [i] ∧ B [i] < 256) (hF : ∀ i, i < 32 → 0 ≤ F [i] ∧ F [i] < 256) (hv : -9223372036854775808 ≤ v ∧ v < 9223372036854775808) (hN : 2 ≤ N ∧ N ≤ 100) (hk : 251 ≤ B [0] ∧ B [0] ≤ 254) (hk1 : B [1] ≠ 2) (hv0 : v < 251) :
    RunsTo Tryd.prog 8 [.code (bodyOf Tryd.f8)] (envOf [vL 100 1 N, vN v, .agg (arrT F)] Tryd.f8.ntmps) (Sx.look (allG t0 t1 t2 t3 t4 t5 t6 t7 t8 t9 t10 t11 t12 t13 t14 t15 ++ bE 100 N B ++ ([]))) 110 (YES) (Sx.look ([])) 900 := by
  have hbl := bytesOf_len B [] 0 N
  have hF2 := bndB_of hF
  have hcF := cut_bytes F 32 hF
  have hcu : cutN F 0 32 ≤ 32 := cutN_le _ _ _
  have z0 : ((0 : Nat) : Int) = 0 := rfl
  have hlf := bytesOf_len F [] 0 32
  have hcl : (cutL (bytesOf F [] 0 32)).length ≤ 32 := by rw [← hcF, bytesOf_len]; exact hcu
  have e53 : bytesOf (upd (upd (fun is => 0) [0] (IntKind.u8.wrap 253)) [1] 2) [] 0 2 = [253, 2] := rfl
  have hl2 : ([253, 2] : List UInt8).length = 2 := rfl
  have h0 := hB 0 (by omega)
  have h1 := hB 1 (by omega)
  have g0 : ((((bytesOf B [] 0 N).getD 0 0).toNat : Nat) : Int) = B [0] := bytesOf_nat (is := []) (st := 0) (by omega) h0
  have g1 : ((((bytesOf B [] 0 N).getD 1 0).toNat : Nat) : Int) = B [1] := bytesOf_nat (is := []) (st := 0) (by omega) h1
  refine runs_last baseM0 (Sx.Ends.of (mbK2A_p0 t0 t1 t2 t3 t4 t5 t6 t7 t8 t9 t10 t11 t12 t13 t14 t15 N B F v) ⟨?oo, ?rr⟩) (by kernel_rfl) rfl (gtL (by decide)) (by decide)
  case oo =>
    refine (okc ?_ (okc ?_ (okc ?_ (okc ?_ (okc ?_ (okc ?_ (okc ?_ (okc ?_ (okc ?_ (okc ?_ (okc ?_ (okc ?_ (okc ?_ (okc ?_ (okc ?_ (okc ?_ (okc ?_ (okc ?_ (okc ?_ (okc ?_ (okc ?_ okn)))))))))))))))))))))
    all_goals ((try simp (disch := omega) only [SS, nmK, hbl, hF2, hcF, z0, hlf, beq_self_eq_true, g0, g1]); first | done | omega | assumption | (simp (disch := omega) only [SS, nmK, hbl, hF2, hcF, z0, hlf, beq_self_eq_true, g0, g1] at *; first | done | omega | assumption) | (simp_all; done))
  case rr =>
    try simp (disch := omega) only [SS, nmK, hbl, hF2, hcF, z0, hlf, beq_self_eq_true, g0, g1]
    repeat' apply And.intro
    all_goals first | exact True.intro | with_reducible rfl | omega | (intros; first | exact True.intro | with_reducible rfl | omega | (simp_all; done)) | (simp_all; done) | rfl

theorem mbK2B_p0 (t0 t1 t2 t3 t4 t5 t6 t7 t8 t9 t10 t11 t12 t13 t14 t15 : List UInt8) (N : Nat) (B F : Ix → Int) (v : Int) :
    isEnd (evTill Tryd.prog sumsM0 300 (99) 900 8 [.code (bodyOf Tryd.f8)] (envOf [vL 100 1 N, vN v, .agg (arrT F)] Tryd.f8.ntmps) (allG t0 t1 t2 t3 t4 t5 t6 t7 t8 t9 t10 t11 t12 t13 t14 t15 ++ bE 100 N B ++ ([])) ⟨[.t, .f, .s false, .s false, .s true, .s true, .s true, .s true, .s false, .s true, .s true, .s true, .s true, .s true, .s false, .s true, .s false, .s true, .s false, .s true, .s true, .f, .f, .f, .t, .t, .t, .t, .t, .t, .f, .f, .s true, .s true, .s false, .s true, .t], 110⟩) (endP ([]) (YES) ([]) 900) =
    (OkL [(decide ((↑N : Int) > (100 : Int)), false), (decide ((↑N : Int) < (2 : Int)), false), (decide ((0 : Int) ≤ (0 : Int) ∧ (0 : Int) < (↑N : Int)), true), (Nat.blt (0 : Nat) N, true), (Nat.blt (0 : Nat) N, true), (decide (IntKind.i64.wrap (B [(0 : Nat)]) ≥ (251 : Int)), true), (!decide (IntKind.i64.wrap (B [(0 : Nat)]) ≤ (254 : Int)), false), (decide ((0 : Int) ≤ (1 : Int) ∧ (1 : Int) < (↑N : Int)), true), (Nat.blt (1 : Nat) N, true), (Nat.blt (1 : Nat) N, true), (B [(1 : Nat)] != (2 : Int), true), (((0 : Nat) + N).ble N, true), (decide ((↑(bytesOf B [] (0 : Nat) N).length : Int) < (2 : Int)), false), (decide ((0 : Int) ≤ (0 : Int) ∧ (0 : Int) < (↑(bytesOf B [] (0 : Nat) N).length : Int)), true), (decide ((↑((bytesOf B [] (0 : Nat) N).getD (0 : Nat) (0 : UInt8)).toNat : Int) < (251 : Int)), false), (decide ((0 : Int) ≤ (0 : Int) ∧ (0 : Int) < (↑(bytesOf B [] (0 : Nat) N).length : Int)), true), (decide ((↑((bytesOf B [] (0 : Nat) N).getD (0 : Nat) (0 : UInt8)).toNat : Int) > (254 : Int)), false), (decide ((0 : Int) ≤ (1 : Int) ∧ (1 : Int) < (↑(bytesOf B [] (0 : Nat) N).length : Int)), true), ((↑((bytesOf B [] (0 : Nat) N).getD (1 : Nat) (0 : UInt8)).toNat : Int) != (2 : Int), true), (decide (v ≥ (251 : Int)), true), (!decide (v ≤ (254 : Int)), true), (decide (v < (251 : Int)), false), (decide (v > (254 : Int)), true)] ∧ true = true ∧ True) := by kernel_rfl

set_option maxHeartbeats 4000000 in
theorem mbK2B (t0 t1 t2 t3 t4 t5 t6 t7 t8 t9 t10 t11 t12 t13 t14 t15 : List UInt8) (N : Nat) (B F : Ix → Int) (v : Int) (hB : ∀ i, i < N → 0 ≤ B [i] ∧ B [i] < 256) (hF : ∀ i, i < 32 → 0 ≤ F [i] ∧ F [i] < 256) (hv : -9223372036854775808 ≤ v ∧ v < 9223372036854775808) (hN : 2 ≤ N ∧ N ≤ 100) (hk : 251 ≤ B [0] ∧ B [0] ≤ 254) (hk1 : B [1] ≠ 2) (hv0 : 254 < v) :
    RunsTo Tryd.prog 8 [.code (bodyOf Tryd.f8)] (envOf [vL 100 1 N, vN v, .agg (arrT F)] Tryd.f8.ntmps) (Sx.look (allG t0 t1 t2 t3 t4 t5 t6 t7 t8 t9 t10 t11 t12 t13 t14 t15 ++ bE 100 N B ++ ([]))) 110 (YES) (Sx.look ([])) 900 := by
  have hbl := bytesOf_len B [] 0 N
  have hF2 := bndB_of hF
  have hcF := cut_bytes F 32 hF
  have hcu : cutN F 0 32 ≤ 32 := cutN_le _ _ _
  have z0 : ((0 : Nat) : Int) = 0 := rfl
  have hlf := bytesOf_len F [] 0 32
  have hcl : (cutL (bytesOf F [] 0 32)).length ≤ 32 := by rw [← hcF, bytesOf_len]; exact hcu
  have e53 : bytesOf (upd (upd (fun is => 0) [0] (IntKind.u8.wrap 253)) [1] 2) [] 0 2 = [253, 2] := rfl
  have hl2 : ([253, 2] : List UInt8).length = 2 := rfl
  have h0 := hB 0 (by omega)
  have h1 := hB 1 (by omega)
  have g0 : ((((bytesOf B [] 0 N).getD 0 0).toNat : Nat) : Int) = B [0] := bytesOf_nat (is := []) (st := 0) (by omega) h0
  have g1 : ((((bytesOf B [] 0 N).getD 1 0).toNat : Nat) : Int) = B [1] := bytesOf_nat (is := []) (st := 0) (by omega) h1
  refine runs_last baseM0 (Sx.Ends.of (mbK2B_p0 t0 t1 t2 t3 t4 t5 t6 t7 t8 t9 t10 t11 t12 t13 t14 t15 N B F v) ⟨?oo, ?rr⟩) (by kernel_rfl) rfl (gtL (by decide)) (by decide)
  case oo =>
    refine (okc ?_ (okc ?_ (okc ?_ (okc ?_ (okc ?_ (okc ?_ (okc ?_ (okc ?_ (okc ?_ (okc ?_ (okc ?_ (okc ?_ (okc ?_ (okc ?_ (okc ?_ (okc ?_ (okc ?_ (okc ?_ (okc ?_ (okc ?_ (okc ?_ (okc ?_ (okc ?_ okn)))))))))))))))))))))))
    all_goals ((try simp (disch := omega) only [SS, nmK, hbl, hF2, hcF, z0, hlf, beq_self_eq_true, g0, g1]); first | done | omega | assumption | (simp (disch := omega) only [SS, nmK, hbl, hF2, hcF, z0, hlf, beq_self_eq_true, g0, g1] at *; first | done | omega | assumption) | (simp_all; done))
  case rr =>
    try simp (disch := omega) only [SS, nmK, hbl, hF2, hcF, z0, hlf, beq_self_eq_true, g0, g1]
    repeat' apply And.intro
    all_goals first | exact True.intro | with_reducible rfl | omega | (intros; first | exact True.intro | with_reducible rfl | omega | (simp_all; done)) | (simp_all; done) | rfl

theorem mbK2C_p0 (t0 t1 t2 t3 t4 t5 t6 t7 t8 t9 t10 t11 t12 t13 t14 t15 : List UInt8) (N : Nat) (B F : Ix → Int) (v : Int) :
    isEnd (evTill Tryd.prog sumsN0 300 (99) 900 8 [.code (bodyOf Tryd.f8)] (envOf [vL 100 1 N, vN v, .agg (arrT F)] Tryd.f8.ntmps) (allG t0 t1 t2 t3 t4 t5 t6 t7 t8 t9 t10 t11 t12 t13 t14 t15 ++ bE 100 N B ++ ([])) ⟨[.t, .f, .s false, .s false, .s true, .s true, .s true, .s true, .s false, .s true, .s true, .s true, .s true, .s true, .s false, .s true, .s false, .s true, .s false, .s true, .s true, .f, .f, .f, .t, .t, .t, .t, .t, .t, .f, .f, .s true, .s false, .s false, .t, .s true, .t, .t, .s true, .t, .s true], 110⟩) (endP ([]) (YES) ([]) 900) =
    (OkL [(decide ((↑N : Int) > (100 : Int)), false), (decide ((↑N : Int) < (2 : Int)), false), (decide ((0 : Int) ≤ (0 : Int) ∧ (0 : Int) < (↑N : Int)), true), (Nat.blt (0 : Nat) N, true), (Nat.blt (0 : Nat) N, true), (decide (IntKind.i64.wrap (B [(0 : Nat)]) ≥ (251 : Int)), true), (!decide (IntKind.i64.wrap (B [(0 : Nat)]) ≤ (254 : Int)), false), (decide ((0 : Int) ≤ (1 : Int) ∧ (1 : Int) < (↑N : Int)), true), (Nat.blt (1 : Nat) N, true), (Nat.blt (1 : Nat) N, true), (B [(1 : Nat)] != (2 : Int), true), (((0 : Nat) + N).ble N, true), (decide ((↑(bytesOf B [] (0 : Nat) N).length : Int) < (2 : Int)), false), (decide ((0 : Int) ≤ (0 : Int) ∧ (0 : Int) < (↑(bytesOf B [] (0 : Nat) N).length : Int)), true), (decide ((↑((bytesOf B [] (0 : Nat) N).getD (0 : Nat) (0 : UInt8)).toNat : Int) < (251 : Int)), false), (decide ((0 : Int) ≤ (0 : Int) ∧ (0 : Int) < (↑(bytesOf B [] (0 : Nat) N).length : Int)), true), (decide ((↑((bytesOf B [] (0 : Nat) N).getD (0 : Nat) (0 : UInt8)).toNat : Int) > (254 : Int)), false), (decide ((0 : Int) ≤ (1 : Int) ∧ (1 : Int) < (↑(bytesOf B [] (0 : Nat) N).length : Int)), true), ((↑((bytesOf B [] (0 : Nat) N).getD (1 : Nat) (0 : UInt8)).toNat : Int) != (2 : Int), true), (decide (v = (253 : Int)) && bndB (fun js => F js) (32 : Nat), true), (decide (v < (251 : Int)), false), (decide (v > (254 : Int)), false), (v == (253 : Int), true), (decide ((bytesOf (upd (upd (fun is => (0 : Int)) [(0 : Nat)] (IntKind.u8.wrap v)) [(1 : Nat)] (2 : Int)) [] (0 : Nat) (2 : Nat)).length + (cutL (bytesOf F [] (0 : Nat) (32 : Nat))).length ≤ (9223372036854775807 : Nat)), true), (((0 : Nat) + ([(253 : UInt8), (2 : UInt8)] ++ bytesOf (fun js => F js) [] (0 : Nat) (cutN (fun js => F js) (0 : Int) (32 : Nat))).length).ble ([(253 : UInt8), (2 : UInt8)] ++ bytesOf (fun js => F js) [] (0 : Nat) (cutN (fun js => F js) (0 : Int) (32 : Nat))).length, true)] ∧ true = (bytesOf (fun is => (↑(([(253 : UInt8), (2 : UInt8)] ++ bytesOf (fun js => F js) [] (0 : Nat) (cutN (fun js => F js) (0 : Int) (32 : Nat))).getD (List.headD is (0 : Nat)) (0 : UInt8)).toNat : Int)) [] (0 : Nat) ([(253 : UInt8), (2 : UInt8)] ++ bytesOf (fun js => F js) [] (0 : Nat) (cutN (fun js => F js) (0 : Int) (32 : Nat))).length == bytesOf (upd (upd (fun is => (0 : Int)) [(0 : Nat)] (IntKind.u8.wrap v)) [(1 : Nat)] (2 : Int)) [] (0 : Nat) (2 : Nat) ++ cutL (bytesOf F [] (0 : Nat) (32 : Nat))) ∧ True) := by kernel_rfl

set_option maxHeartbeats 4000000 in
theorem mbK2C (t0 t1 t2 t3 t4 t5 t6 t7 t8 t9 t10 t11 t12 t13 t14 t15 : List UInt8) (N : Nat) (B F : Ix → Int) (v : Int) (hB : ∀ i, i < N → 0 ≤ B [i] ∧ B [i] < 256) (hF : ∀ i, i < 32 → 0 ≤ F [i] ∧ F [i] < 256) (hv : -9223372036854775808 ≤ v ∧ v < 9223372036854775808) (hN : 2 ≤ N ∧ N ≤ 100) (hk : 251 ≤ B [0] ∧ B [0] ≤ 254) (hk1 : B [1] ≠ 2) (hv0 : v = 253) :
    RunsTo Tryd.prog 8 [.code (bodyOf Tryd.f8)] (envOf [vL 100 1 N, vN v, .agg (arrT F)] Tryd.f8.ntmps) (Sx.look (allG t0 t1 t2 t3 t4 t5 t6 t7 t8 t9 t10 t11 t12 t13 t14 t15 ++ bE 100 N B ++ ([]))) 110 (YES) (Sx.look ([])) 900 := by
  have hbl := bytesOf_len B [] 0 N
  have hF2 := bndB_of hF
  have hcF := cut_bytes F 32 hF
  have hcu : cutN F 0 32 ≤ 32 := cutN_le _ _ _
  have z0 : ((0 : Nat) : Int) = 0 := rfl
  have hlf := bytesOf_len F [] 0 32
  have hcl : (cutL (bytesOf F [] 0 32)).length ≤ 32 := by rw [← hcF, bytesOf_len]; exact hcu
  have e53 : bytesOf (upd (upd (fun is => 0) [0] (IntKind.u8.wrap 253)) [1] 2) [] 0 2 = [253, 2] := rfl
  have hl2 : ([253, 2] : List UInt8).length = 2 := rfl
  have h0 := hB 0 (by omega)
  have h1 := hB 1 (by omega)
  have g0 : ((((bytesOf B [] 0 N).getD 0 0).toNat : Nat) : Int) = B [0] := bytesOf_nat (is := []) (st := 0) (by omega) h0
  have g1 : ((((bytesOf B [] 0 N).getD 1 0).toNat : Nat) : Int) = B [1] := bytesOf_nat (is := []) (st := 0) (by omega) h1
  refine runs_last baseN0 (Sx.Ends.of (mbK2C_p0 t0 t1 t2 t3 t4 t5 t6 t7 t8 t9 t10 t11 t12 t13 t14 t15 N B F v) ⟨?oo, ?rr⟩) (by kernel_rfl) rfl (gtL (by decide)) (by decide)
  case oo =>
    refine (okc ?_ (okc ?_ (okc ?_ (okc ?_ (okc ?_ (okc ?_ (okc ?_ (okc ?_ (okc ?_ (okc ?_ (okc ?_ (okc ?_ (okc ?_ (okc ?_ (okc ?_ (okc ?_ (okc ?_ (okc ?_ (okc ?_ (okc ?_ (okc ?_ (okc ?_ (okc ?_ (okc ?_ (okc ?_ okn)))))))))))))))))))))))))
    all_goals ((try simp (disch := omega) only [SS, nmK, hbl, hF2, hcF, z0, hlf, beq_self_eq_true, g0, g1, hv0, e53, hl2, bytesOf_full]); first | done | omega | assumption | (simp (disch := omega) only [SS, nmK, hbl, hF2, hcF, z0, hlf, beq_self_eq_true, g0, g1, hv0, e53, hl2, bytesOf_full] at *; first | done | omega | assumption) | (simp_all; done))
  case rr =>
    try simp (disch := omega) only [SS, nmK, hbl, hF2, hcF, z0, hlf, beq_self_eq_true, g0, g1, hv0, e53, hl2, bytesOf_full]
    repeat' apply And.intro
    all_goals first | exact True.intro | with_reducible rfl | omega | (intros; first | exact True.intro | with_reducible rfl | omega | (simp_all; done)) | (simp_all; done) | rfl

theorem mbK2D_p0 (t0 t1 t2 t3 t4 t5 t6 t7 t8 t9 t10 t11 t12 t13 t14 t15 : List UInt8) (N : Nat) (B F : Ix → Int) (v : Int) :
    isEnd (evTill Tryd.prog sumsM0 300 (99) 900 8 [.code (bodyOf Tryd.f8)] (envOf [vL 100 1 N, vN v, .agg (arrT F)] Tryd.f8.ntmps) (allG t0 t1 t2 t3 t4 t5 t6 t7 t8 t9 t10 t11 t12 t13 t14 t15 ++ bE 100 N B ++ ([])) ⟨[.t, .f, .s false, .s false, .s true, .s true, .s true, .s true, .s false, .s true, .s true, .s true, .s true, .s true, .s false, .s true, .s false, .s true, .s false, .s true, .s true, .f, .f, .f, .t, .t, .t, .t, .t, .t, .f, .f, .s true, .s false, .s false, .s false, .s false, .t, .s false, .t, .t], 110⟩) (endP ([]) (YES) ([]) 900) =
    (OkL [(decide ((↑N : Int) > (100 : Int)), false), (decide ((↑N : Int) < (2 : Int)), false), (decide ((0 : Int) ≤ (0 : Int) ∧ (0 : Int) < (↑N : Int)), true), (Nat.blt (0 : Nat) N, true), (Nat.blt (0 : Nat) N, true), (decide (IntKind.i64.wrap (B [(0 : Nat)]) ≥ (251 : Int)), true), (!decide (IntKind.i64.wrap (B [(0 : Nat)]) ≤ (254 : Int)), false), (decide ((0 : Int) ≤ (1 : Int) ∧ (1 : Int) < (↑N : Int)), true), (Nat.blt (1 : Nat) N, true), (Nat.blt (1 : Nat) N, true), (B [(1 : Nat)] != (2 : Int), true), (((0 : Nat) + N).ble N, true), (decide ((↑(bytesOf B [] (0 : Nat) N).length : Int) < (2 : Int)), false), (decide ((0 : Int) ≤ (0 : Int) ∧ (0 : Int) < (↑(bytesOf B [] (0 : Nat) N).length : Int)), true), (decide ((↑((bytesOf B [] (0 : Nat) N).getD (0 : Nat) (0 : UInt8)).toNat : Int) < (251 : Int)), false), (decide ((0 : Int) ≤ (0 : Int) ∧ (0 : Int) < (↑(bytesOf B [] (0 : Nat) N).length : Int)), true), (decide ((↑((bytesOf B [] (0 : Nat) N).getD (0 : Nat) (0 : UInt8)).toNat : Int) > (254 : Int)), false), (decide ((0 : Int) ≤ (1 : Int) ∧ (1 : Int) < (↑(bytesOf B [] (0 : Nat) N).length : Int)), true), ((↑((bytesOf B [] (0 : Nat) N).getD (1 : Nat) (0 : UInt8)).toNat : Int) != (2 : Int), true), (decide (v ≥ (251 : Int)), true), (!decide (v ≤ (254 : Int)), false), (v == (253 : Int), false), (decide (v < (251 : Int)), false), (decide (v > (254 : Int)), false), (v == (253 : Int), false)] ∧ true = (bytesOf (upd (upd (fun is => (0 : Int)) [(0 : Nat)] (IntKind.u8.wrap v)) [(1 : Nat)] (2 : Int)) [] (0 : Nat) (2 : Nat) == bytesOf (upd (upd (fun is => (0 : Int)) [(0 : Nat)] (IntKind.u8.wrap v)) [(1 : Nat)] (2 : Int)) [] (0 : Nat) (2 : Nat)) ∧ True) := by kernel_rfl

set_option maxHeartbeats 4000000 in
theorem mbK2D (t0 t1 t2 t3 t4 t5 t6 t7 t8 t9 t10 t11 t12 t13 t14 t15 : List UInt8) (N : Nat) (B F : Ix → Int) (v : Int) (hB : ∀ i, i < N → 0 ≤ B [i] ∧ B [i] < 256) (hF : ∀ i, i < 32 → 0 ≤ F [i] ∧ F [i] < 256) (hv : -9223372036854775808 ≤ v ∧ v < 9223372036854775808) (hN : 2 ≤ N ∧ N ≤ 100) (hk : 251 ≤ B [0] ∧ B [0] ≤ 254) (hk1 : B [1] ≠ 2) (hv0 : 251 ≤ v ∧ v ≤ 254 ∧ v ≠ 253) :
    RunsTo Tryd.prog 8 [.code (bodyOf Tryd.f8)] (envOf [vL 100 1 N, vN v, .agg (arrT F)] Tryd.f8.ntmps) (Sx.look (allG t0 t1 t2 t3 t4 t5 t6 t7 t8 t9 t10 t11 t12 t13 t14 t15 ++ bE 100 N B ++ ([]))) 110 (YES) (Sx.look ([])) 900 := by
  have hbl := bytesOf_len B [] 0 N
  have hF2 := bndB_of hF
  have hcF := cut_bytes F 32 hF
  have hcu : cutN F 0 32 ≤ 32 := cutN_le _ _ _
  have z0 : ((0 : Nat) : Int) = 0 := rfl
  have hlf := bytesOf_len F [] 0 32
  have hcl : (cutL (bytesOf F [] 0 32)).length ≤ 32 := by rw [← hcF, bytesOf_len]; exact hcu
  have e53 : bytesOf (upd (upd (fun is => 0) [0] (IntKind.u8.wrap 253)) [1] 2) [] 0 2 = [253, 2] := rfl
  have hl2 : ([253, 2] : List UInt8).length = 2 := rfl
  have h0 := hB 0 (by omega)
  have h1 := hB 1 (by omega)
  have g0 : ((((bytesOf B [] 0 N).getD 0 0).toNat : Nat) : Int) = B [0] := bytesOf_nat (is := []) (st := 0) (by omega) h0
  have g1 : ((((bytesOf B [] 0 N).getD 1 0).toNat : Nat) : Int) = B [1] := bytesOf_nat (is := []) (st := 0) (by omega) h1
  have hu : IntKind.u8.wrap v = v := u8id (by omega)
  refine runs_last baseM0 (Sx.Ends.of (mbK2D_p0 t0 t1 t2 t3 t4 t5 t6 t7 t8 t9 t10 t11 t12 t13 t14 t15 N B F v) ⟨?oo, ?rr⟩) (by kernel_rfl) rfl (gtL (by decide)) (by decide)
  case oo =>
    refine (okc ?_ (okc ?_ (okc ?_ (okc ?_ (okc ?_ (okc ?_ (okc ?_ (okc ?_ (okc ?_ (okc ?_ (okc ?_ (okc ?_ (okc ?_ (okc ?_ (okc ?_ (okc ?_ (okc ?_ (okc ?_ (okc ?_ (okc ?_ (okc ?_ (okc ?_ (okc ?_ (okc ?_ (okc ?_ okn)))))))))))))))))))))))))
    all_goals ((try simp (disch := omega) only [SS, nmK, hbl, hF2, hcF, z0, hlf, beq_self_eq_true, g0, g1, hu]); first | done | omega | assumption | (simp (disch := omega) only [SS, nmK, hbl, hF2, hcF, z0, hlf, beq_self_eq_true, g0, g1, hu] at *; first | done | omega | assumption) | (simp_all; done))
  case rr =>
    try simp (disch := omega) only [SS, nmK, hbl, hF2, hcF, z0, hlf, beq_self_eq_true, g0, g1, hu]
    repeat' apply And.intro
    all_goals first | exact True.intro | with_reducible rfl | omega | (intros; first | exact True.intro | with_reducible rfl | omega | (simp_all; done)) | (simp_all; done) | rfl

theorem mbL0A_p0 (t0 t1 t2 t3 t4 t5 t6 t7 t8 t9 t10 t11 t12 t13 t14 t15 : List UInt8) (N : Nat) (B F : Ix → Int) (v : Int) :
    isEnd (evTill Tryd.prog sumsM0 300 (99) 900 8 [.code (bodyOf Tryd.f8)] (envOf [vL 100 1 N, vN v, .agg (arrT F)] Tryd.f8.ntmps) (allG t0 t1 t2 t3 t4 t5 t6 t7 t8 t9 t10 t11 t12 t13 t14 t15 ++ bE 100 N B ++ ([])) ⟨[.t, .f, .s false, .s false, .s true, .s true, .s true, .s true, .s false, .s true, .s true, .s true, .s false, .s true, .s true, .s false, .s true, .s false, .s true, .s false, .s true, .s false, .s true, .f, .f, .f, .t, .t, .t, .t, .t, .t, .f, .f, .s false, .t, .s true, .t], 110⟩) (endP ([]) (YES) ([]) 900) =
    (OkL [(decide ((↑N : Int) > (100 : Int)), false), (decide ((↑N : Int) < (2 : Int)), false), (decide ((0 : Int) ≤ (0 : Int) ∧ (0 : Int) < (↑N : Int)), true), (Nat.blt (0 : Nat) N, true), (Nat.blt (0 : Nat) N, true), (decide (IntKind.i64.wrap (B [(0 : Nat)]) ≥ (251 : Int)), true), (!decide (IntKind.i64.wrap (B [(0 : Nat)]) ≤ (254 : Int)), false), (decide ((0 : Int) ≤ (1 : Int) ∧ (1 : Int) < (↑N : Int)), true), (Nat.blt (1 : Nat) N, true), (Nat.blt (1 : Nat) N, true), (B [(1 : Nat)] != (2 : Int), false), (decide (IntKind.i64.wrap ((↑N : Int) - (2 : Int)) > (32 : Int)), true), (((0 : Nat) + N).ble N, true), (decide ((↑(bytesOf B [] (0 : Nat) N).length : Int) < (2 : Int)), false), (decide ((0 : Int) ≤ (0 : Int) ∧ (0 : Int) < (↑(bytesOf B [] (0 : Nat) N).length : Int)), true), (decide ((↑((bytesOf B [] (0 : Nat) N).getD (0 : Nat) (0 : UInt8)).toNat : Int) < (251 : Int)), false), (decide ((0 : Int) ≤ (0 : Int) ∧ (0 : Int) < (↑(bytesOf B [] (0 : Nat) N).length : Int)), true), (decide ((↑((bytesOf B [] (0 : Nat) N).getD (0 : Nat) (0 : UInt8)).toNat : Int) > (254 : Int)), false), (decide ((0 : Int) ≤ (1 : Int) ∧ (1 : Int) < (↑(bytesOf B [] (0 : Nat) N).length : Int)), true), ((↑((bytesOf B [] (0 : Nat) N).getD (1 : Nat) (0 : UInt8)).toNat : Int) != (2 : Int), false), (decide ((↑(bytesOf B [] (0 : Nat) N).length : Int) > (34 : Int)), true), (decide (v ≥ (251 : Int)), false), (decide (v < (251 : Int)), true)] ∧ true = true ∧ True) := by kernel_rfl

set_option maxHeartbeats 4000000 in
theorem mbL0A (t0 t1 t2 t3 t4 t5 t6 t7 t8 t9 t10 t11 t12 t13 t14 t15 : List UInt8) (N : Nat) (B F : Ix → Int) (v : Int) (hB : ∀ i, i < N → 0 ≤ B [i] ∧ B [i] < 256) (hF : ∀ i, i < 32 → 0 ≤ F [i] ∧ F [i] < 256) (hv : -9223372036854775808 ≤ v ∧ v < 9223372036854775808) (hN : 34 < N ∧ N ≤ 100) (hk : 251 ≤ B [0] ∧ B [0] ≤ 254) (hk1 : B [1] = 2) (hv0 : v < 251) :
    RunsTo Tryd.prog 8 [.code (bodyOf Tryd.f8)] (envOf [vL 100 1 N, vN v, .agg (arrT F)] Tryd.f8.ntmps) (Sx.look (allG t0 t1 t2 t3 t4 t5 t6 t7 t8 t9 t10 t11 t12 t13 t14 t15 ++ bE 100 N B ++ ([]))) 110 (YES) (Sx.look ([])) 900 := by
  have hbl := bytesOf_len B [] 0 N
  have hF2 := bndB_of hF
  have hcF := cut_bytes F 32 hF
  have hcu : cutN F 0 32 ≤ 32 := cutN_le _ _ _
  have z0 : ((0 : Nat) : Int) = 0 := rfl
  have hlf := bytesOf_len F [] 0 32
  have hcl : (cutL (bytesOf F [] 0 32)).length ≤ 32 := by rw [← hcF, bytesOf_len]; exact hcu
  have e53 : bytesOf (upd (upd (fun is => 0) [0] (IntKind.u8.wrap 253)) [1] 2) [] 0 2 = [253, 2] := rfl
  have hl2 : ([253, 2] : List UInt8).length = 2 := rfl
  have h0 := hB 0 (by omega)
  have h1 := hB 1 (by omega)
  have g0 : ((((bytesOf B [] 0 N).getD 0 0).toNat : Nat) : Int) = B [0] := bytesOf_nat (is := []) (st := 0) (by omega) h0
  have g1 : ((((bytesOf B [] 0 N).getD 1 0).toNat : Nat) : Int) = B [1] := bytesOf_nat (is := []) (st := 0) (by omega) h1
  refine runs_last baseM0 (Sx.Ends.of (mbL0A_p0 t0 t1 t2 t3 t4 t5 t6 t7 t8 t9 t10 t11 t12 t13 t14 t15 N B F v) ⟨?oo, ?rr⟩) (by kernel_rfl) rfl (gtL (by decide)) (by decide)
  case oo =>
    refine (okc ?_ (okc ?_ (okc ?_ (okc ?_ (okc ?_ (okc ?_ (okc ?_ (okc ?_ (okc ?_ (okc ?_ (okc ?_ (okc ?_ (okc ?_ (okc ?_ (okc ?_ (okc ?_ (okc ?_ (okc ?_ (okc ?_ (okc ?_ (okc ?_ (okc ?_ (okc ?_ okn)))))))))))))))))))))))
    all_goals ((try simp (disch := omega) only [SS, nmK, hbl, hF2, hcF, z0, hlf, beq_self_eq_true, g0, g1]); first | done | omega | assumption | (simp (disch := omega) only [SS, nmK, hbl, hF2, hcF, z0, hlf, beq_self_eq_true, g0, g1] at *; first | done | omega | assumption) | (simp_all; done))
  case rr =>
    try simp (disch := omega) only [SS, nmK, hbl, hF2, hcF, z0, hlf, beq_self_eq_true, g0, g1]
    repeat' apply And.intro
    all_goals first | exact True.intro | with_reducible rfl | omega | (intros; first | exact True.intro | with_reducible rfl | omega | (simp_all; done)) | (simp_all; done) | rfl

theorem mbL0B_p0 (t0 t1 t2 t3 t4 t5 t6 t7 t8 t9 t10 t11 t12 t13 t14 t15 : List UInt8) (N : Nat) (B F : Ix → Int) (v : Int) :
    isEnd (evTill Tryd.prog sumsM0 300 (99) 900 8 [.code (bodyOf Tryd.f8)] (envOf [vL 100 1 N, vN v, .agg (arrT F)] Tryd.f8.ntmps) (allG t0 t1 t2 t3 t4 t5 t6 t7 t8 t9 t10 t11 t12 t13 t14 t15 ++ bE 100 N B ++ ([])) ⟨[.t, .f, .s false, .s false, .s true, .s true, .s true, .s true, .s false, .s true, .s true, .s true, .s false, .s true, .s true, .s false, .s true, .s false, .s true, .s false, .s true, .s false, .s true, .f, .f, .f, .t, .t, .t, .t, .t, .t, .f, .f, .s true, .s true, .s false, .s true, .t], 110⟩) (endP ([]) (YES) ([]) 900) =
    (OkL [(decide ((↑N : Int) > (100 : Int)), false), (decide ((↑N : Int) < (2 : Int)), false), (decide ((0 : Int) ≤ (0 : Int) ∧ (0 : Int) < (↑N : Int)), true), (Nat.blt (0 : Nat) N, true), (Nat.blt (0 : Nat) N, true), (decide (IntKind.i64.wrap (B [(0 : Nat)]) ≥ (251 : Int)), true), (!decide (IntKind.i64.wrap (B [(0 : Nat)]) ≤ (254 : Int)), false), (decide ((0 : Int) ≤ (1 : Int) ∧ (1 : Int) < (↑N : Int)), true), (Nat.blt (1 : Nat) N, true), (Nat.blt (1 : Nat) N, true), (B [(1 : Nat)] != (2 : Int), false), (decide (IntKind.i64.wrap ((↑N : Int) - (2 : Int)) > (32 : Int)), true), (((0 : Nat) + N).ble N, true), (decide ((↑(bytesOf B [] (0 : Nat) N).length : Int) < (2 : Int)), false), (decide ((0 : Int) ≤ (0 : Int) ∧ (0 : Int) < (↑(bytesOf B [] (0 : Nat) N).length : Int)), true), (decide ((↑((bytesOf B [] (0 : Nat) N).getD (0 : Nat) (0 : UInt8)).toNat : Int) < (251 : Int)), false), (decide ((0 : Int) ≤ (0 : Int) ∧ (0 : Int) < (↑(bytesOf B [] (0 : Nat) N).length : Int)), true), (decide ((↑((bytesOf B [] (0 : Nat) N).getD (0 : Nat) (0 : UInt8)).toNat : Int) > (254 : Int)), false), (decide ((0 : Int) ≤ (1 : Int) ∧ (1 : Int) < (↑(bytesOf B [] (0 : Nat) N).length : Int)), true), ((↑((bytesOf B [] (0 : Nat) N).getD (1 : Nat) (0 : UInt8)).toNat : Int) != (2 : Int), false), (decide ((↑(bytesOf B [] (0 : Nat) N).length : Int) > (34 : Int)), true), (decide (v ≥ (251 : Int)), true), (!decide (v ≤ (254 : Int)), true), (decide (v < (251 : Int)), false), (decide (v > (254 : Int)), true)] ∧ true = true ∧ True) := by kernel_rfl

set_option maxHeartbeats 4000000 in
theorem mbL0B (t0 t1 t2 t3 t4 t5 t6 t7 t8 t9 t10 t11 t12 t13 t14 t15 : List UInt8) (N : Nat) (B F : Ix → Int) (v : Int) (hB : ∀ i, i < N → 0 ≤ B [i] ∧ B [i] < 256) (hF : ∀ i, i < 32 → 0 ≤ F [i] ∧ F [i] < 256) (hv : -9223372036854775808 ≤ v ∧ v < 9223372036854775808) (hN : 34 < N ∧ N ≤ 100) (hk : 251 ≤ B [0] ∧ B [0] ≤ 254) (hk1 : B [1] = 2) (hv0 : 254 < v) :
    RunsTo Tryd.prog 8 [.code (bodyOf Tryd.f8)] (envOf [vL 100 1 N, vN v, .agg (arrT F)] Tryd.f8.ntmps) (Sx.look (allG t0 t1 t2 t3 t4 t5 t6 t7 t8 t9 t10 t11 t12 t13 t14 t15 ++ bE 100 N B ++ ([]))) 110 (YES) (Sx.look ([])) 900 := by
  have hbl := bytesOf_len B [] 0 N
  have hF2 := bndB_of hF
  have hcF := cut_bytes F 32 hF
  have hcu : cutN F 0 32 ≤ 32 := cutN_le _ _ _
  have z0 : ((0 : Nat) : Int) = 0 := rfl
  have hlf := bytesOf_len F [] 0 32
  have hcl : (cutL (bytesOf F [] 0 32)).length ≤ 32 := by rw [← hcF, bytesOf_len]; exact hcu
  have e53 : bytesOf (upd (upd (fun is => 0) [0] (IntKind.u8.wrap 253)) [1] 2) [] 0 2 = [253, 2] := rfl
  have hl2 : ([253, 2] : List UInt8).length = 2 := rfl
  have h0 := hB 0 (by omega)
  have h1 := hB 1 (by omega)
  have g0 : ((((bytesOf B [] 0 N).getD 0 0).toNat : Nat) : Int) = B [0] := bytesOf_nat (is := []) (st := 0) (by omega) h0
  have g1 : ((((bytesOf B [] 0 N).getD 1 0).toNat : Nat) : Int) = B [1] := bytesOf_nat (is := []) (st := 0) (by omega) h1
  refine runs_last baseM0 (Sx.Ends.of (mbL0B_p0 t0 t1 t2 t3 t4 t5 t6 t7 t8 t9 t10 t11 t12 t13 t14 t15 N B F v) ⟨?oo, ?rr⟩) (by kernel_rfl) rfl (gtL (by decide)) (by decide)
  case oo =>
    refine (okc ?_ (okc ?_ (okc ?_ (okc ?_ (okc ?_ (okc ?_ (okc ?_ (okc ?_ (okc ?_ (okc ?_ (okc ?_ (okc ?_ (okc ?_ (okc ?_ (okc ?_ (okc ?_ (okc ?_ (okc ?_ (okc ?_ (okc ?_ (okc ?_ (okc ?_ (okc ?_ (okc ?_ (okc ?_ okn)))))))))))))))))))))))))
    all_goals ((try simp (disch := omega) only [SS, nmK, hbl, hF2, hcF, z0, hlf, beq_self_eq_true, g0, g1]); first | done | omega | assumption | (simp (disch := omega) only [SS, nmK, hbl, hF2, hcF, z0, hlf, beq_self_eq_true, g0, g1] at *; first | done | omega | assumption) | (simp_all; done))
  case rr =>
    try simp (disch := omega) only [SS, nmK, hbl, hF2, hcF, z0, hlf, beq_self_eq_true, g0, g1]
    repeat' apply And.intro
    all_goals first | exact True.intro | with_reducible rfl | omega | (intros; first | exact True.intro | with_reducible rfl | omega | (simp_all; done)) | (simp_all; done) | rfl

theorem mbL0C_p0 (t0 t1 t2 t3 t4 t5 t6 t7 t8 t9 t10 t11 t12 t13 t14 t15 : List UInt8) (N : Nat) (B F : Ix → Int) (v : Int) :
    isEnd (evTill Tryd.prog sumsN0 300 (99) 900 8 [.code (bodyOf Tryd.f8)] (envOf [vL 100 1 N, vN v, .agg (arrT F)] Tryd.f8.ntmps) (allG t0 t1 t2 t3 t4 t5 t6 t7 t8 t9 t10 t11 t12 t13 t14 t15 ++ bE 100 N B ++ ([])) ⟨[.t, .f, .s false, .s false, .s true, .s true, .s true, .s true, .s false, .s true, .s true, .s true, .s false, .s true, .s true, .s false, .s true, .s false, .s true, .s false, .s true, .s false, .s true, .f, .f, .f, .t, .t, .t, .t, .t, .t, .f, .f, .s true, .s false, .s false, .t, .s true, .t, .t, .s true, .t, .s true], 110⟩) (endP ([]) (YES) ([]) 900) =
    (OkL [(decide ((↑N : Int) > (100 : Int)), false), (decide ((↑N : Int) < (2 : Int)), false), (decide ((0 : Int) ≤ (0 : Int) ∧ (0 : Int) < (↑N : Int)), true), (Nat.blt (0 : Nat) N, true), (Nat.blt (0 : Nat) N, true), (decide (IntKind.i64.wrap (B [(0 : Nat)]) ≥ (251 : Int)), true), (!decide (IntKind.i64.wrap (B [(0 : Nat)]) ≤ (254 : Int)), false), (decide ((0 : Int) ≤ (1 : Int) ∧ (1 : Int) < (↑N : Int)), true), (Nat.blt (1 : Nat) N, true), (Nat.blt (1 : Nat) N, true), (B [(1 : Nat)] != (2 : Int), false), (decide (IntKind.i64.wrap ((↑N : Int) - (2 : Int)) > (32 : Int)), true), (((0 : Nat) + N).ble N, true), (decide ((↑(bytesOf B [] (0 : Nat) N).length : Int) < (2 : Int)), false), (decide ((0 : Int) ≤ (0 : Int) ∧ (0 : Int) < (↑(bytesOf B [] (0 : Nat) N).length : Int)), true), (decide ((↑((bytesOf B [] (0 : Nat) N).getD (0 : Nat) (0 : UInt8)).toNat : Int) < (251 : Int)), false), (decide ((0 : Int) ≤ (0 : Int) ∧ (0 : Int) < (↑(bytesOf B [] (0 : Nat) N).length : Int)), true), (decide ((↑((bytesOf B [] (0 : Nat) N).getD (0 : Nat) (0 : UInt8)).toNat : Int) > (254 : Int)), false), (decide ((0 : Int) ≤ (1 : Int) ∧ (1 : Int) < (↑(bytesOf B [] (0 : Nat) N).length : Int)), true), ((↑((bytesOf B [] (0 : Nat) N).getD (1 : Nat) (0 : UInt8)).toNat : Int) != (2 : Int), false), (decide ((↑(bytesOf B [] (0 : Nat) N).length : Int) > (34 : Int)), true), (decide (v = (253 : Int)) && bndB (fun js => F js) (32 : Nat), true), (decide (v < (251 : Int)), false), (decide (v > (254 : Int)), false), (v == (253 : Int), true), (decide ((bytesOf (upd (upd (fun is => (0 : Int)) [(0 : Nat)] (IntKind.u8.wrap v)) [(1 : Nat)] (2 : Int)) [] (0 : Nat) (2 : Nat)).length + (cutL (bytesOf F [] (0 : Nat) (32 : Nat))).length ≤ (9223372036854775807 : Nat)), true), (((0 : Nat) + ([(253 : UInt8), (2 : UInt8)] ++ bytesOf (fun js => F js) [] (0 : Nat) (cutN (fun js => F js) (0 : Int) (32 : Nat))).length).ble ([(253 : UInt8), (2 : UInt8)] ++ bytesOf (fun js => F js) [] (0 : Nat) (cutN (fun js => F js) (0 : Int) (32 : Nat))).length, true)] ∧ true = (bytesOf (fun is => (↑(([(253 : UInt8), (2 : UInt8)] ++ bytesOf (fun js => F js) [] (0 : Nat) (cutN (fun js => F js) (0 : Int) (32 : Nat))).getD (List.headD is (0 : Nat)) (0 : UInt8)).toNat : Int)) [] (0 : Nat) ([(253 : UInt8), (2 : UInt8)] ++ bytesOf (fun js => F js) [] (0 : Nat) (cutN (fun js => F js) (0 : Int) (32 : Nat))).length == bytesOf (upd (upd (fun is => (0 : Int)) [(0 : Nat)] (IntKind.u8.wrap v)) [(1 : Nat)] (2 : Int)) [] (0 : Nat) (2 : Nat) ++ cutL (bytesOf F [] (0 : Nat) (32 : Nat))) ∧ True) := by kernel_rfl

set_option maxHeartbeats 4000000 in
theorem mbL0C (t0 t1 t2 t3 t4 t5 t6 t7 t8 t9 t10 t11 t12 t13 t14 t15 : List UInt8) (N : Nat) (B F : Ix → Int) (v : Int) (hB : ∀ i, i < N → 0 ≤ B [i] ∧ B [i] < 256) (hF : ∀ i, i < 32 → 0 ≤ F [i] ∧ F [i] < 256) (hv : -9223372036854775808 ≤ v ∧ v < 9223372036854775808) (hN : 34 < N ∧ N ≤ 100) (hk : 251 ≤ B [0] ∧ B [0] ≤ 254) (hk1 : B [1] = 2) (hv0 : v = 253) :
    RunsTo Tryd.prog 8 [.code (bodyOf Tryd.f8)] (envOf [vL 100 1 N, vN v, .agg (arrT F)] Tryd.f8.ntmps) (Sx.look (allG t0 t1 t2 t3 t4 t5 t6 t7 t8 t9 t10 t11 t12 t13 t14 t15 ++ bE 100 N B ++ ([]))) 110 (YES) (Sx.look ([])) 900 := by
  have hbl := bytesOf_len B [] 0 N
  have hF2 := bndB_of hF
  have hcF := cut_bytes F 32 hF
  have hcu : cutN F 0 32 ≤ 32 := cutN_le _ _ _
  have z0 : ((0 : Nat) : Int) = 0 := rfl
  have hlf := bytesOf_len F [] 0 32
  have hcl : (cutL (bytesOf F [] 0 32)).length ≤ 32 := by rw [← hcF, bytesOf_len]; exact hcu
  have e53 : bytesOf (upd (upd (fun is => 0) [0] (IntKind.u8.wrap 253)) [1] 2) [] 0 2 = [253, 2] := rfl
  have hl2 : ([253, 2] : List UInt8).length = 2 := rfl
  have h0 := hB 0 (by omega)
  have h1 := hB 1 (by omega)
  have g0 : ((((bytesOf B [] 0 N).getD 0 0).toNat : Nat) : Int) = B [0] := bytesOf_nat (is := []) (st := 0) (by omega) h0
  have g1 : ((((bytesOf B [] 0 N).getD 1 0).toNat : Nat) : Int) = B [1] := bytesOf_nat (is := []) (st := 0) (by omega) h1
  refine runs_last baseN0 (Sx.Ends.of (mbL0C_p0 t0 t1 t2 t3 t4 t5 t6 t7 t8 t9 t10 t11 t12 t13 t14 t15 N B F v) ⟨?oo, ?rr⟩) (by kernel_rfl) rfl (gtL (by decide)) (by decide)
  case oo =>
    refine (okc ?_ (okc ?_ (okc ?_ (okc ?_ (okc ?_ (okc ?_ (okc ?_ (okc ?_ (okc ?_ (okc ?_ (okc ?_ (okc ?_ (okc ?_ (okc ?_ (okc ?_ (okc ?_ (okc ?_ (okc ?_ (okc ?_ (okc ?_ (okc ?_ (okc ?_ (okc ?_ (okc ?_ (okc ?_ (okc ?_ (okc ?_ okn)))))))))))))))))))))))))))
    all_goals ((try simp (disch := omega) only [SS, nmK, hbl, hF2, hcF, z0, hlf, beq_self_eq_true, g0, g1, hv0, e53, hl2, bytesOf_full]); first | done | omega | assumption | (simp (disch := omega) only [SS, nmK, hbl, hF2, hcF, z0, hlf, beq_self_eq_true, g0, g1, hv0, e53, hl2, bytesOf_full] at *; first | done | omega | assumption) | (simp_all; done))
  case rr =>
    try simp (disch := omega) only [SS, nmK, hbl, hF2, hcF, z0, hlf, beq_self_eq_true, g0, g1, hv0, e53, hl2, bytesOf_full]
    repeat' apply And.intro
    all_goals first | exact True.intro | with_reducible rfl | omega | (intros; first | exact True.intro | with_reducible rfl | omega | (simp_all; done)) | (simp_all; done) | rfl

theorem mbL0D_p0 (t0 t1 t2 t3 t4 t5 t6 t7 t8 t9 t10 t11 t12 t13 t14 t15 : List UInt8) (N : Nat) (B F : Ix → Int) (v : Int) :
    isEnd (evTill Tryd.prog sumsM0 300 (99) 900 8 [.code (bodyOf Tryd.f8)] (envOf [vL 100 1 N, vN v, .agg (arrT F)] Tryd.f8.ntmps) (allG t0 t1 t2 t3 t4 t5 t6 t7 t8 t9 t10 t11 t12 t13 t14 t15 ++ bE 100 N B ++ ([])) ⟨[.t, .f, .s false, .s false, .s true, .s true, .s true, .s true, .s false, .s true, .s true, .s true, .s false, .s true, .s true, .s false, .s true, .s false, .s true, .s false, .s true, .s false, .s true, .f, .f, .f, .t, .t, .t, .t, .t, .t, .f, .f, .s true, .s false, .s false, .s false, .s false, .t, .s false, .t, .t], 110⟩) (endP ([]) (YES) ([]) 900) =
    (OkL [(decide ((↑N : Int) > (100 : Int)), false), (decide ((↑N : Int) < (2 : Int)), false), (decide ((0 : Int) ≤ (0 : Int) ∧ (0 : Int) < (↑N : Int)), true), (Nat.blt (0 : Nat) N, true), (Nat.blt (0 : Nat) N, true), (decide (IntKind.i64.wrap (B [(0 : Nat)]) ≥ (251 : Int)), true), (!decide (IntKind.i64.wrap (B [(0 : Nat)]) ≤ (254 : Int)), false), (decide ((0 : Int) ≤ (1 : Int) ∧ (1 : Int) < (↑N : Int)), true), (Nat.blt (1 : Nat) N, true), (Nat.blt (1 : Nat) N, true), (B [(1 : Nat)] != (2 : Int), false), (decide (IntKind.i64.wrap ((↑N : Int) - (2 : Int)) > (32 : Int)), true), (((0 : Nat) + N).ble N, true), (decide ((↑(bytesOf B [] (0 : Nat) N).length : Int) < (2 : Int)), false), (decide ((0 : Int) ≤ (0 : Int) ∧ (0 : Int) < (↑(bytesOf B [] (0 : Nat) N).length : Int)), true), (decide ((↑((bytesOf B [] (0 : Nat) N).getD (0 : Nat) (0 : UInt8)).toNat : Int) < (251 : Int)), false), (decide ((0 : Int) ≤ (0 : Int) ∧ (0 : Int) < (↑(bytesOf B [] (0 : Nat) N).length : Int)), true), (decide ((↑((bytesOf B [] (0 : Nat) N).getD (0 : Nat) (0 : UInt8)).toNat : Int) > (254 : Int)), false), (decide ((0 : Int) ≤ (1 : Int) ∧ (1 : Int) < (↑(bytesOf B [] (0 : Nat) N).length : Int)), true), ((↑((bytesOf B [] (0 : Nat) N).getD (1 : Nat) (0 : UInt8)).toNat : Int) != (2 : Int), false), (decide ((↑(bytesOf B [] (0 : Nat) N).length : Int) > (34 : Int)), true), (decide (v ≥ (251 : Int)), true), (!decide (v ≤ (254 : Int)), false), (v == (253 : Int), false), (decide (v < (251 : Int)), false), (decide (v > (254 : Int)), false), (v == (253 : Int), false)] ∧ true = (bytesOf (upd (upd (fun is => (0 : Int)) [(0 : Nat)] (IntKind.u8.wrap v)) [(1 : Nat)] (2 : Int)) [] (0 : Nat) (2 : Nat) == bytesOf (upd (upd (fun is => (0 : Int)) [(0 : Nat)] (IntKind.u8.wrap v)) [(1 : Nat)] (2 : Int)) [] (0 : Nat) (2 : Nat)) ∧ True) := by kernel_rfl

set_option maxHeartbeats 4000000 in
theorem mbL0D (t0 t1 t2 t3 t4 t5 t6 t7 t8 t9 t10 t11 t12 t13 t14 t15 : List UInt8) (N : Nat) (B F : Ix → Int) (v : Int) (hB : ∀ i, i < N → 0 ≤ B [i] ∧ B [i] < 256) (hF : ∀ i, i < 32 → 0 ≤ F [i] ∧ F [i] < 256) (hv : -9223372036854775808 ≤ v ∧ v < 9223372036854775808) (hN : 34 < N ∧ N ≤ 100) (hk : 251 ≤ B [0] ∧ B [0] ≤ 254) (hk1 : B [1] = 2) (hv0 : 251 ≤ v ∧ v ≤ 254 ∧ v ≠ 253) :
    RunsTo Tryd.prog 8 [.code (bodyOf Tryd.f8)] (envOf [vL 100 1 N, vN v, .agg (arrT F)] Tryd.f8.ntmps) (Sx.look (allG t0 t1 t2 t3 t4 t5 t6 t7 t8 t9 t10 t11 t12 t13 t14 t15 ++ bE 100 N B ++ ([]))) 110 (YES) (Sx.look ([])) 900 := by
  have hbl := bytesOf_len B [] 0 N
  have hF2 := bndB_of hF
  have hcF := cut_bytes F 32 hF
  have hcu : cutN F 0 32 ≤ 32 := cutN_le _ _ _
  have z0 : ((0 : Nat) : Int) = 0 := rfl
  have hlf := bytesOf_len F [] 0 32
  have hcl : (cutL (bytesOf F [] 0 32)).length ≤ 32 := by rw [← hcF, bytesOf_len]; exact hcu
  have e53 : bytesOf (upd (upd (fun is => 0) [0] (IntKind.u8.wrap 253)) [1] 2) [] 0 2 = [253, 2] := rfl
  have hl2 : ([253, 2] : List UInt8).length = 2 := rfl
  have h0 := hB 0 (by omega)
  have h1 := hB 1 (by omega)
  have g0 : ((((bytesOf B [] 0 N).getD 0 0).toNat : Nat) : Int) = B [0] := bytesOf_nat (is := []) (st := 0) (by omega) h0
  have g1 : ((((bytesOf B [] 0 N).getD 1 0).toNat : Nat) : Int) = B [1] := bytesOf_nat (is := []) (st := 0) (by omega) h1
  have hu : IntKind.u8.wrap v = v := u8id (by omega)
  refine runs_last baseM0 (Sx.Ends.of (mbL0D_p0 t0 t1 t2 t3 t4 t5 t6 t7 t8 t9 t10 t11 t12 t13 t14 t15 N B F v) ⟨?oo, ?rr⟩) (by kernel_rfl) rfl (gtL (by decide)) (by decide)
  case oo =>
    refine (okc ?_ (okc ?_ (okc ?_ (okc ?_ (okc ?_ (okc ?_ (okc ?_ (okc ?_ (okc ?_ (okc ?_ (okc ?_ (okc ?_ (okc ?_ (okc ?_ (okc ?_ (okc ?_ (okc ?_ (okc ?_ (okc ?_ (okc ?_ (okc ?_ (okc ?_ (okc ?_ (okc ?_ (okc ?_ (okc ?_ (okc ?_ okn)))))))))))))))))))))))))))
    all_goals ((try simp (disch := omega) only [SS, nmK, hbl, hF2, hcF, z0, hlf, beq_self_eq_true, g0, g1, hu]); first | done | omega | assumption | (simp (disch := omega) only [SS, nmK, hbl, hF2, hcF, z0, hlf, beq_self_eq_true, g0, g1, hu] at *; first | done | omega | assumption) | (simp_all; done))
  case rr =>
    try simp (disch := omega) only [SS, nmK, hbl, hF2, hcF, z0, hlf, beq_self_eq_true, g0, g1, hu]
    repeat' apply And.intro
    all_goals first | exact True.intro | with_reducible rfl | omega | (intros; first | exact True.intro | with_reducible rfl | omega | (simp_all; done)) | (simp_all; done) | rfl

theorem mbL1A_p0 (t0 t1 t2 t3 t4 t5 t6 t7 t8 t9 t10 t11 t12 t13 t14 t15 : List UInt8) (N : Nat) (B F : Ix → Int) (v : Int) :
    isEnd (evTill Tryd.prog sumsM0 300 (99) 900 8 [.code (bodyOf Tryd.f8)] (envOf [vL 100 1 N, vN v, .agg (arrT F)] Tryd.f8.ntmps) (allG t0 t1 t2 t3 t4 t5 t6 t7 t8 t9 t10 t11 t12 t13 t14 t15 ++ bE 100 N B ++ ([])) ⟨[.t, .f, .s false, .s false, .s true, .s true, .s true, .s true, .s false, .s true, .s true, .s true, .s false, .s false, .s true, .s true, .s true, .s true, .s true, .s true, .s false, .s true, .s false, .s true, .s false, .s true, .s false, .s false, .s true, .s true, .s true, .f, .f, .f, .t, .t, .t, .t, .t, .t, .f, .f, .s false, .t, .s true, .t], 110⟩) (endP ([]) (YES) ([]) 900) =
    (OkL [(decide ((↑N : Int) > (100 : Int)), false), (decide ((↑N : Int) < (2 : Int)), false), (decide ((0 : Int) ≤ (0 : Int) ∧ (0 : Int) < (↑N : Int)), true), (Nat.blt (0 : Nat) N, true), (Nat.blt (0 : Nat) N, true), (decide (IntKind.i64.wrap (B [(0 : Nat)]) ≥ (251 : Int)), true), (!decide (IntKind.i64.wrap (B [(0 : Nat)]) ≤ (254 : Int)), false), (decide ((0 : Int) ≤ (1 : Int) ∧ (1 : Int) < (↑N : Int)), true), (Nat.blt (1 : Nat) N, true), (Nat.blt (1 : Nat) N, true), (B [(1 : Nat)] != (2 : Int), false), (decide (IntKind.i64.wrap ((↑N : Int) - (2 : Int)) > (32 : Int)), false), (decide ((↑N : Int) > (2 : Int)), true), (decide ((0 : Int) ≤ (0 : Int) ∧ (0 : Int) < (↑N : Int)), true), (Nat.blt (0 : Nat) N, true), (Nat.blt (0 : Nat) N, true), (B [(0 : Nat)] != (253 : Int), true), (((0 : Nat) + N).ble N, true), (decide ((↑(bytesOf B [] (0 : Nat) N).length : Int) < (2 : Int)), false), (decide ((0 : Int) ≤ (0 : Int) ∧ (0 : Int) < (↑(bytesOf B [] (0 : Nat) N).length : Int)), true), (decide ((↑((bytesOf B [] (0 : Nat) N).getD (0 : Nat) (0 : UInt8)).toNat : Int) < (251 : Int)), false), (decide ((0 : Int) ≤ (0 : Int) ∧ (0 : Int) < (↑(bytesOf B [] (0 : Nat) N).length : Int)), true), (decide ((↑((bytesOf B [] (0 : Nat) N).getD (0 : Nat) (0 : UInt8)).toNat : Int) > (254 : Int)), false), (decide ((0 : Int) ≤ (1 : Int) ∧ (1 : Int) < (↑(bytesOf B [] (0 : Nat) N).length : Int)), true), ((↑((bytesOf B [] (0 : Nat) N).getD (1 : Nat) (0 : UInt8)).toNat : Int) != (2 : Int), false), (decide ((↑(bytesOf B [] (0 : Nat) N).length : Int) > (34 : Int)), false), (decide ((↑(bytesOf B [] (0 : Nat) N).length : Int) > (2 : Int)), true), (decide ((0 : Int) ≤ (0 : Int) ∧ (0 : Int) < (↑(bytesOf B [] (0 : Nat) N).length : Int)), true), ((↑((bytesOf B [] (0 : Nat) N).getD (0 : Nat) (0 : UInt8)).toNat : Int) != (253 : Int), true), (decide (v ≥ (251 : Int)), false), (decide (v < (251 : Int)), true)] ∧ true = true ∧ True) := by kernel_rfl

set_option maxHeartbeats 4000000 in
theorem mbL1A (t0 t1 t2 t3 t4 t5 t6 t7 t8 t9 t10 t11 t12 t13 t14 t15 : List UInt8) (N : Nat) (B F : Ix → Int) (v : Int) (hB : ∀ i, i < N → 0 ≤ B [i] ∧ B [i] < 256) (hF : ∀ i, i < 32 → 0 ≤ F [i] ∧ F [i] < 256) (hv : -9223372036854775808 ≤ v ∧ v < 9223372036854775808) (hN : 2 < N ∧ N ≤ 34) (hk : 251 ≤ B [0] ∧ B [0] ≤ 254 ∧ B [0] ≠ 253) (hk1 : B [1] = 2) (hv0 : v < 251) :
    RunsTo Tryd.prog 8 [.code (bodyOf Tryd.f8)] (envOf [vL 100 1 N, vN v, .agg (arrT F)] Tryd.f8.ntmps) (Sx.look (allG t0 t1 t2 t3 t4 t5 t6 t7 t8 t9 t10 t11 t12 t13 t14 t15 ++ bE 100 N B ++ ([]))) 110 (YES) (Sx.look ([])) 900 := by
  have hbl := bytesOf_len B [] 0 N
  have hF2 := bndB_of hF
  have hcF := cut_bytes F 32 hF
  have hcu : cutN F 0 32 ≤ 32 := cutN_le _ _ _
  have z0 : ((0 : Nat) : Int) = 0 := rfl
  have hlf := bytesOf_len F [] 0 32
  have hcl : (cutL (bytesOf F [] 0 32)).length ≤ 32 := by rw [← hcF, bytesOf_len]; exact hcu
  have e53 : bytesOf (upd (upd (fun is => 0) [0] (IntKind.u8.wrap 253)) [1] 2) [] 0 2 = [253, 2] := rfl
  have hl2 : ([253, 2] : List UInt8).length = 2 := rfl
  have h0 := hB 0 (by omega)
  have h1 := hB 1 (by omega)
  have g0 : ((((bytesOf B [] 0 N).getD 0 0).toNat : Nat) : Int) = B [0] := bytesOf_nat (is := []) (st := 0) (by omega) h0
  have g1 : ((((bytesOf B [] 0 N).getD 1 0).toNat : Nat) : Int) = B [1] := bytesOf_nat (is := []) (st := 0) (by omega) h1
  refine runs_last baseM0 (Sx.Ends.of (mbL1A_p0 t0 t1 t2 t3 t4 t5 t6 t7 t8 t9 t10 t11 t12 t13 t14 t15 N B F v) ⟨?oo, ?rr⟩) (by kernel_rfl) rfl (gtL (by decide)) (by decide)
  case oo =>
    refine (okc ?_ (okc ?_ (okc ?_ (okc ?_ (okc ?_ (okc ?_ (okc ?_ (okc ?_ (okc ?_ (okc ?_ (okc ?_ (okc ?_ (okc ?_ (okc ?_ (okc ?_ (okc ?_ (okc ?_ (okc ?_ (okc ?_ (okc ?_ (okc ?_ (okc ?_ (okc ?_ (okc ?_ (okc ?_ (okc ?_ (okc ?_ (okc ?_ (okc ?_ (okc ?_ (okc ?_ okn)))))))))))))))))))))))))))))))
    all_goals ((try simp (disch := omega) only [SS, nmK, hbl, hF2, hcF, z0, hlf, beq_self_eq_true, g0, g1]); first | done | omega | assumption | (simp (disch := omega) only [SS, nmK, hbl, hF2, hcF, z0, hlf, beq_self_eq_true, g0, g1] at *; first | done | omega | assumption) | (simp_all; done))
  case rr =>
    try simp (disch := omega) only [SS, nmK, hbl, hF2, hcF, z0, hlf, beq_self_eq_true, g0, g1]
    repeat' apply And.intro
    all_goals first | exact True.intro | with_reducible rfl | omega | (intros; first | exact True.intro | with_reducible rfl | omega | (simp_all; done)) | (simp_all; done) | rfl

theorem mbL1B_p0 (t0 t1 t2 t3 t4 t5 t6 t7 t8 t9 t10 t11 t12 t13 t14 t15 : List UInt8) (N : Nat) (B F : Ix → Int) (v : Int) :
    isEnd (evTill Tryd.prog sumsM0 300 (99) 900 8 [.code (bodyOf Tryd.f8)] (envOf [vL 100 1 N, vN v, .agg (arrT F)] Tryd.f8.ntmps) (allG t0 t1 t2 t3 t4 t5 t6 t7 t8 t9 t10 t11 t12 t13 t14 t15 ++ bE 100 N B ++ ([])) ⟨[.t, .f, .s false, .s false, .s true, .s true, .s true, .s true, .s false, .s true, .s true, .s true, .s false, .s false, .s true, .s true, .s true, .s true, .s true, .s true, .s false, .s true, .s false, .s true, .s false, .s true, .s false, .s false, .s true, .s true, .s true, .f, .f, .f, .t, .t, .t, .t, .t, .t, .f, .f, .s true, .s true, .s false, .s true, .t], 110⟩) (endP ([]) (YES) ([]) 900) =
    (OkL [(decide ((↑N : Int) > (100 : Int)), false), (decide ((↑N : Int) < (2 : Int)), false), (decide ((0 : Int) ≤ (0 : Int) ∧ (0 : Int) < (↑N : Int)), true), (Nat.blt (0 : Nat) N, true), (Nat.blt (0 : Nat) N, true), (decide (IntKind.i64.wrap (B [(0 : Nat)]) ≥ (251 : Int)), true), (!decide (IntKind.i64.wrap (B [(0 : Nat)]) ≤ (254 : Int)), false), (decide ((0 : Int) ≤ (1 : Int) ∧ (1 : Int) < (↑N : Int)), true), (Nat.blt (1 : Nat) N, true), (Nat.blt (1 : Nat) N, true), (B [(1 : Nat)] != (2 : Int), false), (decide (IntKind.i64.wrap ((↑N : Int) - (2 : Int)) > (32 : Int)), false), (decide ((↑N : Int) > (2 : Int)), true), (decide ((0 : Int) ≤ (0 : Int) ∧ (0 : Int) < (↑N : Int)), true), (Nat.blt (0 : Nat) N, true), (Nat.blt (0 : Nat) N, true), (B [(0 : Nat)] != (253 : Int), true), (((0 : Nat) + N).ble N, true), (decide ((↑(bytesOf B [] (0 : Nat) N).length : Int) < (2 : Int)), false), (decide ((0 : Int) ≤ (0 : Int) ∧ (0 : Int) < (↑(bytesOf B [] (0 : Nat) N).length : Int)), true), (decide ((↑((bytesOf B [] (0 : Nat) N).getD (0 : Nat) (0 : UInt8)).toNat : Int) < (251 : Int)), false), (decide ((0 : Int) ≤ (0 : Int) ∧ (0 : Int) < (↑(bytesOf B [] (0 : Nat) N).length : Int)), true), (decide ((↑((bytesOf B [] (0 : Nat) N).getD (0 : Nat) (0 : UInt8)).toNat : Int) > (254 : Int)), false), (decide ((0 : Int) ≤ (1 : Int) ∧ (1 : Int) < (↑(bytesOf B [] (0 : Nat) N).length : Int)), true), ((↑((bytesOf B [] (0 : Nat) N).getD (1 : Nat) (0 : UInt8)).toNat : Int) != (2 : Int), false), (decide ((↑(bytesOf B [] (0 : Nat) N).length : Int) > (34 : Int)), false), (decide ((↑(bytesOf B [] (0 : Nat) N).length : Int) > (2 : Int)), true), (decide ((0 : Int) ≤ (0 : Int) ∧ (0 : Int) < (↑(bytesOf B [] (0 : Nat) N).length : Int)), true), ((↑((bytesOf B [] (0 : Nat) N).getD (0 : Nat) (0 : UInt8)).toNat : Int) != (253 : Int), true), (decide (v ≥ (251 : Int)), true), (!decide (v ≤ (254 : Int)), true), (decide (v < (251 : Int)), false), (decide (v > (254 : Int)), true)] ∧ true = true ∧ True) := by kernel_rfl

set_option maxHeartbeats 4000000 in
theorem mbL1B (t0 t1 t2 t3 t4 t5 t6 t7 t8 t9 t10 t11 t12 t13 t14 t15 : List UInt8) (N : Nat) (B F : Ix → Int) (v : Int) (hB : ∀ i, i < N → 0 ≤ B [i] ∧ B [i] < 256) (hF : ∀ i, i < 32 → 0 ≤ F [i] ∧ F [i] < 256) (hv : -9223372036854775808 ≤ v ∧ v < 9223372036854775808) (hN : 2 < N ∧ N ≤ 34) (hk : 251 ≤ B [0] ∧ B [0] ≤ 254 ∧ B [0] ≠ 253) (hk1 : B [1] = 2) (hv0 : 254 < v) :
    RunsTo Tryd.prog 8 [.code (bodyOf Tryd.f8)] (envOf [vL 100 1 N, vN v, .agg (arrT F)] Tryd.f8.ntmps) (Sx.look (allG t0 t1 t2 t3 t4 t5 t6 t7 t8 t9 t10 t11 t12 t13 t14 t15 ++ bE 100 N B ++ ([]))) 110 (YES) (Sx.look ([])) 900 := by
  have hbl := bytesOf_len B [] 0 N
  have hF2 := bndB_of hF
  have hcF := cut_bytes F 32 hF
  have hcu : cutN F 0 32 ≤ 32 := cutN_le _ _ _
  have z0 : ((0 : Nat) : Int) = 0 := rfl
  have hlf := bytesOf_len F [] 0 32
  have hcl : (cutL (bytesOf F [] 0 32)).length ≤ 32 := by rw [← hcF, bytesOf_len]; exact hcu
  have e53 : bytesOf (upd (upd (fun is => 0) [0] (IntKind.u8.wrap 253)) [1] 2) [] 0 2 = [253, 2] := rfl
  have hl2 : ([253, 2] : List UInt8).length = 2 := rfl
  have h0 := hB 0 (by omega)
  have h1 := hB 1 (by omega)
  have g0 : ((((bytesOf B [] 0 N).getD 0 0).toNat : Nat) : Int) = B [0] := bytesOf_nat (is := []) (st := 0) (by omega) h0
  have g1 : ((((bytesOf B [] 0 N).getD 1 0).toNat : Nat) : Int) = B [1] := bytesOf_nat (is := []) (st := 0) (by omega) h1
  refine runs_last baseM0 (Sx.Ends.of (mbL1B_p0 t0 t1 t2 t3 t4 t5 t6 t7 t8 t9 t10 t11 t12 t13 t14 t15 N B F v) ⟨?oo, ?rr⟩) (by kernel_rfl) rfl (gtL (by decide)) (by decide)
  case oo =>
    refine (okc ?_ (okc ?_ (okc ?_ (okc ?_ (okc ?_ (okc ?_ (okc ?_ (okc ?_ (okc ?_ (okc ?_ (okc ?_ (okc ?_ (okc ?_ (okc ?_ (okc ?_ (okc ?_ (okc ?_ (okc ?_ (okc ?_ (okc ?_ (okc ?_ (okc ?_ (okc ?_ (okc ?_ (okc ?_ (okc ?_ (okc ?_ (okc ?_ (okc ?_ (okc ?_ (okc ?_ (okc ?_ (okc ?_ okn)))))))))))))))))))))))))))))))))
    all_goals ((try simp (disch := omega) only [SS, nmK, hbl, hF2, hcF, z0, hlf, beq_self_eq_true, g0, g1]); first | done | omega | assumption | (simp (disch := omega) only [SS, nmK, hbl, hF2, hcF, z0, hlf, beq_self_eq_true, g0, g1] at *; first | done | omega | assumption) | (simp_all; done))
  case rr =>
    try simp (disch := omega) only [SS, nmK, hbl, hF2, hcF, z0, hlf, beq_self_eq_true, g0, g1]
    repeat' apply And.intro
    all_goals first | exact True.intro | with_reducible rfl | omega | (intros; first | exact True.intro | with_reducible rfl | omega | (simp_all; done)) | (simp_all; done) | rfl

theorem mbL1C_p0 (t0 t1 t2 t3 t4 t5 t6 t7 t8 t9 t10 t11 t12 t13 t14 t15 : List UInt8) (N : Nat) (B F : Ix → Int) (v : Int) :
    isEnd (evTill Tryd.prog sumsN0 300 (99) 900 8 [.code (bodyOf Tryd.f8)] (envOf [vL 100 1 N, vN v, .agg (arrT F)] Tryd.f8.ntmps) (allG t0 t1 t2 t3 t4 t5 t6 t7 t8 t9 t10 t11 t12 t13 t14 t15 ++ bE 100 N B ++ ([])) ⟨[.t, .f, .s false, .s false, .s true, .s true, .s true, .s true, .s false, .s true, .s true, .s true, .s false, .s false, .s true, .s true, .s true, .s true, .s true, .s true, .s false, .s true, .s false, .s true, .s false, .s true, .s false, .s false, .s true, .s true, .s true, .f, .f, .f, .t, .t, .t, .t, .t, .t, .f, .f, .s true, .s false, .s false, .t, .s true, .t, .t, .s true, .t, .s true], 110⟩) (endP ([]) (YES) ([]) 900) =
    (OkL [(decide ((↑N : Int) > (100 : Int)), false), (decide ((↑N : Int) < (2 : Int)), false), (decide ((0 : Int) ≤ (0 : Int) ∧ (0 : Int) < (↑N : Int)), true), (Nat.blt (0 : Nat) N, true), (Nat.blt (0 : Nat) N, true), (decide (IntKind.i64.wrap (B [(0 : Nat)]) ≥ (251 : Int)), true), (!decide (IntKind.i64.wrap (B [(0 : Nat)]) ≤ (254 : Int)), false), (decide ((0 : Int) ≤ (1 : Int) ∧ (1 : Int) < (↑N : Int)), true), (Nat.blt (1 : Nat) N, true), (Nat.blt (1 : Nat) N, true), (B [(1 : Nat)] != (2 : Int), false), (decide (IntKind.i64.wrap ((↑N : Int) - (2 : Int)) > (32 : Int)), false), (decide ((↑N : Int) > (2 : Int)), true), (decide ((0 : Int) ≤ (0 : Int) ∧ (0 : Int) < (↑N : Int)), true), (Nat.blt (0 : Nat) N, true), (Nat.blt (0 : Nat) N, true), (B [(0 : Nat)] != (253 : Int), true), (((0 : Nat) + N).ble N, true), (decide ((↑(bytesOf B [] (0 : Nat) N).length : Int) < (2 : Int)), false), (decide ((0 : Int) ≤ (0 : Int) ∧ (0 : Int) < (↑(bytesOf B [] (0 : Nat) N).length : Int)), true), (decide ((↑((bytesOf B [] (0 : Nat) N).getD (0 : Nat) (0 : UInt8)).toNat : Int) < (251 : Int)), false), (decide ((0 : Int) ≤ (0 : Int) ∧ (0 : Int) < (↑(bytesOf B [] (0 : Nat) N).length : Int)), true), (decide ((↑((bytesOf B [] (0 : Nat) N).getD (0 : Nat) (0 : UInt8)).toNat : Int) > (254 : Int)), false), (decide ((0 : Int) ≤ (1 : Int) ∧ (1 : Int) < (↑(bytesOf B [] (0 : Nat) N).length : Int)), true), ((↑((bytesOf B [] (0 : Nat) N).getD (1 : Nat) (0 : UInt8)).toNat : Int) != (2 : Int), false), (decide ((↑(bytesOf B [] (0 : Nat) N).length : Int) > (34 : Int)), false), (decide ((↑(bytesOf B [] (0 : Nat) N).length : Int) > (2 : Int)), true), (decide ((0 : Int) ≤ (0 : Int) ∧ (0 : Int) < (↑(bytesOf B [] (0 : Nat) N).length : Int)), true), ((↑((bytesOf B [] (0 : Nat) N).getD (0 : Nat) (0 : UInt8)).toNat : Int) != (253 : Int), true), (decide (v = (253 : Int)) && bndB (fun js => F js) (32 : Nat), true), (decide (v < (251 : Int)), false), (decide (v > (254 : Int)), false), (v == (253 : Int), true), (decide ((bytesOf (upd (upd (fun is => (0 : Int)) [(0 : Nat)] (IntKind.u8.wrap v)) [(1 : Nat)] (2 : Int)) [] (0 : Nat) (2 : Nat)).length + (cutL (bytesOf F [] (0 : Nat) (32 : Nat))).length ≤ (9223372036854775807 : Nat)), true), (((0 : Nat) + ([(253 : UInt8), (2 : UInt8)] ++ bytesOf (fun js => F js) [] (0 : Nat) (cutN (fun js => F js) (0 : Int) (32 : Nat))).length).ble ([(253 : UInt8), (2 : UInt8)] ++ bytesOf (fun js => F js) [] (0 : Nat) (cutN (fun js => F js) (0 : Int) (32 : Nat))).length, true)] ∧ true = (bytesOf (fun is => (↑(([(253 : UInt8), (2 : UInt8)] ++ bytesOf (fun js => F js) [] (0 : Nat) (cutN (fun js => F js) (0 : Int) (32 : Nat))).getD (List.headD is (0 : Nat)) (0 : UInt8)).toNat : Int)) [] (0 : Nat) ([(253 : UInt8), (2 : UInt8)] ++ bytesOf (fun js => F js) [] (0 : Nat) (cutN (fun js => F js) (0 : Int) (32 : Nat))).length == bytesOf (upd (upd (fun is => (0 : Int)) [(0 : Nat)] (IntKind.u8.wrap v)) [(1 : Nat)] (2 : Int)) [] (0 : Nat) (2 : Nat) ++ cutL (bytesOf F [] (0 : Nat) (32 : Nat))) ∧ True) := by kernel_rfl

set_option maxHeartbeats 4000000 in
theorem mbL1C (t0 t1 t2 t3 t4 t5 t6 t7 t8 t9 t10 t11 t12 t13 t14 t15 : List UInt8) (N : Nat) (B F : Ix → Int) (v : Int) (hB : ∀ i, i < N → 0 ≤ B [i] ∧ B [i] < 256) (hF : ∀ i, i < 32 → 0 ≤ F [i] ∧ F [i] < 256) (hv : -9223372036854775808 ≤ v ∧ v < 9223372036854775808) (hN : 2 < N ∧ N ≤ 34) (hk : 251 ≤ B [0] ∧ B [0] ≤ 254 ∧ B [0] ≠ 253) (hk1 : B [1] = 2) (hv0 : v = 253) :
    RunsTo Tryd.prog 8 [.code (bodyOf Tryd.f8)] (envOf [vL 100 1 N, vN v, .agg (arrT F)] Tryd.f8.ntmps) (Sx.look (allG t0 t1 t2 t3 t4 t5 t6 t7 t8 t9 t10 t11 t12 t13 t14 t15 ++ bE 100 N B ++ ([]))) 110 (YES) (Sx.look ([])) 900 := by
  have hbl := bytesOf_len B [] 0 N
  have hF2 := bndB_of hF
  have hcF := cut_bytes F 32 hF
  have hcu : cutN F 0 32 ≤ 32 := cutN_le _ _ _
  have z0 : ((0 : Nat) : Int) = 0 := rfl
  have hlf := bytesOf_len F [] 0 32
  have hcl : (cutL (bytesOf F [] 0 32)).length ≤ 32 := by rw [← hcF, bytesOf_len]; exact hcu
  have e53 : bytesOf (upd (upd (fun is => 0) [0] (IntKind.u8.wrap 253)) [1] 2) [] 0 2 = [253, 2] := rfl
  have hl2 : ([253, 2] : List UInt8).length = 2 := rfl
  have h0 := hB 0 (by omega)
  have h1 := hB 1 (by omega)
  have g0 : ((((bytesOf B [] 0 N).getD 0 0).toNat : Nat) : Int) = B [0] := bytesOf_nat (is := []) (st := 0) (by omega) h0
  have g1 : ((((bytesOf B [] 0 N).getD 1 0).toNat : Nat) : Int) = B [1] := bytesOf_nat (is := []) (st := 0) (by omega) h1
  refine runs_last baseN0 (Sx.Ends.of (mbL1C_p0 t0 t1 t2 t3 t4 t5 t6 t7 t8 t9 t10 t11 t12 t13 t14 t15 N B F v) ⟨?oo, ?rr⟩) (by kernel_rfl) rfl (gtL (by decide)) (by decide)
  case oo =>
    refine (okc ?_ (okc ?_ (okc ?_ (okc ?_ (okc ?_ (okc ?_ (okc ?_ (okc ?_ (okc ?_ (okc ?_ (okc ?_ (okc ?_ (okc ?_ (okc ?_ (okc ?_ (okc ?_ (okc ?_ (okc ?_ (okc ?_ (okc ?_ (okc ?_ (okc ?_ (okc ?_ (okc ?_ (okc ?_ (okc ?_ (okc ?_ (okc ?_ (okc ?_ (okc ?_ (okc ?_ (okc ?_ (okc ?_ (okc ?_ (okc ?_ okn)))))))))))))))))))))))))))))))))))
    all_goals ((try simp (disch := omega) only [SS, nmK, hbl, hF2, hcF, z0, hlf, beq_self_eq_true, g0, g1, hv0, e53, hl2, bytesOf_full]); first | done | omega | assumption | (simp (disch := omega) only [SS, nmK, hbl, hF2, hcF, z0, hlf, beq_self_eq_true, g0, g1, hv0, e53, hl2, bytesOf_full] at *; first | done | omega | assumption) | (simp_all; done))
  case rr =>
    try simp (disch := omega) only [SS, nmK, hbl, hF2, hcF, z0, hlf, beq_self_eq_true, g0, g1, hv0, e53, hl2, bytesOf_full]
    repeat' apply And.intro
    all_goals first | exact True.intro | with_reducible rfl | omega | (intros; first | exact True.intro | with_reducible rfl | omega | (simp_all; done)) | (simp_all; done) | rfl

theorem mbL1D_p0 (t0 t1 t2 t3 t4 t5 t6 t7 t8 t9 t10 t11 t12 t13 t14 t15 : List UInt8) (N : Nat) (B F : Ix → Int) (v : Int) :
    isEnd (evTill Tryd.prog sumsM0 300 (99) 900 8 [.code (bodyOf Tryd.f8)] (envOf [vL 100 1 N, vN v, .agg (arrT F)] Tryd.f8.ntmps) (allG t0 t1 t2 t3 t4 t5 t6 t7 t8 t9 t10 t11 t12 t13 t14 t15 ++ bE 100 N B ++ ([])) ⟨[.t, .f, .s false, .s false, .s true, .s true, .s true, .s true, .s false, .s true, .s true, .s true, .s false, .s false, .s true, .s true, .s true, .s true, .s true, .s true, .s false, .s true, .s false, .s true, .s false, .s true, .s false, .s false, .s true, .s true, .s true, .f, .f, .f, .t, .t, .t, .t, .t, .t, .f, .f, .s true, .s false, .s false, .s false, .s false, .t, .s false, .t, .t], 110⟩) (endP ([]) (YES) ([]) 900) =
    (OkL [(decide ((↑N : Int) > (100 : Int)), false), (decide ((↑N : Int) < (2 : Int)), false), (decide ((0 : Int) ≤ (0 : Int) ∧ (0 : Int) < (↑N : Int)), true), (Nat.blt (0 : Nat) N, true), (Nat.blt (0 : Nat) N, true), (decide (IntKind.i64.wrap (B [(0 : Nat)]) ≥ (251 : Int)), true), (!decide (IntKind.i64.wrap (B [(0 : Nat)]) ≤ (254 : Int)), false), (decide ((0 : Int) ≤ (1 : Int) ∧ (1 : Int) < (↑N : Int)), true), (Nat.blt (1 : Nat) N, true), (Nat.blt (1 : Nat) N, true), (B [(1 : Nat)] != (2 : Int), false), (decide (IntKind.i64.wrap ((↑N : Int) - (2 : Int)) > (32 : Int)), false), (decide ((↑N : Int) > (2 : Int)), true), (decide ((0 : Int) ≤ (0 : Int) ∧ (0 : Int) < (↑N : Int)), true), (Nat.blt (0 : Nat) N, true), (Nat.blt (0 : Nat) N, true), (B [(0 : Nat)] != (253 : Int), true), (((0 : Nat) + N).ble N, true), (decide ((↑(bytesOf B [] (0 : Nat) N).length : Int) < (2 : Int)), false), (decide ((0 : Int) ≤ (0 : Int) ∧ (0 : Int) < (↑(bytesOf B [] (0 : Nat) N).length : Int)), true), (decide ((↑((bytesOf B [] (0 : Nat) N).getD (0 : Nat) (0 : UInt8)).toNat : Int) < (251 : Int)), false), (decide ((0 : Int) ≤ (0 : Int) ∧ (0 : Int) < (↑(bytesOf B [] (0 : Nat) N).length : Int)), true), (decide ((↑((bytesOf B [] (0 : Nat) N).getD (0 : Nat) (0 : UInt8)).toNat : Int) > (254 : Int)), false), (decide ((0 : Int) ≤ (1 : Int) ∧ (1 : Int) < (↑(bytesOf B [] (0 : Nat) N).length : Int)), true), ((↑((bytesOf B [] (0 : Nat) N).getD (1 : Nat) (0 : UInt8)).toNat : Int) != (2 : Int), false), (decide ((↑(bytesOf B [] (0 : Nat) N).length : Int) > (34 : Int)), false), (decide ((↑(bytesOf B [] (0 : Nat) N).length : Int) > (2 : Int)), true), (decide ((0 : Int) ≤ (0 : Int) ∧ (0 : Int) < (↑(bytesOf B [] (0 : Nat) N).length : Int)), true), ((↑((bytesOf B [] (0 : Nat) N).getD (0 : Nat) (0 : UInt8)).toNat : Int) != (253 : Int), true), (decide (v ≥ (251 : Int)), true), (!decide (v ≤ (254 : Int)), false), (v == (253 : Int), false), (decide (v < (251 : Int)), false), (decide (v > (254 : Int)), false), (v == (253 : Int), false)] ∧ true = (bytesOf (upd (upd (fun is => (0 : Int)) [(0 : Nat)] (IntKind.u8.wrap v)) [(1 : Nat)] (2 : Int)) [] (0 : Nat) (2 : Nat) == bytesOf (upd (upd (fun is => (0 : Int)) [(0 : Nat)] (IntKind.u8.wrap v)) [(1 : Nat)] (2 : Int)) [] (0 : Nat) (2 : Nat)) ∧ True) := by kernel_rfl

set_option maxHeartbeats 4000000 in
theorem mbL1D (t0 t1 t2 t3 t4 t5 t6 t7 t8 t9 t10 t11 t12 t13 t14 t15 : List UInt8) (N : Nat) (B F : Ix → Int) (v : Int) (hB : ∀ i, i < N → 0 ≤ B [i] ∧ B [i] < 256) (hF : ∀ i, i < 32 → 0 ≤ F [i] ∧ F [i] < 256) (hv : -9223372036854775808 ≤ v ∧ v < 9223372036854775808) (hN : 2 < N ∧ N ≤ 34) (hk : 251 ≤ B [0] ∧ B [0] ≤ 254 ∧ B [0] ≠ 253) (hk1 : B [1] = 2) (hv0 : 251 ≤ v ∧ v ≤ 254 ∧ v ≠ 253) :
    RunsTo Tryd.prog 8 [.code (bodyOf Tryd.f8)] (envOf [vL 100 1 N, vN v, .agg (arrT F)] Tryd.f8.ntmps) (Sx.look (allG t0 t1 t2 t3 t4 t5 t6 t7 t8 t9 t10 t11 t12 t13 t14 t15 ++ bE 100 N B ++ ([]))) 110 (YES) (Sx.look ([])) 900 := by
  have hbl := bytesOf_len B [] 0 N
  have hF2 := bndB_of hF
  have hcF := cut_bytes F 32 hF
  have hcu : cutN F 0 32 ≤ 32 := cutN_le _ _ _
  have z0 : ((0 : Nat) : Int) = 0 := rfl
  have hlf := bytesOf_len F [] 0 32
  have hcl : (cutL (bytesOf F [] 0 32)).length ≤ 32 := by rw [← hcF, bytesOf_len]; exact hcu
  have e53 : bytesOf (upd (upd (fun is => 0) [0] (IntKind.u8.wrap 253)) [1] 2) [] 0 2 = [253, 2] := rfl
  have hl2 : ([253, 2] : List UInt8).length = 2 := rfl
  have h0 := hB 0 (by omega)
  have h1 := hB 1 (by omega)
  have g0 : ((((bytesOf B [] 0 N).getD 0 0).toNat : Nat) : Int) = B [0] := bytesOf_nat (is := []) (st := 0) (by omega) h0
  have g1 : ((((bytesOf B [] 0 N).getD 1 0).toNat : Nat) : Int) = B [1] := bytesOf_nat (is := []) (st := 0) (by omega) h1
  have hu : IntKind.u8.wrap v = v := u8id (by omega)
  refine runs_last baseM0 (Sx.Ends.of (mbL1D_p0 t0 t1 t2 t3 t4 t5 t6 t7 t8 t9 t10 t11 t12 t13 t14 t15 N B F v) ⟨?oo, ?rr⟩) (by kernel_rfl) rfl (gtL (by decide)) (by decide)
  case oo =>
    refine (okc ?_ (okc ?_ (okc ?_ (okc ?_ (okc ?_ (okc ?_ (okc ?_ (okc ?_ (okc ?_ (okc ?_ (okc ?_ (okc ?_ (okc ?_ (okc ?_ (okc ?_ (okc ?_ (okc ?_ (okc ?_ (okc ?_ (okc ?_ (okc ?_ (okc ?_ (okc ?_ (okc ?_ (okc ?_ (okc ?_ (okc ?_ (okc ?_ (okc ?_ (okc ?_ (okc ?_ (okc ?_ (okc ?_ (okc ?_ (okc ?_ okn)))))))))))))))))))))))))))))))))))
    all_goals ((try simp (disch := omega) only [SS, nmK, hbl, hF2, hcF, z0, hlf, beq_self_eq_true, g0, g1, hu]); first | done | omega | assumption | (simp (disch := omega) only [SS, nmK, hbl, hF2, hcF, z0, hlf, beq_self_eq_true, g0, g1, hu] at *; first | done | omega | assumption) | (simp_all; done))
  case rr =>
    try simp (disch := omega) only [SS, nmK, hbl, hF2, hcF, z0, hlf, beq_self_eq_true, g0, g1, hu]
    repeat' apply And.intro
    all_goals first | exact True.intro | with_reducible rfl | omega | (intros; first | exact True.intro | with_reducible rfl | omega | (simp_all; done)) | (simp_all; done) | rfl

theorem mbOkA_p0 (t0 t1 t2 t3 t4 t5 t6 t7 t8 t9 t10 t11 t12 t13 t14 t15 : List UInt8) (N : Nat) (B F : Ix → Int) (v : Int) :
    isEnd (evTill Tryd.prog sumsM1 300 (99) 900 8 [.code (bodyOf Tryd.f8)] (envOf [vL 100 1 N, vN v, .agg (arrT F)] Tryd.f8.ntmps) (allG t0 t1 t2 t3 t4 t5 t6 t7 t8 t9 t10 t11 t12 t13 t14 t15 ++ bE 100 N B ++ ([])) ⟨[.t, .f, .s false, .s true, .s true, .s true, .s false, .s true, .s false, .s true, .s false, .s true, .s false, .s false, .s false, .s true, .s true, .s true, .s false, .f, .f, .t, .t, .t, .t, .t, .s true, .s false, .f, .s false, .t, .s true, .t], 110⟩) (endP ([]) (YES) ([]) 900) =
    (OkL [(decide ((↑N : Int) > (100 : Int)), false), (N.beq N, true), (decide (((2 : Nat) ≤ N ∧ N ≤ (34 : Nat)) ∧ ((251 : Int) ≤ B [(0 : Nat)] ∧ B [(0 : Nat)] ≤ (254 : Int)) ∧ B [(1 : Nat)] = (2 : Int) ∧ (N = (2 : Nat) ∨ B [(0 : Nat)] = (253 : Int))), true), (((0 : Nat) + N).ble N, true), (decide ((↑(bytesOf B [] (0 : Nat) N).length : Int) < (2 : Int)), false), (decide ((0 : Int) ≤ (0 : Int) ∧ (0 : Int) < (↑(bytesOf B [] (0 : Nat) N).length : Int)), true), (decide ((↑((bytesOf B [] (0 : Nat) N).getD (0 : Nat) (0 : UInt8)).toNat : Int) < (251 : Int)), false), (decide ((0 : Int) ≤ (0 : Int) ∧ (0 : Int) < (↑(bytesOf B [] (0 : Nat) N).length : Int)), true), (decide ((↑((bytesOf B [] (0 : Nat) N).getD (0 : Nat) (0 : UInt8)).toNat : Int) > (254 : Int)), false), (decide ((0 : Int) ≤ (1 : Int) ∧ (1 : Int) < (↑(bytesOf B [] (0 : Nat) N).length : Int)), true), ((↑((bytesOf B [] (0 : Nat) N).getD (1 : Nat) (0 : UInt8)).toNat : Int) != (2 : Int), false), (decide ((↑(bytesOf B [] (0 : Nat) N).length : Int) > (34 : Int)), false), (decide ((↑(bytesOf B [] (0 : Nat) N).length : Int) > (2 : Int)), false), (decide ((0 : Int) ≤ (0 : Int) ∧ (0 : Int) < (↑(bytesOf B [] (0 : Nat) N).length : Int)), true), (decide ((0 : Int) ≤ (2 : Int) ∧ (2 : Int) ≤ (↑(bytesOf B [] (0 : Nat) N).length : Int)), true), (decide ((List.drop (2 : Nat) (List.take (bytesOf B [] (0 : Nat) N).length (bytesOf B [] (0 : Nat) N))).length ≤ (1000000 : Nat)), true), (B [(0 : Nat)] != IntKind.i64.wrap (↑((bytesOf B [] (0 : Nat) N).getD (0 : Nat) (0 : UInt8)).toNat : Int), false), (((0 : Nat) + cutN (fun js => parF N B js) (↑(0 : Nat) : Int) (32 : Nat)).ble (32 : Nat), true), (!bytesOf (fun js => parF N B js) [] (0 : Nat) (cutN (fun js => parF N B js) (↑(0 : Nat) : Int) (32 : Nat)) == cutL (List.drop (2 : Nat) (List.take (bytesOf B [] (0 : Nat) N).length (bytesOf B [] (0 : Nat) N))), false), (decide (v ≥ (251 : Int)), false), (decide (v < (251 : Int)), true)] ∧ true = true ∧ True) := by kernel_rfl
theorem mbOkA_p1 (t0 t1 t2 t3 t4 t5 t6 t7 t8 t9 t10 t11 t12 t13 t14 t15 : List UInt8) (N : Nat) (B F : Ix → Int) (v : Int) :
    isEnd (evTill Tryd.prog sumsM1 300 (99) 900 8 [.code (bodyOf Tryd.f8)] (envOf [vL 100 1 N, vN v, .agg (arrT F)] Tryd.f8.ntmps) (allG t0 t1 t2 t3 t4 t5 t6 t7 t8 t9 t10 t11 t12 t13 t14 t15 ++ bE 100 N B ++ ([])) ⟨[.t, .f, .s false, .s true, .s true, .s true, .s false, .s true, .s false, .s true, .s false, .s true, .s false, .s false, .s true, .s true, .s false, .s true, .s true, .s true, .s false, .f, .f, .t, .t, .t, .t, .t, .s true, .s false, .f, .s false, .t, .s true, .t], 110⟩) (endP ([]) (YES) ([]) 900) =
    (OkL [(decide ((↑N : Int) > (100 : Int)), false), (N.beq N, true), (decide (((2 : Nat) ≤ N ∧ N ≤ (34 : Nat)) ∧ ((251 : Int) ≤ B [(0 : Nat)] ∧ B [(0 : Nat)] ≤ (254 : Int)) ∧ B [(1 : Nat)] = (2 : Int) ∧ (N = (2 : Nat) ∨ B [(0 : Nat)] = (253 : Int))), true), (((0 : Nat) + N).ble N, true), (decide ((↑(bytesOf B [] (0 : Nat) N).length : Int) < (2 : Int)), false), (decide ((0 : Int) ≤ (0 : Int) ∧ (0 : Int) < (↑(bytesOf B [] (0 : Nat) N).length : Int)), true), (decide ((↑((bytesOf B [] (0 : Nat) N).getD (0 : Nat) (0 : UInt8)).toNat : Int) < (251 : Int)), false), (decide ((0 : Int) ≤ (0 : Int) ∧ (0 : Int) < (↑(bytesOf B [] (0 : Nat) N).length : Int)), true), (decide ((↑((bytesOf B [] (0 : Nat) N).getD (0 : Nat) (0 : UInt8)).toNat : Int) > (254 : Int)), false), (decide ((0 : Int) ≤ (1 : Int) ∧ (1 : Int) < (↑(bytesOf B [] (0 : Nat) N).length : Int)), true), ((↑((bytesOf B [] (0 : Nat) N).getD (1 : Nat) (0 : UInt8)).toNat : Int) != (2 : Int), false), (decide ((↑(bytesOf B [] (0 : Nat) N).length : Int) > (34 : Int)), false), (decide ((↑(bytesOf B [] (0 : Nat) N).length : Int) > (2 : Int)), true), (decide ((0 : Int) ≤ (0 : Int) ∧ (0 : Int) < (↑(bytesOf B [] (0 : Nat) N).length : Int)), true), ((↑((bytesOf B [] (0 : Nat) N).getD (0 : Nat) (0 : UInt8)).toNat : Int) != (253 : Int), false), (decide ((0 : Int) ≤ (0 : Int) ∧ (0 : Int) < (↑(bytesOf B [] (0 : Nat) N).length : Int)), true), (decide ((0 : Int) ≤ (2 : Int) ∧ (2 : Int) ≤ (↑(bytesOf B [] (0 : Nat) N).length : Int)), true), (decide ((List.drop (2 : Nat) (List.take (bytesOf B [] (0 : Nat) N).length (bytesOf B [] (0 : Nat) N))).length ≤ (1000000 : Nat)), true), (B [(0 : Nat)] != IntKind.i64.wrap (↑((bytesOf B [] (0 : Nat) N).getD (0 : Nat) (0 : UInt8)).toNat : Int), false), (((0 : Nat) + cutN (fun js => parF N B js) (↑(0 : Nat) : Int) (32 : Nat)).ble (32 : Nat), true), (!bytesOf (fun js => parF N B js) [] (0 : Nat) (cutN (fun js => parF N B js) (↑(0 : Nat) : Int) (32 : Nat)) == cutL (List.drop (2 : Nat) (List.take (bytesOf B [] (0 : Nat) N).length (bytesOf B [] (0 : Nat) N))), false), (decide (v ≥ (251 : Int)), false), (decide (v < (251 : Int)), true)] ∧ true = true ∧ True) := by kernel_rfl

set_option maxHeartbeats 4000000 in
theorem mbOkA (t0 t1 t2 t3 t4 t5 t6 t7 t8 t9 t10 t11 t12 t13 t14 t15 : List UInt8) (N : Nat) (B F : Ix → Int) (v : Int) (hB : ∀ i, i < N → 0 ≤ B [i] ∧ B [i] < 256) (hF : ∀ i, i < 32 → 0 ≤ F [i] ∧ F [i] < 256) (hv : -9223372036854775808 ≤ v ∧ v < 9223372036854775808) (hN : 2 ≤ N ∧ N ≤ 34) (hk : 251 ≤ B [0] ∧ B [0] ≤ 254) (hk1 : B [1] = 2) (hk2 : N = 2 ∨ B [0] = 253) (hv0 : v < 251) :
    RunsTo Tryd.prog 8 [.code (bodyOf Tryd.f8)] (envOf [vL 100 1 N, vN v, .agg (arrT F)] Tryd.f8.ntmps) (Sx.look (allG t0 t1 t2 t3 t4 t5 t6 t7 t8 t9 t10 t11 t12 t13 t14 t15 ++ bE 100 N B ++ ([]))) 110 (YES) (Sx.look ([])) 900 := by
  have hbl := bytesOf_len B [] 0 N
  have hF2 := bndB_of hF
  have hcF := cut_bytes F 32 hF
  have hcu : cutN F 0 32 ≤ 32 := cutN_le _ _ _
  have z0 : ((0 : Nat) : Int) = 0 := rfl
  have hlf := bytesOf_len F [] 0 32
  have hcl : (cutL (bytesOf F [] 0 32)).length ≤ 32 := by rw [← hcF, bytesOf_len]; exact hcu
  have e53 : bytesOf (upd (upd (fun is => 0) [0] (IntKind.u8.wrap 253)) [1] 2) [] 0 2 = [253, 2] := rfl
  have hl2 : ([253, 2] : List UInt8).length = 2 := rfl
  have h0 := hB 0 (by omega)
  have h1 := hB 1 (by omega)
  have g0 : ((((bytesOf B [] 0 N).getD 0 0).toNat : Nat) : Int) = B [0] := bytesOf_nat (is := []) (st := 0) (by omega) h0
  have g1 : ((((bytesOf B [] 0 N).getD 1 0).toNat : Nat) : Int) = B [1] := bytesOf_nat (is := []) (st := 0) (by omega) h1
  have hw0 : IntKind.i64.wrap (B [0]) = B [0] := wr64 (by omega)
  have hp := par_cut hN hB
  have ht : List.take N (bytesOf B [] 0 N) = bytesOf B [] 0 N := List.take_of_length_le (by omega)
  have hcp : cutN (parF N B) 0 32 ≤ 32 := cutN_le _ _ _
  refine bcase (c := (decide ((↑(bytesOf B [] (0 : Nat) N).length : Int) > (2 : Int)))) (fun gg0 => ?_) (fun gg0 => ?_)
  · refine runs_last baseM1 (Sx.Ends.of (mbOkA_p0 t0 t1 t2 t3 t4 t5 t6 t7 t8 t9 t10 t11 t12 t13 t14 t15 N B F v) ⟨?oo, ?rr⟩) (by kernel_rfl) rfl (gtL (by decide)) (by decide)
    case oo =>
      refine (okc ?_ (okc ?_ (okc ?_ (okc ?_ (okc ?_ (okc ?_ (okc ?_ (okc ?_ (okc ?_ (okc ?_ (okc ?_ (okc ?_ (okc gg0 (okc ?_ (okc ?_ (okc ?_ (okc ?_ (okc ?_ (okc ?_ (okc ?_ (okc ?_ okn)))))))))))))))))))))
      all_goals ((try simp (disch := omega) only [SS, nmK, hbl, hF2, hcF, z0, hlf, beq_self_eq_true, g0, g1, hw0, hp, ht, List.length_drop]); first | done | omega | assumption | (simp (disch := omega) only [SS, nmK, hbl, hF2, hcF, z0, hlf, beq_self_eq_true, g0, g1, hw0, hp, ht, List.length_drop] at *; first | done | omega | assumption) | (simp_all; done))
    case rr =>
      try simp (disch := omega) only [SS, nmK, hbl, hF2, hcF, z0, hlf, beq_self_eq_true, g0, g1, hw0, hp, ht, List.length_drop]
      repeat' apply And.intro
      all_goals first | exact True.intro | with_reducible rfl | omega | (intros; first | exact True.intro | with_reducible rfl | omega | (simp_all; done)) | (simp_all; done) | rfl
  · refine runs_last baseM1 (Sx.Ends.of (mbOkA_p1 t0 t1 t2 t3 t4 t5 t6 t7 t8 t9 t10 t11 t12 t13 t14 t15 N B F v) ⟨?oo, ?rr⟩) (by kernel_rfl) rfl (gtL (by decide)) (by decide)
    case oo =>
      refine (okc ?_ (okc ?_ (okc ?_ (okc ?_ (okc ?_ (okc ?_ (okc ?_ (okc ?_ (okc ?_ (okc ?_ (okc ?_ (okc ?_ (okc gg0 (okc ?_ (okc ?_ (okc ?_ (okc ?_ (okc ?_ (okc ?_ (okc ?_ (okc ?_ (okc ?_ (okc ?_ okn)))))))))))))))))))))))
      all_goals ((try simp (disch := omega) only [SS, nmK, hbl, hF2, hcF, z0, hlf, beq_self_eq_true, g0, g1, hw0, hp, ht, List.length_drop]); first | done | omega | assumption | (simp (disch := omega) only [SS, nmK, hbl, hF2, hcF, z0, hlf, beq_self_eq_true, g0, g1, hw0, hp, ht, List.length_drop] at *; first | done | omega | assumption) | (simp_all; done))
    case rr =>
      try simp (disch := omega) only [SS, nmK, hbl, hF2, hcF, z0, hlf, beq_self_eq_true, g0, g1, hw0, hp, ht, List.length_drop]
      repeat' apply And.intro
      all_goals first | exact True.intro | with_reducible rfl | omega | (intros; first | exact True.intro | with_reducible rfl | omega | (simp_all; done)) | (simp_all; done) | rfl

theorem mbOkB_p0 (t0 t1 t2 t3 t4 t5 t6 t7 t8 t9 t10 t11 t12 t13 t14 t15 : List UInt8) (N : Nat) (B F : Ix → Int) (v : Int) :
    isEnd (evTill Tryd.prog sumsM1 300 (99) 900 8 [.code (bodyOf Tryd.f8)] (envOf [vL 100 1 N, vN v, .agg (arrT F)] Tryd.f8.ntmps) (allG t0 t1 t2 t3 t4 t5 t6 t7 t8 t9 t10 t11 t12 t13 t14 t15 ++ bE 100 N B ++ ([])) ⟨[.t, .f, .s false, .s true, .s true, .s true, .s false, .s true, .s false, .s true, .s false, .s true, .s false, .s false, .s false, .s true, .s true, .s true, .s false, .f, .f, .t, .t, .t, .t, .t, .s true, .s false, .f, .s true, .s true, .s false, .s true, .t], 110⟩) (endP ([]) (YES) ([]) 900) =
    (OkL [(decide ((↑N : Int) > (100 : Int)), false), (N.beq N, true), (decide (((2 : Nat) ≤ N ∧ N ≤ (34 : Nat)) ∧ ((251 : Int) ≤ B [(0 : Nat)] ∧ B [(0 : Nat)] ≤ (254 : Int)) ∧ B [(1 : Nat)] = (2 : Int) ∧ (N = (2 : Nat) ∨ B [(0 : Nat)] = (253 : Int))), true), (((0 : Nat) + N).ble N, true), (decide ((↑(bytesOf B [] (0 : Nat) N).length : Int) < (2 : Int)), false), (decide ((0 : Int) ≤ (0 : Int) ∧ (0 : Int) < (↑(bytesOf B [] (0 : Nat) N).length : Int)), true), (decide ((↑((bytesOf B [] (0 : Nat) N).getD (0 : Nat) (0 : UInt8)).toNat : Int) < (251 : Int)), false), (decide ((0 : Int) ≤ (0 : Int) ∧ (0 : Int) < (↑(bytesOf B [] (0 : Nat) N).length : Int)), true), (decide ((↑((bytesOf B [] (0 : Nat) N).getD (0 : Nat) (0 : UInt8)).toNat : Int) > (254 : Int)), false), (decide ((0 : Int) ≤ (1 : Int) ∧ (1 : Int) < (↑(bytesOf B [] (0 : Nat) N).length : Int)), true), ((↑((bytesOf B [] (0 : Nat) N).getD (1 : Nat) (0 : UInt8)).toNat : Int) != (2 : Int), false), (decide ((↑(bytesOf B [] (0 : Nat) N).length : Int) > (34 : Int)), false), (decide ((↑(bytesOf B [] (0 : Nat) N).length : Int) > (2 : Int)), false), (decide ((0 : Int) ≤ (0 : Int) ∧ (0 : Int) < (↑(bytesOf B [] (0 : Nat) N).length : Int)), true), (decide ((0 : Int) ≤ (2 : Int) ∧ (2 : Int) ≤ (↑(bytesOf B [] (0 : Nat) N).length : Int)), true), (decide ((List.drop (2 : Nat) (List.take (bytesOf B [] (0 : Nat) N).length (bytesOf B [] (0 : Nat) N))).length ≤ (1000000 : Nat)), true), (B [(0 : Nat)] != IntKind.i64.wrap (↑((bytesOf B [] (0 : Nat) N).getD (0 : Nat) (0 : UInt8)).toNat : Int), false), (((0 : Nat) + cutN (fun js => parF N B js) (↑(0 : Nat) : Int) (32 : Nat)).ble (32 : Nat), true), (!bytesOf (fun js => parF N B js) [] (0 : Nat) (cutN (fun js => parF N B js) (↑(0 : Nat) : Int) (32 : Nat)) == cutL (List.drop (2 : Nat) (List.take (bytesOf B [] (0 : Nat) N).length (bytesOf B [] (0 : Nat) N))), false), (decide (v ≥ (251 : Int)), true), (!decide (v ≤ (254 : Int)), true), (decide (v < (251 : Int)), false), (decide (v > (254 : Int)), true)] ∧ true = true ∧ True) := by kernel_rfl
theorem mbOkB_p1 (t0 t1 t2 t3 t4 t5 t6 t7 t8 t9 t10 t11 t12 t13 t14 t15 : List UInt8) (N : Nat) (B F : Ix → Int) (v : Int) :
    isEnd (evTill Tryd.prog sumsM1 300 (99) 900 8 [.code (bodyOf Tryd.f8)] (envOf [vL 100 1 N, vN v, .agg (arrT F)] Tryd.f8.ntmps) (allG t0 t1 t2 t3 t4 t5 t6 t7 t8 t9 t10 t11 t12 t13 t14 t15 ++ bE 100 N B ++ ([])) ⟨[.t, .f, .s false, .s true, .s true, .s true, .s false, .s true, .s false, .s true, .s false, .s true, .s false, .s false, .s true, .s true, .s false, .s true, .s true, .s true, .s false, .f, .f, .t, .t, .t, .t, .t, .s true, .s false, .f, .s true, .s true, .s false, .s true, .t], 110⟩) (endP ([]) (YES) ([]) 900) =
    (OkL [(decide ((↑N : Int) > (100 : Int)), false), (N.beq N, true), (decide (((2 : Nat) ≤ N ∧ N ≤ (34 : Nat)) ∧ ((251 : Int) ≤ B [(0 : Nat)] ∧ B [(0 : Nat)] ≤ (254 : Int)) ∧ B [(1 : Nat)] = (2 : Int) ∧ (N = (2 : Nat) ∨ B [(0 : Nat)] = (253 : Int))), true), (((0 : Nat) + N).ble N, true), (decide ((↑(bytesOf B [] (0 : Nat) N).length : Int) < (2 : Int)), false), (decide ((0 : Int) ≤ (0 : Int) ∧ (0 : Int) < (↑(bytesOf B [] (0 : Nat) N).length : Int)), true), (decide ((↑((bytesOf B [] (0 : Nat) N).getD (0 : Nat) (0 : UInt8)).toNat : Int) < (251 : Int)), false), (decide ((0 : Int) ≤ (0 : Int) ∧ (0 : Int) < (↑(bytesOf B [] (0 : Nat) N).length : Int)), true), (decide ((↑((bytesOf B [] (0 : Nat) N).getD (0 : Nat) (0 : UInt8)).toNat : Int) > (254 : Int)), false), (decide ((0 : Int) ≤ (1 : Int) ∧ (1 : Int) < (↑(bytesOf B [] (0 : Nat) N).length : Int)), true), ((↑((bytesOf B [] (0 : Nat) N).getD (1 : Nat) (0 : UInt8)).toNat : Int) != (2 : Int), false), (decide ((↑(bytesOf B [] (0 : Nat) N).length : Int) > (34 : Int)), false), (decide ((↑(bytesOf B [] (0 : Nat) N).length : Int) > (2 : Int)), true), (decide ((0 : Int) ≤ (0 : Int) ∧ (0 : Int) < (↑(bytesOf B [] (0 : Nat) N).length : Int)), true), ((↑((bytesOf B [] (0 : Nat) N).getD (0 : Nat) (0 : UInt8)).toNat : Int) != (253 : Int), false), (decide ((0 : Int) ≤ (0 : Int) ∧ (0 : Int) < (↑(bytesOf B [] (0 : Nat) N).length : Int)), true), (decide ((0 : Int) ≤ (2 : Int) ∧ (2 : Int) ≤ (↑(bytesOf B [] (0 : Nat) N).length : Int)), true), (decide ((List.drop (2 : Nat) (List.take (bytesOf B [] (0 : Nat) N).length (bytesOf B [] (0 : Nat) N))).length ≤ (1000000 : Nat)), true), (B [(0 : Nat)] != IntKind.i64.wrap (↑((bytesOf B [] (0 : Nat) N).getD (0 : Nat) (0 : UInt8)).toNat : Int), false), (((0 : Nat) + cutN (fun js => parF N B js) (↑(0 : Nat) : Int) (32 : Nat)).ble (32 : Nat), true), (!bytesOf (fun js => parF N B js) [] (0 : Nat) (cutN (fun js => parF N B js) (↑(0 : Nat) : Int) (32 : Nat)) == cutL (List.drop (2 : Nat) (List.take (bytesOf B [] (0 : Nat) N).length (bytesOf B [] (0 : Nat) N))), false), (decide (v ≥ (251 : Int)), true), (!decide (v ≤ (254 : Int)), true), (decide (v < (251 : Int)), false), (decide (v > (254 : Int)), true)] ∧ true = true ∧ True) := by kernel_rfl

set_option maxHeartbeats 4000000 in
theorem mbOkB (t0 t1 t2 t3 t4 t5 t6 t7 t8 t9 t10 t11 t12 t13 t14 t15 : List UInt8) (N : Nat) (B F : Ix → Int) (v : Int) (hB : ∀ i, i < N → 0 ≤ B [i] ∧ B [i] < 256) (hF : ∀ i, i < 32 → 0 ≤ F [i] ∧ F [i] < 256) (hv : -9223372036854775808 ≤ v ∧ v < 9223372036854775808) (hN : 2 ≤ N ∧ N ≤ 34) (hk : 251 ≤ B [0] ∧ B [0] ≤ 254) (hk1 : B [1] = 2) (hk2 : N = 2 ∨ B [0] = 253) (hv0 : 254 < v) :
    RunsTo Tryd.prog 8 [.code (bodyOf Tryd.f8)] (envOf [vL 100 1 N, vN v, .agg (arrT F)] Tryd.f8.ntmps) (Sx.look (allG t0 t1 t2 t3 t4 t5 t6 t7 t8 t9 t10 t11 t12 t13 t14 t15 ++ bE 100 N B ++ ([]))) 110 (YES) (Sx.look ([])) 900 := by
  have hbl := bytesOf_len B [] 0 N
  have hF2 := bndB_of hF
  have hcF := cut_bytes F 32 hF
  have hcu : cutN F 0 32 ≤ 32 := cutN_le _ _ _
  have z0 : ((0 : Nat) : Int) = 0 := rfl
  have hlf := bytesOf_len F [] 0 32
  have hcl : (cutL (bytesOf F [] 0 32)).length ≤ 32 := by rw [← hcF, bytesOf_len]; exact hcu
  have e53 : bytesOf (upd (upd (fun is => 0) [0] (IntKind.u8.wrap 253)) [1] 2) [] 0 2 = [253, 2] := rfl
  have hl2 : ([253, 2] : List UInt8).length = 2 := rfl
  have h0 := hB 0 (by omega)
  have h1 := hB 1 (by omega)
  have g0 : ((((bytesOf B [] 0 N).getD 0 0).toNat : Nat) : Int) = B [0] := bytesOf_nat (is := []) (st := 0) (by omega) h0
  have g1 : ((((bytesOf B [] 0 N).getD 1 0).toNat : Nat) : Int) = B [1] := bytesOf_nat (is := []) (st := 0) (by omega) h1
  have hw0 : IntKind.i64.wrap (B [0]) = B [0] := wr64 (by omega)
  have hp := par_cut hN hB
  have ht : List.take N (bytesOf B [] 0 N) = bytesOf B [] 0 N := List.take_of_length_le (by omega)
  have hcp : cutN (parF N B) 0 32 ≤ 32 := cutN_le _ _ _
  refine bcase (c := (decide ((↑(bytesOf B [] (0 : Nat) N).length : Int) > (2 : Int)))) (fun gg0 => ?_) (fun gg0 => ?_)
  · refine runs_last baseM1 (Sx.Ends.of (mbOkB_p0 t0 t1 t2 t3 t4 t5 t6 t7 t8 t9 t10 t11 t12 t13 t14 t15 N B F v) ⟨?oo, ?rr⟩) (by kernel_rfl) rfl (gtL (by decide)) (by decide)
    case oo =>
      refine (okc ?_ (okc ?_ (okc ?_ (okc ?_ (okc ?_ (okc ?_ (okc ?_ (okc ?_ (okc ?_ (okc ?_ (okc ?_ (okc ?_ (okc gg0 (okc ?_ (okc ?_ (okc ?_ (okc ?_ (okc ?_ (okc ?_ (okc ?_ (okc ?_ (okc ?_ (okc ?_ okn)))))))))))))))))))))))
      all_goals ((try simp (disch := omega) only [SS, nmK, hbl, hF2, hcF, z0, hlf, beq_self_eq_true, g0, g1, hw0, hp, ht, List.length_drop]); first | done | omega | assumption | (simp (disch := omega) only [SS, nmK, hbl, hF2, hcF, z0, hlf, beq_self_eq_true, g0, g1, hw0, hp, ht, List.length_drop] at *; first | done | omega | assumption) | (simp_all; done))
    case rr =>
      try simp (disch := omega) only [SS, nmK, hbl, hF2, hcF, z0, hlf, beq_self_eq_true, g0, g1, hw0, hp, ht, List.length_drop]
      repeat' apply And.intro
      all_goals first | exact True.intro | with_reducible rfl | omega | (intros; first | exact True.intro | with_reducible rfl | omega | (simp_all; done)) | (simp_all; done) | rfl
  · refine runs_last baseM1 (Sx.Ends.of (mbOkB_p1 t0 t1 t2 t3 t4 t5 t6 t7 t8 t9 t10 t11 t12 t13 t14 t15 N B F v) ⟨?oo, ?rr⟩) (by kernel_rfl) rfl (gtL (by decide)) (by decide)
    case oo =>
      refine (okc ?_ (okc ?_ (okc ?_ (okc ?_ (okc ?_ (okc ?_ (okc ?_ (okc ?_ (okc ?_ (okc ?_ (okc ?_ (okc ?_ (okc gg0 (okc ?_ (okc ?_ (okc ?_ (okc ?_ (okc ?_ (okc ?_ (okc ?_ (okc ?_ (okc ?_ (okc ?_ (okc ?_ (okc ?_ okn)))))))))))))))))))))))))
      all_goals ((try simp (disch := omega) only [SS, nmK, hbl, hF2, hcF, z0, hlf, beq_self_eq_true, g0, g1, hw0, hp, ht, List.length_drop]); first | done | omega | assumption | (simp (disch := omega) only [SS, nmK, hbl, hF2, hcF, z0, hlf, beq_self_eq_true, g0, g1, hw0, hp, ht, List.length_drop] at *; first | done | omega | assumption) | (simp_all; done))
    case rr =>
      try simp (disch := omega) only [SS, nmK, hbl, hF2, hcF, z0, hlf, beq_self_eq_true, g0, g1, hw0, hp, ht, List.length_drop]
      repeat' apply And.intro
      all_goals first | exact True.intro | with_reducible rfl | omega | (intros; first | exact True.intro | with_reducible rfl | omega | (simp_all; done)) | (simp_all; done) | rfl

theorem mbOkC_p0 (t0 t1 t2 t3 t4 t5 t6 t7 t8 t9 t10 t11 t12 t13 t14 t15 : List UInt8) (N : Nat) (B F : Ix → Int) (v : Int) :
    isEnd (evTill Tryd.prog sumsN1 300 (99) 900 8 [.code (bodyOf Tryd.f8)] (envOf [vL 100 1 N, vN v, .agg (arrT F)] Tryd.f8.ntmps) (allG t0 t1 t2 t3 t4 t5 t6 t7 t8 t9 t10 t11 t12 t13 t14 t15 ++ bE 100 N B ++ ([])) ⟨[.t, .f, .s false, .s true, .s true, .s true, .s false, .s true, .s false, .s true, .s false, .s true, .s false, .s false, .s false, .s true, .s true, .s true, .s false, .f, .f, .t, .t, .t, .t, .t, .s true, .s false, .f, .s true, .s false, .s false, .t, .s true, .t, .t, .s true, .t, .s true], 110⟩) (endP ([]) (YES) ([]) 900) =
    (OkL [(decide ((↑N : Int) > (100 : Int)), false), (N.beq N, true), (decide (((2 : Nat) ≤ N ∧ N ≤ (34 : Nat)) ∧ ((251 : Int) ≤ B [(0 : Nat)] ∧ B [(0 : Nat)] ≤ (254 : Int)) ∧ B [(1 : Nat)] = (2 : Int) ∧ (N = (2 : Nat) ∨ B [(0 : Nat)] = (253 : Int))), true), (((0 : Nat) + N).ble N, true), (decide ((↑(bytesOf B [] (0 : Nat) N).length : Int) < (2 : Int)), false), (decide ((0 : Int) ≤ (0 : Int) ∧ (0 : Int) < (↑(bytesOf B [] (0 : Nat) N).length : Int)), true), (decide ((↑((bytesOf B [] (0 : Nat) N).getD (0 : Nat) (0 : UInt8)).toNat : Int) < (251 : Int)), false), (decide ((0 : Int) ≤ (0 : Int) ∧ (0 : Int) < (↑(bytesOf B [] (0 : Nat) N).length : Int)), true), (decide ((↑((bytesOf B [] (0 : Nat) N).getD (0 : Nat) (0 : UInt8)).toNat : Int) > (254 : Int)), false), (decide ((0 : Int) ≤ (1 : Int) ∧ (1 : Int) < (↑(bytesOf B [] (0 : Nat) N).length : Int)), true), ((↑((bytesOf B [] (0 : Nat) N).getD (1 : Nat) (0 : UInt8)).toNat : Int) != (2 : Int), false), (decide ((↑(bytesOf B [] (0 : Nat) N).length : Int) > (34 : Int)), false), (decide ((↑(bytesOf B [] (0 : Nat) N).length : Int) > (2 : Int)), false), (decide ((0 : Int) ≤ (0 : Int) ∧ (0 : Int) < (↑(bytesOf B [] (0 : Nat) N).length : Int)), true), (decide ((0 : Int) ≤ (2 : Int) ∧ (2 : Int) ≤ (↑(bytesOf B [] (0 : Nat) N).length : Int)), true), (decide ((List.drop (2 : Nat) (List.take (bytesOf B [] (0 : Nat) N).length (bytesOf B [] (0 : Nat) N))).length ≤ (1000000 : Nat)), true), (B [(0 : Nat)] != IntKind.i64.wrap (↑((bytesOf B [] (0 : Nat) N).getD (0 : Nat) (0 : UInt8)).toNat : Int), false), (((0 : Nat) + cutN (fun js => parF N B js) (↑(0 : Nat) : Int) (32 : Nat)).ble (32 : Nat), true), (!bytesOf (fun js => parF N B js) [] (0 : Nat) (cutN (fun js => parF N B js) (↑(0 : Nat) : Int) (32 : Nat)) == cutL (List.drop (2 : Nat) (List.take (bytesOf B [] (0 : Nat) N).length (bytesOf B [] (0 : Nat) N))), false), (decide (v = (253 : Int)) && bndB (fun js => F js) (32 : Nat), true), (decide (v < (251 : Int)), false), (decide (v > (254 : Int)), false), (v == (253 : Int), true), (decide ((bytesOf (upd (upd (fun is => (0 : Int)) [(0 : Nat)] (IntKind.u8.wrap v)) [(1 : Nat)] (2 : Int)) [] (0 : Nat) (2 : Nat)).length + (cutL (bytesOf F [] (0 : Nat) (32 : Nat))).length ≤ (9223372036854775807 : Nat)), true), (((0 : Nat) + ([(253 : UInt8), (2 : UInt8)] ++ bytesOf (fun js => F js) [] (0 : Nat) (cutN (fun js => F js) (0 : Int) (32 : Nat))).length).ble ([(253 : UInt8), (2 : UInt8)] ++ bytesOf (fun js => F js) [] (0 : Nat) (cutN (fun js => F js) (0 : Int) (32 : Nat))).length, true)] ∧ true = (bytesOf (fun is => (↑(([(253 : UInt8), (2 : UInt8)] ++ bytesOf (fun js => F js) [] (0 : Nat) (cutN (fun js => F js) (0 : Int) (32 : Nat))).getD (List.headD is (0 : Nat)) (0 : UInt8)).toNat : Int)) [] (0 : Nat) ([(253 : UInt8), (2 : UInt8)] ++ bytesOf (fun js => F js) [] (0 : Nat) (cutN (fun js => F js) (0 : Int) (32 : Nat))).length == bytesOf (upd (upd (fun is => (0 : Int)) [(0 : Nat)] (IntKind.u8.wrap v)) [(1 : Nat)] (2 : Int)) [] (0 : Nat) (2 : Nat) ++ cutL (bytesOf F [] (0 : Nat) (32 : Nat))) ∧ True) := by kernel_rfl
theorem mbOkC_p1 (t0 t1 t2 t3 t4 t5 t6 t7 t8 t9 t10 t11 t12 t13 t14 t15 : List UInt8) (N : Nat) (B F : Ix → Int) (v : Int) :
    isEnd (evTill Tryd.prog sumsN1 300 (99) 900 8 [.code (bodyOf Tryd.f8)] (envOf [vL 100 1 N, vN v, .agg (arrT F)] Tryd.f8.ntmps) (allG t0 t1 t2 t3 t4 t5 t6 t7 t8 t9 t10 t11 t12 t13 t14 t15 ++ bE 100 N B ++ ([])) ⟨[.t, .f, .s false, .s true, .s true, .s true, .s false, .s true, .s false, .s true, .s false, .s true, .s false, .s false, .s true, .s true, .s false, .s true, .s true, .s true, .s false, .f, .f, .t, .t, .t, .t, .t, .s true, .s false, .f, .s true, .s false, .s false, .t, .s true, .t, .t, .s true, .t, .s true], 110⟩) (endP ([]) (YES) ([]) 900) =
    (OkL [(decide ((↑N : Int) > (100 : Int)), false), (N.beq N, true), (decide (((2 : Nat) ≤ N ∧ N ≤ (34 : Nat)) ∧ ((251 : Int) ≤ B [(0 : Nat)] ∧ B [(0 : Nat)] ≤ (254 : Int)) ∧ B [(1 : Nat)] = (2 : Int) ∧ (N = (2 : Nat) ∨ B [(0 : Nat)] = (253 : Int))), true), (((0 : Nat) + N).ble N, true), (decide ((↑(bytesOf B [] (0 : Nat) N).length : Int) < (2 : Int)), false), (decide ((0 : Int) ≤ (0 : Int) ∧ (0 : Int) < (↑(bytesOf B [] (0 : Nat) N).length : Int)), true), (decide ((↑((bytesOf B [] (0 : Nat) N).getD (0 : Nat) (0 : UInt8)).toNat : Int) < (251 : Int)), false), (decide ((0 : Int) ≤ (0 : Int) ∧ (0 : Int) < (↑(bytesOf B [] (0 : Nat) N).length : Int)), true), (decide ((↑((bytesOf B [] (0 : Nat) N).getD (0 : Nat) (0 : UInt8)).toNat : Int) > (254 : Int)), false), (decide ((0 : Int) ≤ (1 : Int) ∧ (1 : Int) < (↑(bytesOf B [] (0 : Nat) N).length : Int)), true), ((↑((bytesOf B [] (0 : Nat) N).getD (1 : Nat) (0 : UInt8)).toNat : Int) != (2 : Int), false), (decide ((↑(bytesOf B [] (0 : Nat) N).length : Int) > (34 : Int)), false), (decide ((↑(bytesOf B [] (0 : Nat) N).length : Int) > (2 : Int)), true), (decide ((0 : Int) ≤ (0 : Int) ∧ (0 : Int) < (↑(bytesOf B [] (0 : Nat) N).length : Int)), true), ((↑((bytesOf B [] (0 : Nat) N).getD (0 : Nat) (0 : UInt8)).toNat : Int) != (253 : Int), false), (decide ((0 : Int) ≤ (0 : Int) ∧ (0 : Int) < (↑(bytesOf B [] (0 : Nat) N).length : Int)), true), (decide ((0 : Int) ≤ (2 : Int) ∧ (2 : Int) ≤ (↑(bytesOf B [] (0 : Nat) N).length : Int)), true), (decide ((List.drop (2 : Nat) (List.take (bytesOf B [] (0 : Nat) N).length (bytesOf B [] (0 : Nat) N))).length ≤ (1000000 : Nat)), true), (B [(0 : Nat)] != IntKind.i64.wrap (↑((bytesOf B [] (0 : Nat) N).getD (0 : Nat) (0 : UInt8)).toNat : Int), false), (((0 : Nat) + cutN (fun js => parF N B js) (↑(0 : Nat) : Int) (32 : Nat)).ble (32 : Nat), true), (!bytesOf (fun js => parF N B js) [] (0 : Nat) (cutN (fun js => parF N B js) (↑(0 : Nat) : Int) (32 : Nat)) == cutL (List.drop (2 : Nat) (List.take (bytesOf B [] (0 : Nat) N).length (bytesOf B [] (0 : Nat) N))), false), (decide (v = (253 : Int)) && bndB (fun js => F js) (32 : Nat), true), (decide (v < (251 : Int)), false), (decide (v > (254 : Int)), false), (v == (253 : Int), true), (decide ((bytesOf (upd (upd (fun is => (0 : Int)) [(0 : Nat)] (IntKind.u8.wrap v)) [(1 : Nat)] (2 : Int)) [] (0 : Nat) (2 : Nat)).length + (cutL (bytesOf F [] (0 : Nat) (32 : Nat))).length ≤ (9223372036854775807 : Nat)), true), (((0 : Nat) + ([(253 : UInt8), (2 : UInt8)] ++ bytesOf (fun js => F js) [] (0 : Nat) (cutN (fun js => F js) (0 : Int) (32 : Nat))).length).ble ([(253 : UInt8), (2 : UInt8)] ++ bytesOf (fun js => F js) [] (0 : Nat) (cutN (fun js => F js) (0 : Int) (32 : Nat))).length, true)] ∧ true = (bytesOf (fun is => (↑(([(253 : UInt8), (2 : UInt8)] ++ bytesOf (fun js => F js) [] (0 : Nat) (cutN (fun js => F js) (0 : Int) (32 : Nat))).getD (List.headD is (0 : Nat)) (0 : UInt8)).toNat : Int)) [] (0 : Nat) ([(253 : UInt8), (2 : UInt8)] ++ bytesOf (fun js => F js) [] (0 : Nat) (cutN (fun js => F js) (0 : Int) (32 : Nat))).length == bytesOf (upd (upd (fun is => (0 : Int)) [(0 : Nat)] (IntKind.u8.wrap v)) [(1 : Nat)] (2 : Int)) [] (0 : Nat) (2 : Nat) ++ cutL (bytesOf F [] (0 : Nat) (32 : Nat))) ∧ True) := by kernel_rfl

set_option maxHeartbeats 4000000 in
theorem mbOkC (t0 t1 t2 t3 t4 t5 t6 t7 t8 t9 t10 t11 t12 t13 t14 t15 : List UInt8) (N : Nat) (B F : Ix → Int) (v : Int) (hB : ∀ i, i < N → 0 ≤ B [i] ∧ B [i] < 256) (hF : ∀ i, i < 32 → 0 ≤ F [i] ∧ F [i] < 256) (hv : -9223372036854775808 ≤ v ∧ v < 9223372036854775808) (hN : 2 ≤ N ∧ N ≤ 34) (hk : 251 ≤ B [0] ∧ B [0] ≤ 254) (hk1 : B [1] = 2) (hk2 : N = 2 ∨ B [0] = 253) (hv0 : v = 253) :
    RunsTo Tryd.prog 8 [.code (bodyOf Tryd.f8)] (envOf [vL 100 1 N, vN v, .agg (arrT F)] Tryd.f8.ntmps) (Sx.look (allG t0 t1 t2 t3 t4 t5 t6 t7 t8 t9 t10 t11 t12 t13 t14 t15 ++ bE 100 N B ++ ([]))) 110 (YES) (Sx.look ([])) 900 := by
  have hbl := bytesOf_len B [] 0 N
  have hF2 := bndB_of hF
  have hcF := cut_bytes F 32 hF
  have hcu : cutN F 0 32 ≤ 32 := cutN_le _ _ _
  have z0 : ((0 : Nat) : Int) = 0 := rfl
  have hlf := bytesOf_len F [] 0 32
  have hcl : (cutL (bytesOf F [] 0 32)).length ≤ 32 := by rw [← hcF, bytesOf_len]; exact hcu
  have e53 : bytesOf (upd (upd (fun is => 0) [0] (IntKind.u8.wrap 253)) [1] 2) [] 0 2 = [253, 2] := rfl
  have hl2 : ([253, 2] : List UInt8).length = 2 := rfl
  have h0 := hB 0 (by omega)
  have h1 := hB 1 (by omega)
  have g0 : ((((bytesOf B [] 0 N).getD 0 0).toNat : Nat) : Int) = B [0] := bytesOf_nat (is := []) (st := 0) (by omega) h0
  have g1 : ((((bytesOf B [] 0 N).getD 1 0).toNat : Nat) : Int) = B [1] := bytesOf_nat (is := []) (st := 0) (by omega) h1
  have hw0 : IntKind.i64.wrap (B [0]) = B [0] := wr64 (by omega)
  have hp := par_cut hN hB
  have ht : List.take N (bytesOf B [] 0 N) = bytesOf B [] 0 N := List.take_of_length_le (by omega)
  have hcp : cutN (parF N B) 0 32 ≤ 32 := cutN_le _ _ _
  refine bcase (c := (decide ((↑(bytesOf B [] (0 : Nat) N).length : Int) > (2 : Int)))) (fun gg0 => ?_) (fun gg0 => ?_)
  · refine runs_last baseN1 (Sx.Ends.of (mbOkC_p0 t0 t1 t2 t3 t4 t5 t6 t7 t8 t9 t10 t11 t12 t13 t14 t15 N B F v) ⟨?oo, ?rr⟩) (by kernel_rfl) rfl (gtL (by decide)) (by decide)
    case oo =>
      refine (okc ?_ (okc ?_ (okc ?_ (okc ?_ (okc ?_ (okc ?_ (okc ?_ (okc ?_ (okc ?_ (okc ?_ (okc ?_ (okc ?_ (okc gg0 (okc ?_ (okc ?_ (okc ?_ (okc ?_ (okc ?_ (okc ?_ (okc ?_ (okc ?_ (okc ?_ (okc ?_ (okc ?_ (okc ?_ okn)))))))))))))))))))))))))
      all_goals ((try simp (disch := omega) only [SS, nmK, hbl, hF2, hcF, z0, hlf, beq_self_eq_true, g0, g1, hw0, hp, ht, List.length_drop, hv0, e53, hl2, bytesOf_full]); first | done | omega | assumption | (simp (disch := omega) only [SS, nmK, hbl, hF2, hcF, z0, hlf, beq_self_eq_true, g0, g1, hw0, hp, ht, List.length_drop, hv0, e53, hl2, bytesOf_full] at *; first | done | omega | assumption) | (simp_all; done))
    case rr =>
      try simp (disch := omega) only [SS, nmK, hbl, hF2, hcF, z0, hlf, beq_self_eq_true, g0, g1, hw0, hp, ht, List.length_drop, hv0, e53, hl2, bytesOf_full]
      repeat' apply And.intro
      all_goals first | exact True.intro | with_reducible rfl | omega | (intros; first | exact True.intro | with_reducible rfl | omega | (simp_all; done)) | (simp_all; done) | rfl
  · refine runs_last baseN1 (Sx.Ends.of (mbOkC_p1 t0 t1 t2 t3 t4 t5 t6 t7 t8 t9 t10 t11 t12 t13 t14 t15 N B F v) ⟨?oo, ?rr⟩) (by kernel_rfl) rfl (gtL (by decide)) (by decide)
    case oo =>
      refine (okc ?_ (okc ?_ (okc ?_ (okc ?_ (okc ?_ (okc ?_ (okc ?_ (okc ?_ (okc ?_ (okc ?_ (okc ?_ (okc ?_ (okc gg0 (okc ?_ (okc ?_ (okc ?_ (okc ?_ (okc ?_ (okc ?_ (okc ?_ (okc ?_ (okc ?_ (okc ?_ (okc ?_ (okc ?_ (okc ?_ (okc ?_ okn)))))))))))))))))))))))))))
      all_goals ((try simp (disch := omega) only [SS, nmK, hbl, hF2, hcF, z0, hlf, beq_self_eq_true, g0, g1, hw0, hp, ht, List.length_drop, hv0, e53, hl2, bytesOf_full]); first | done | omega | assumption | (simp (disch := omega) only [SS, nmK, hbl, hF2, hcF, z0, hlf, beq_self_eq_true, g0, g1, hw0, hp, ht, List.length_drop, hv0, e53, hl2, bytesOf_full] at *; first | done | omega | assumption) | (simp_all; done))
    case rr =>
      try simp (disch := omega) only [SS, nmK, hbl, hF2, hcF, z0, hlf, beq_self_eq_true, g0, g1, hw0, hp, ht, List.length_drop, hv0, e53, hl2, bytesOf_full]
      repeat' apply And.intro
      all_goals first | exact True.intro | with_reducible rfl | omega | (intros; first | exact True.intro | with_reducible rfl | omega | (simp_all; done)) | (simp_all; done) | rfl

theorem mbOkD_p0 (t0 t1 t2 t3 t4 t5 t6 t7 t8 t9 t10 t11 t12 t13 t14 t15 : List UInt8) (N : Nat) (B F : Ix → Int) (v : Int) :
    isEnd (evTill Tryd.prog sumsM1 300 (99) 900 8 [.code (bodyOf Tryd.f8)] (envOf [vL 100 1 N, vN v, .agg (arrT F)] Tryd.f8.ntmps) (allG t0 t1 t2 t3 t4 t5 t6 t7 t8 t9 t10 t11 t12 t13 t14 t15 ++ bE 100 N B ++ ([])) ⟨[.t, .f, .s false, .s true, .s true, .s true, .s false, .s true, .s false, .s true, .s false, .s true, .s false, .s false, .s false, .s true, .s true, .s true, .s false, .f, .f, .t, .t, .t, .t, .t, .s true, .s false, .f, .s true, .s false, .s false, .s false, .s false, .t, .s false, .t, .t], 110⟩) (endP ([]) (YES) ([]) 900) =
    (OkL [(decide ((↑N : Int) > (100 : Int)), false), (N.beq N, true), (decide (((2 : Nat) ≤ N ∧ N ≤ (34 : Nat)) ∧ ((251 : Int) ≤ B [(0 : Nat)] ∧ B [(0 : Nat)] ≤ (254 : Int)) ∧ B [(1 : Nat)] = (2 : Int) ∧ (N = (2 : Nat) ∨ B [(0 : Nat)] = (253 : Int))), true), (((0 : Nat) + N).ble N, true), (decide ((↑(bytesOf B [] (0 : Nat) N).length : Int) < (2 : Int)), false), (decide ((0 : Int) ≤ (0 : Int) ∧ (0 : Int) < (↑(bytesOf B [] (0 : Nat) N).length : Int)), true), (decide ((↑((bytesOf B [] (0 : Nat) N).getD (0 : Nat) (0 : UInt8)).toNat : Int) < (251 : Int)), false), (decide ((0 : Int) ≤ (0 : Int) ∧ (0 : Int) < (↑(bytesOf B [] (0 : Nat) N).length : Int)), true), (decide ((↑((bytesOf B [] (0 : Nat) N).getD (0 : Nat) (0 : UInt8)).toNat : Int) > (254 : Int)), false), (decide ((0 : Int) ≤ (1 : Int) ∧ (1 : Int) < (↑(bytesOf B [] (0 : Nat) N).length : Int)), true), ((↑((bytesOf B [] (0 : Nat) N).getD (1 : Nat) (0 : UInt8)).toNat : Int) != (2 : Int), false), (decide ((↑(bytesOf B [] (0 : Nat) N).length : Int) > (34 : Int)), false), (decide ((↑(bytesOf B [] (0 : Nat) N).length : Int) > (2 : Int)), false), (decide ((0 : Int) ≤ (0 : Int) ∧ (0 : Int) < (↑(bytesOf B [] (0 : Nat) N).length : Int)), true), (decide ((0 : Int) ≤ (2 : Int) ∧ (2 : Int) ≤ (↑(bytesOf B [] (0 : Nat) N).length : Int)), true), (decide ((List.drop (2 : Nat) (List.take (bytesOf B [] (0 : Nat) N).length (bytesOf B [] (0 : Nat) N))).length ≤ (1000000 : Nat)), true), (B [(0 : Nat)] != IntKind.i64.wrap (↑((bytesOf B [] (0 : Nat) N).getD (0 : Nat) (0 : UInt8)).toNat : Int), false), (((0 : Nat) + cutN (fun js => parF N B js) (↑(0 : Nat) : Int) (32 : Nat)).ble (32 : Nat), true), (!bytesOf (fun js => parF N B js) [] (0 : Nat) (cutN (fun js => parF N B js) (↑(0 : Nat) : Int) (32 : Nat)) == cutL (List.drop (2 : Nat) (List.take (bytesOf B [] (0 : Nat) N).length (bytesOf B [] (0 : Nat) N))), false), (decide (v ≥ (251 : Int)), true), (!decide (v ≤ (254 : Int)), false), (v == (253 : Int), false), (decide (v < (251 : Int)), false), (decide (v > (254 : Int)), false), (v == (253 : Int), false)] ∧ true = (bytesOf (upd (upd (fun is => (0 : Int)) [(0 : Nat)] (IntKind.u8.wrap v)) [(1 : Nat)] (2 : Int)) [] (0 : Nat) (2 : Nat) == bytesOf (upd (upd (fun is => (0 : Int)) [(0 : Nat)] (IntKind.u8.wrap v)) [(1 : Nat)] (2 : Int)) [] (0 : Nat) (2 : Nat)) ∧ True) := by kernel_rfl
theorem mbOkD_p1 (t0 t1 t2 t3 t4 t5 t6 t7 t8 t9 t10 t11 t12 t13 t14 t15 : List UInt8) (N : Nat) (B F : Ix → Int) (v : Int) :
    isEnd (evTill Tryd.prog sumsM1 300 (99) 900 8 [.code (bodyOf Tryd.f8)] (envOf [vL 100 1 N, vN v, .agg (arrT F)] Tryd.f8.ntmps) (allG t0 t1 t2 t3 t4 t5 t6 t7 t8 t9 t10 t11 t12 t13 t14 t15 ++ bE 100 N B ++ ([])) ⟨[.t, .f, .s false, .s true, .s true, .s true, .s false, .s true, .s false, .s true, .s false, .s true, .s false, .s false, .s true, .s true, .s false, .s true, .s true, .s true, .s false, .f, .f, .t, .t, .t, .t, .t, .s true, .s false, .f, .s true, .s false, .s false, .s false, .s false, .t, .s false, .t, .t], 110⟩) (endP ([]) (YES) ([]) 900) =
    (OkL [(decide ((↑N : Int) > (100 : Int)), false), (N.beq N, true), (decide (((2 : Nat) ≤ N ∧ N ≤ (34 : Nat)) ∧ ((251 : Int) ≤ B [(0 : Nat)] ∧ B [(0 : Nat)] ≤ (254 : Int)) ∧ B [(1 : Nat)] = (2 : Int) ∧ (N = (2 : Nat) ∨ B [(0 : Nat)] = (253 : Int))), true), (((0 : Nat) + N).ble N, true), (decide ((↑(bytesOf B [] (0 : Nat) N).length : Int) < (2 : Int)), false), (decide ((0 : Int) ≤ (0 : Int) ∧ (0 : Int) < (↑(bytesOf B [] (0 : Nat) N).length : Int)), true), (decide ((↑((bytesOf B [] (0 : Nat) N).getD (0 : Nat) (0 : UInt8)).toNat : Int) < (251 : Int)), false), (decide ((0 : Int) ≤ (0 : Int) ∧ (0 : Int) < (↑(bytesOf B [] (0 : Nat) N).length : Int)), true), (decide ((↑((bytesOf B [] (0 : Nat) N).getD (0 : Nat) (0 : UInt8)).toNat : Int) > (254 : Int)), false), (decide ((0 : Int) ≤ (1 : Int) ∧ (1 : Int) < (↑(bytesOf B [] (0 : Nat) N).length : Int)), true), ((↑((bytesOf B [] (0 : Nat) N).getD (1 : Nat) (0 : UInt8)).toNat : Int) != (2 : Int), false), (decide ((↑(bytesOf B [] (0 : Nat) N).length : Int) > (34 : Int)), false), (decide ((↑(bytesOf B [] (0 : Nat) N).length : Int) > (2 : Int)), true), (decide ((0 : Int) ≤ (0 : Int) ∧ (0 : Int) < (↑(bytesOf B [] (0 : Nat) N).length : Int)), true), ((↑((bytesOf B [] (0 : Nat) N).getD (0 : Nat) (0 : UInt8)).toNat : Int) != (253 : Int), false), (decide ((0 : Int) ≤ (0 : Int) ∧ (0 : Int) < (↑(bytesOf B [] (0 : Nat) N).length : Int)), true), (decide ((0 : Int) ≤ (2 : Int) ∧ (2 : Int) ≤ (↑(bytesOf B [] (0 : Nat) N).length : Int)), true), (decide ((List.drop (2 : Nat) (List.take (bytesOf B [] (0 : Nat) N).length (bytesOf B [] (0 : Nat) N))).length ≤ (1000000 : Nat)), true), (B [(0 : Nat)] != IntKind.i64.wrap (↑((bytesOf B [] (0 : Nat) N).getD (0 : Nat) (0 : UInt8)).toNat : Int), false), (((0 : Nat) + cutN (fun js => parF N B js) (↑(0 : Nat) : Int) (32 : Nat)).ble (32 : Nat), true), (!bytesOf (fun js => parF N B js) [] (0 : Nat) (cutN (fun js => parF N B js) (↑(0 : Nat) : Int) (32 : Nat)) == cutL (List.drop (2 : Nat) (List.take (bytesOf B [] (0 : Nat) N).length (bytesOf B [] (0 : Nat) N))), false), (decide (v ≥ (251 : Int)), true), (!decide (v ≤ (254 : Int)), false), (v == (253 : Int), false), (decide (v < (251 : Int)), false), (decide (v > (254 : Int)), false), (v == (253 : Int), false)] ∧ true = (bytesOf (upd (upd (fun is => (0 : Int)) [(0 : Nat)] (IntKind.u8.wrap v)) [(1 : Nat)] (2 : Int)) [] (0 : Nat) (2 : Nat) == bytesOf (upd (upd (fun is => (0 : Int)) [(0 : Nat)] (IntKind.u8.wrap v)) [(1 : Nat)] (2 : Int)) [] (0 : Nat) (2 : Nat)) ∧ True) := by kernel_rfl

set_option maxHeartbeats 4000000 in
theorem mbOkD (t0 t1 t2 t3 t4 t5 t6 t7 t8 t9 t10 t11 t12 t13 t14 t15 : List UInt8) (N : Nat) (B F : Ix → Int) (v : Int) (hB : ∀ i, i < N → 0 ≤ B [i] ∧ B [i] < 256) (hF : ∀ i, i < 32 → 0 ≤ F [i] ∧ F [i] < 256) (hv : -9223372036854775808 ≤ v ∧ v < 9223372036854775808) (hN : 2 ≤ N ∧ N ≤ 34) (hk : 251 ≤ B [0] ∧ B [0] ≤ 254) (hk1 : B [1] = 2) (hk2 : N = 2 ∨ B [0] = 253) (hv0 : 251 ≤ v ∧ v ≤ 254 ∧ v ≠ 253) :
    RunsTo Tryd.prog 8 [.code (bodyOf Tryd.f8)] (envOf [vL 100 1 N, vN v, .agg (arrT F)] Tryd.f8.ntmps) (Sx.look (allG t0 t1 t2 t3 t4 t5 t6 t7 t8 t9 t10 t11 t12 t13 t14 t15 ++ bE 100 N B ++ ([]))) 110 (YES) (Sx.look ([])) 900 := by
  have hbl := bytesOf_len B [] 0 N
  have hF2 := bndB_of hF
  have hcF := cut_bytes F 32 hF
  have hcu : cutN F 0 32 ≤ 32 := cutN_le _ _ _
  have z0 : ((0 : Nat) : Int) = 0 := rfl
  have hlf := bytesOf_len F [] 0 32
  have hcl : (cutL (bytesOf F [] 0 32)).length ≤ 32 := by rw [← hcF, bytesOf_len]; exact hcu
  have e53 : bytesOf (upd (upd (fun is => 0) [0] (IntKind.u8.wrap 253)) [1] 2) [] 0 2 = [253, 2] := rfl
  have hl2 : ([253, 2] : List UInt8).length = 2 := rfl
  have h0 := hB 0 (by omega)
  have h1 := hB 1 (by omega)
  have g0 : ((((bytesOf B [] 0 N).getD 0 0).toNat : Nat) : Int) = B [0] := bytesOf_nat (is := []) (st := 0) (by omega) h0
  have g1 : ((((bytesOf B [] 0 N).getD 1 0).toNat : Nat) : Int) = B [1] := bytesOf_nat (is := []) (st := 0) (by omega) h1
  have hw0 : IntKind.i64.wrap (B [0]) = B [0] := wr64 (by omega)
  have hp := par_cut hN hB
  have ht : List.take N (bytesOf B [] 0 N) = bytesOf B [] 0 N := List.take_of_length_le (by omega)
  have hcp : cutN (parF N B) 0 32 ≤ 32 := cutN_le _ _ _
  have hu : IntKind.u8.wrap v = v := u8id (by omega)
  refine bcase (c := (decide ((↑(bytesOf B [] (0 : Nat) N).length : Int) > (2 : Int)))) (fun gg0 => ?_) (fun gg0 => ?_)
  · refine runs_last baseM1 (Sx.Ends.of (mbOkD_p0 t0 t1 t2 t3 t4 t5 t6 t7 t8 t9 t10 t11 t12 t13 t14 t15 N B F v) ⟨?oo, ?rr⟩) (by kernel_rfl) rfl (gtL (by decide)) (by decide)
    case oo =>
      refine (okc ?_ (okc ?_ (okc ?_ (okc ?_ (okc ?_ (okc ?_ (okc ?_ (okc ?_ (okc ?_ (okc ?_ (okc ?_ (okc ?_ (okc gg0 (okc ?_ (okc ?_ (okc ?_ (okc ?_ (okc ?_ (okc ?_ (okc ?_ (okc ?_ (okc ?_ (okc ?_ (okc ?_ (okc ?_ okn)))))))))))))))))))))))))
      all_goals ((try simp (disch := omega) only [SS, nmK, hbl, hF2, hcF, z0, hlf, beq_self_eq_true, g0, g1, hw0, hp, ht, List.length_drop, hu]); first | done | omega | assumption | (simp (disch := omega) only [SS, nmK, hbl, hF2, hcF, z0, hlf, beq_self_eq_true, g0, g1, hw0, hp, ht, List.length_drop, hu] at *; first | done | omega | assumption) | (simp_all; done))
    case rr =>
      try simp (disch := omega) only [SS, nmK, hbl, hF2, hcF, z0, hlf, beq_self_eq_true, g0, g1, hw0, hp, ht, List.length_drop, hu]
      repeat' apply And.intro
      all_goals first | exact True.intro | with_reducible rfl | omega | (intros; first | exact True.intro | with_reducible rfl | omega | (simp_all; done)) | (simp_all; done) | rfl
  · refine runs_last baseM1 (Sx.Ends.of (mbOkD_p1 t0 t1 t2 t3 t4 t5 t6 t7 t8 t9 t10 t11 t12 t13 t14 t15 N B F v) ⟨?oo, ?rr⟩) (by kernel_rfl) rfl (gtL (by decide)) (by decide)
    case oo =>
      refine (okc ?_ (okc ?_ (okc ?_ (okc ?_ (okc ?_ (okc ?_ (okc ?_ (okc ?_ (okc ?_ (okc ?_ (okc ?_ (okc ?_ (okc gg0 (okc ?_ (okc ?_ (okc ?_ (okc ?_ (okc ?_ (okc ?_ (okc ?_ (okc ?_ (okc ?_ (okc ?_ (okc ?_ (okc ?_ (okc ?_ (okc ?_ okn)))))))))))))))))))))))))))
      all_goals ((try simp (disch := omega) only [SS, nmK, hbl, hF2, hcF, z0, hlf, beq_self_eq_true, g0, g1, hw0, hp, ht, List.length_drop, hu]); first | done | omega | assumption | (simp (disch := omega) only [SS, nmK, hbl, hF2, hcF, z0, hlf, beq_self_eq_true, g0, g1, hw0, hp, ht, List.length_drop, hu] at *; first | done | omega | assumption) | (simp_all; done))
    case rr =>
      try simp (disch := omega) only [SS, nmK, hbl, hF2, hcF, z0, hlf, beq_self_eq_true, g0, g1, hw0, hp, ht, List.length_drop, hu]
      repeat' apply And.intro
      all_goals first | exact True.intro | with_reducible rfl | omega | (intros; first | exact True.intro | with_reducible rfl | omega | (simp_all; done)) | (simp_all; done) | rfl

end Go.Proofs.YtealbjkhjpmilaaDoor
