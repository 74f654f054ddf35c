/- Telling: the law EmitTokens, its steps. -/
import Derived.Test.YtcphocfnhekdaaaDoorUyC
import Derived.Test.YtcphocfnhekdaaaDoorSyY
import Derived.Test.YtcphocfnhekdaaaDoorSyPl
import Derived.Lay
import Derived.Test.YtcphocfnhekdaaaDoorTie
import Derived.Test.YtcphocfnhekdaaaDoorCards
set_option linter.unusedSimpArgs false
set_option linter.unusedVariables false
set_option maxRecDepth 100000
namespace Go.Proofs.YtcphocfnhekdaaaDoor
open Go.Sx

open GramR
def sumsLOk : List (FuncId × Summ) := [(30, tkOkF.summ 38), (31, alOkP.summ 38), (22, a6P.summ 38), (28, rtP.summ 38), (20, numS)]
theorem baseLOk : Base0 Tryd.prog sumsLOk := (((((baseO.cons Tryd.func20 (by kernel_rfl) numS_ok).cons Tryd.func28 (by kernel_rfl) (PC.summ_ok rtP_pc gtopG)).cons Tryd.func22 (by kernel_rfl) (PC.summ_ok a6P_pc gtopG)).cons Tryd.func31 (by kernel_rfl) (PC.summ_ok alOkP_pc gtopG)).cons Tryd.func30 (by kernel_rfl) (PC.summ_ok tkOkF_pc gtopG))
def sumsLKi : List (FuncId × Summ) := [(30, tkKiF.summ 38), (31, alKiP.summ 38), (22, a6P.summ 38), (28, rtP.summ 38), (20, numS)]
theorem baseLKi : Base0 Tryd.prog sumsLKi := (((((baseO.cons Tryd.func20 (by kernel_rfl) numS_ok).cons Tryd.func28 (by kernel_rfl) (PC.summ_ok rtP_pc gtopG)).cons Tryd.func22 (by kernel_rfl) (PC.summ_ok a6P_pc gtopG)).cons Tryd.func31 (by kernel_rfl) (PC.summ_ok alKiP_pc gtopG)).cons Tryd.func30 (by kernel_rfl) (PC.summ_ok tkKiF_pc gtopG))
def sumsLRa : List (FuncId × Summ) := [(30, tkRaF.summ 38), (31, alRaP.summ 38), (22, a6P.summ 38), (28, rtP.summ 38), (20, numS)]
theorem baseLRa : Base0 Tryd.prog sumsLRa := (((((baseO.cons Tryd.func20 (by kernel_rfl) numS_ok).cons Tryd.func28 (by kernel_rfl) (PC.summ_ok rtP_pc gtopG)).cons Tryd.func22 (by kernel_rfl) (PC.summ_ok a6P_pc gtopG)).cons Tryd.func31 (by kernel_rfl) (PC.summ_ok alRaP_pc gtopG)).cons Tryd.func30 (by kernel_rfl) (PC.summ_ok tkRaF_pc gtopG))
def sumsLLo : List (FuncId × Summ) := [(30, tkLoF.summ 38), (31, alLoP.summ 38), (22, a6P.summ 38), (28, rtP.summ 38), (20, numS)]
theorem baseLLo : Base0 Tryd.prog sumsLLo := (((((baseO.cons Tryd.func20 (by kernel_rfl) numS_ok).cons Tryd.func28 (by kernel_rfl) (PC.summ_ok rtP_pc gtopG)).cons Tryd.func22 (by kernel_rfl) (PC.summ_ok a6P_pc gtopG)).cons Tryd.func31 (by kernel_rfl) (PC.summ_ok alLoP_pc gtopG)).cons Tryd.func30 (by kernel_rfl) (PC.summ_ok tkLoF_pc gtopG))
def allS (t0 t1 t2 t3 t4 t5 t6 t7 t8 t9 t10 t11 t12 t13 t14 t15 : List UInt8) : List Ent := sentEnts 19 144 [(2, t0), (5, t1), (4, t2), (3, t3), (0, t4), (6, t5), (7, t6), (8, t7), (1, t8), (9, t9), (10, t10), (11, t11), (12, t12), (13, t13), (14, t14), (15, t15)]
theorem etLong_p0 (t0 t1 t2 t3 t4 t5 t6 t7 t8 t9 t10 t11 t12 t13 t14 t15 : List UInt8) (N : Nat) (K C O : Ix → Int) (bl : Ix → Nat) (CU : Ix → Bool) (B : Ix → Int) :
    isEnd (evTill Tryd.prog sumsLOk 600 (99) 900 7 [.code (bodyOf Tryd.f7)] (envOf [vL 100 5 N] Tryd.f7.ntmps) (allS t0 t1 t2 t3 t4 t5 t6 t7 t8 t9 t10 t11 t12 t13 t14 t15 ++ ([⟨100, false, none, 5, .ta N (.tc (.vi .i64 K) (.tc (.vi .i64 C) (.tc (.vi .i64 O) (.tc (.vl 101 (fun is => is.headD 0) 1 [] bl) (.tc (.vb CU) .t0)))))⟩] ++ [⟨101, false, some (N, fun i => bl [i]), 1, .vi .u8 B⟩]) ++ ([])) ⟨[.t, .f, .s true], 110⟩) (endP ([]) (YES) ([]) 9000) =
    (OkL [(decide ((↑N : Int) > (30 : Int)), true)] ∧ true = true ∧ True) := by kernel_rfl

set_option maxHeartbeats 4000000 in
theorem etLong (t0 t1 t2 t3 t4 t5 t6 t7 t8 t9 t10 t11 t12 t13 t14 t15 : List UInt8) (N : Nat) (K C O : Ix → Int) (bl : Ix → Nat) (CU : Ix → Bool) (B : Ix → Int) (h : 30 < N)  :
    RunsTo Tryd.prog 7 [.code (bodyOf Tryd.f7)] (envOf [vL 100 5 N] Tryd.f7.ntmps) (Sx.look (allS t0 t1 t2 t3 t4 t5 t6 t7 t8 t9 t10 t11 t12 t13 t14 t15 ++ ([⟨100, false, none, 5, .ta N (.tc (.vi .i64 K) (.tc (.vi .i64 C) (.tc (.vi .i64 O) (.tc (.vl 101 (fun is => is.headD 0) 1 [] bl) (.tc (.vb CU) .t0)))))⟩] ++ [⟨101, false, some (N, fun i => bl [i]), 1, .vi .u8 B⟩]) ++ ([]))) 110 (YES) (Sx.look ([])) 9000 := by
  refine runs_last baseLOk (Sx.Ends.of (etLong_p0 t0 t1 t2 t3 t4 t5 t6 t7 t8 t9 t10 t11 t12 t13 t14 t15 N K C O bl CU B) ⟨?oo, ?rr⟩) (by kernel_rfl) rfl (gtL (by decide)) (by decide)
  case oo =>
    refine (okc ?_ okn)
    all_goals ((try simp (disch := omega) only [SS]); first | done | omega | assumption | (simp (disch := omega) only [SS] at *; first | done | omega | assumption) | (simp_all; done))
  case rr =>
    try simp (disch := omega) only [SS]
    repeat' apply And.intro
    all_goals first | exact True.intro | with_reducible rfl | omega | (intros; first | exact True.intro | with_reducible rfl | omega | (simp_all; done)) | (simp_all; done) | rfl

theorem etStart_p0 (t0 t1 t2 t3 t4 t5 t6 t7 t8 t9 t10 t11 t12 t13 t14 t15 : List UInt8) (N : Nat) (K C O : Ix → Int) (bl : Ix → Nat) (CU : Ix → Bool) (B : Ix → Int) :
    isMore (evTill Tryd.prog sumsLOk 600 (behind Tryd.f7 0) 900 7 [.code (bodyOf Tryd.f7)] (envOf [vL 100 5 N] Tryd.f7.ntmps) (allS t0 t1 t2 t3 t4 t5 t6 t7 t8 t9 t10 t11 t12 t13 t14 t15 ++ ([⟨100, false, none, 5, .ta N (.tc (.vi .i64 K) (.tc (.vi .i64 C) (.tc (.vi .i64 O) (.tc (.vl 101 (fun is => is.headD 0) 1 [] bl) (.tc (.vb CU) .t0)))))⟩] ++ [⟨101, false, some (N, fun i => bl [i]), 1, .vi .u8 B⟩]) ++ ([])) ⟨[.t, .f, .s false], 110⟩) (moreP (headOf Tryd.f7 0) ([]) Tryd.f7.ntmps ([(0, vL 100 5 N), (3, vS (([] : List UInt8))), (4, vN (0)), (18, vL 100 5 N), (19, vN N), (20, vN (0 : Nat))]) ([]) 9000) =
    (OkL [(decide ((↑N : Int) > (30 : Int)), false)] ∧ headOf Tryd.f7 (0 : Nat) = headOf Tryd.f7 (0 : Nat) ∧ (((0 : Nat) = (0 : Nat) ∧ N = N) ∧ ([] : List UInt8) = [] ∧ (0 : Int) = (0 : Int) ∧ ((0 : Nat) = (0 : Nat) ∧ N = N) ∧ (↑N : Int) = (↑N : Int) ∧ (↑(0 : Nat) : Int) = (0 : Int)) ∧ True) := by kernel_rfl

set_option maxHeartbeats 4000000 in
theorem etStart (t0 t1 t2 t3 t4 t5 t6 t7 t8 t9 t10 t11 t12 t13 t14 t15 : List UInt8) (N : Nat) (K C O : Ix → Int) (bl : Ix → Nat) (CU : Ix → Bool) (B : Ix → Int) (hN : N ≤ 30)  (next : RunsTo Tryd.prog 7 (headOf Tryd.f7 0) (envAt Tryd.f7.ntmps ([(0, vL 100 5 N), (3, vS (([] : List UInt8))), (4, vN (0)), (18, vL 100 5 N), (19, vN N), (20, vN (0 : Nat))])) (Sx.look (allS t0 t1 t2 t3 t4 t5 t6 t7 t8 t9 t10 t11 t12 t13 t14 t15 ++ ([⟨100, false, none, 5, .ta N (.tc (.vi .i64 K) (.tc (.vi .i64 C) (.tc (.vi .i64 O) (.tc (.vl 101 (fun is => is.headD 0) 1 [] bl) (.tc (.vb CU) .t0)))))⟩] ++ [⟨101, false, some (N, fun i => bl [i]), 1, .vi .u8 B⟩]) ++ ([]))) 110 (YES) (Sx.look []) 9000) :
    RunsTo Tryd.prog 7 [.code (bodyOf Tryd.f7)] (envOf [vL 100 5 N] Tryd.f7.ntmps) (Sx.look (allS t0 t1 t2 t3 t4 t5 t6 t7 t8 t9 t10 t11 t12 t13 t14 t15 ++ ([⟨100, false, none, 5, .ta N (.tc (.vi .i64 K) (.tc (.vi .i64 C) (.tc (.vi .i64 O) (.tc (.vl 101 (fun is => is.headD 0) 1 [] bl) (.tc (.vb CU) .t0)))))⟩] ++ [⟨101, false, some (N, fun i => bl [i]), 1, .vi .u8 B⟩]) ++ ([]))) 110 (YES) (Sx.look []) 9000 := by
  refine runs_more baseLOk (More.of (etStart_p0 t0 t1 t2 t3 t4 t5 t6 t7 t8 t9 t10 t11 t12 t13 t14 t15 N K C O bl CU B) ⟨?oo, rfl, ?rr⟩) (by kernel_rfl) (by kernel_rfl) rfl (gtL (by decide)) (by decide) next
  case oo =>
    clear next
    refine (okc ?_ okn)
    all_goals ((try simp (disch := omega) only [SS]); first | done | omega | assumption | (simp (disch := omega) only [SS] at *; first | done | omega | assumption) | (simp_all; done))
  case rr =>
    clear next
    try simp (disch := omega) only [SS]
    repeat' apply And.intro
    all_goals first | exact True.intro | with_reducible rfl | omega | (intros; first | exact True.intro | with_reducible rfl | omega | (simp_all; done)) | (simp_all; done) | rfl

theorem etBody_p0 (t0 t1 t2 t3 t4 t5 t6 t7 t8 t9 t10 t11 t12 t13 t14 t15 : List UInt8) (N : Nat) (K C O : Ix → Int) (bl : Ix → Nat) (CU : Ix → Bool) (B : Ix → Int) (w : List UInt8) (b0 : Int) (i : Nat) :
    isEnd (evTill Tryd.prog sumsLOk 600 (99) 900 7 (headOf Tryd.f7 0) (envAt Tryd.f7.ntmps ([(0, vL 100 5 N), (3, vS (w)), (4, vN (b0)), (18, vL 100 5 N), (19, vN N), (20, vN (i : Nat))])) (allS t0 t1 t2 t3 t4 t5 t6 t7 t8 t9 t10 t11 t12 t13 t14 t15 ++ ([⟨100, false, none, 5, .ta N (.tc (.vi .i64 K) (.tc (.vi .i64 C) (.tc (.vi .i64 O) (.tc (.vl 101 (fun is => is.headD 0) 1 [] bl) (.tc (.vb CU) .t0)))))⟩] ++ [⟨101, false, some (N, fun i => bl [i]), 1, .vi .u8 B⟩]) ++ ([])) ⟨[.s true, .s true, .s true, .s true, .s true], 140⟩) (endP ([]) (YES) ([]) 9000) =
    (OkL [(decide ((↑i : Int) < (↑N : Int)), true), (decide ((0 : Int) ≤ (↑i : Int) ∧ (↑i : Int) < (↑N : Int)), true), (((0 : Nat) + (↑i : Int).toNat).blt N, true), (((0 : Nat) + (↑i : Int).toNat).blt N, true), (decide ((↑(bl [(0 : Nat) + (↑i : Int).toNat]) : Int) > (400 : Int)), true)] ∧ true = true ∧ True) := by kernel_rfl

set_option maxHeartbeats 4000000 in
theorem etBody (t0 t1 t2 t3 t4 t5 t6 t7 t8 t9 t10 t11 t12 t13 t14 t15 : List UInt8) (N : Nat) (K C O : Ix → Int) (bl : Ix → Nat) (CU : Ix → Bool) (B : Ix → Int) (w : List UInt8) (b0 : Int) (i : Nat) (hi : i < N) (h : 400 < bl [i])  :
    RunsTo Tryd.prog 7 (headOf Tryd.f7 0) (envAt Tryd.f7.ntmps ([(0, vL 100 5 N), (3, vS (w)), (4, vN (b0)), (18, vL 100 5 N), (19, vN N), (20, vN (i : Nat))])) (Sx.look (allS t0 t1 t2 t3 t4 t5 t6 t7 t8 t9 t10 t11 t12 t13 t14 t15 ++ ([⟨100, false, none, 5, .ta N (.tc (.vi .i64 K) (.tc (.vi .i64 C) (.tc (.vi .i64 O) (.tc (.vl 101 (fun is => is.headD 0) 1 [] bl) (.tc (.vb CU) .t0)))))⟩] ++ [⟨101, false, some (N, fun i => bl [i]), 1, .vi .u8 B⟩]) ++ ([]))) 110 (YES) (Sx.look ([])) 9000 := by
  refine runs_last baseLOk (Sx.Ends.of (etBody_p0 t0 t1 t2 t3 t4 t5 t6 t7 t8 t9 t10 t11 t12 t13 t14 t15 N K C O bl CU B w b0 i) ⟨?oo, ?rr⟩) (by kernel_rfl) rfl (gtL (by decide)) (by decide)
  case oo =>
    refine (okc ?_ (okc ?_ (okc ?_ (okc ?_ (okc ?_ okn)))))
    all_goals ((try simp (disch := omega) only [SS]); first | done | omega | assumption | (simp (disch := omega) only [SS] at *; first | done | omega | assumption) | (simp_all; done))
  case rr =>
    try simp (disch := omega) only [SS]
    repeat' apply And.intro
    all_goals first | exact True.intro | with_reducible rfl | omega | (intros; first | exact True.intro | with_reducible rfl | omega | (simp_all; done)) | (simp_all; done) | rfl

theorem et0Ok_p0 (t0 t1 t2 t3 t4 t5 t6 t7 t8 t9 t10 t11 t12 t13 t14 t15 : List UInt8) (N : Nat) (K C O : Ix → Int) (bl : Ix → Nat) (CU : Ix → Bool) (B : Ix → Int) (w b : List UInt8) (i : Nat) :
    isMore (evTill Tryd.prog sumsLOk 600 (behind Tryd.f7 0) 900 7 (headOf Tryd.f7 0) (envAt Tryd.f7.ntmps ([(0, vL 100 5 N), (3, vS (w)), (4, vN (0)), (18, vL 100 5 N), (19, vN N), (20, vN (i : Nat))])) (allS t0 t1 t2 t3 t4 t5 t6 t7 t8 t9 t10 t11 t12 t13 t14 t15 ++ ([⟨100, false, none, 5, .ta N (.tc (.vi .i64 K) (.tc (.vi .i64 C) (.tc (.vi .i64 O) (.tc (.vl 101 (fun is => is.headD 0) 1 [] bl) (.tc (.vb CU) .t0)))))⟩] ++ [⟨101, false, some (N, fun i => bl [i]), 1, .vi .u8 B⟩]) ++ ([])) ⟨[.s true, .s true, .s true, .s true, .s false, .s true, .s true, .s true, .s true, .s true, .s true, .s false, .s false, .t, .s true], 140⟩) (moreP (headOf Tryd.f7 0) ([]) Tryd.f7.ntmps ([(0, vL 100 5 N), (3, vS (w ++ b)), (4, vN (0)), (18, vL 100 5 N), (19, vN N), (20, vN (i + 1 : Nat))]) ([]) 9000) =
    (OkL [(decide ((↑i : Int) < (↑N : Int)), true), (decide ((0 : Int) ≤ (↑i : Int) ∧ (↑i : Int) < (↑N : Int)), true), (((0 : Nat) + (↑i : Int).toNat).blt N, true), (((0 : Nat) + (↑i : Int).toNat).blt N, true), (decide ((↑(bl [(0 : Nat) + (↑i : Int).toNat]) : Int) > (400 : Int)), false), (((0 : Nat) + (↑i : Int).toNat).blt N, true), (((0 : Nat) + bl [(0 : Nat) + (↑i : Int).toNat]).ble (bl [(0 : Nat) + (↑i : Int).toNat]), true), (decide ((bytesOf B [(0 : Nat) + (↑i : Int).toNat] (0 : Nat) (bl [(0 : Nat) + (↑i : Int).toNat])).length ≤ (10000 : Nat)), true), (((0 : Nat) + (↑i : Int).toNat + (1 : Nat) + (N - ((0 : Nat) + (↑i : Int).toNat + (1 : Nat)))).beq N, true), (decide (bl [(0 : Nat) + (↑i : Int).toNat] ≤ bl [(0 : Nat) + (↑i : Int).toNat]) && (bndB (fun js => B (((0 : Nat) + (↑i : Int).toNat) :: js)) (bl [(0 : Nat) + (↑i : Int).toNat]) && decide (tkC (K [(0 : Nat) + (↑i : Int).toNat]) (C [(0 : Nat) + (↑i : Int).toNat]) (O [(0 : Nat) + (↑i : Int).toNat]) (bl [(0 : Nat) + (↑i : Int).toNat]) (fun js => B (((0 : Nat) + (↑i : Int).toNat) :: js)) (CU [(0 : Nat) + (↑i : Int).toNat]) = (0 : Nat))), true), (((0 : Nat) + (tkB (K [(0 : Nat) + (↑i : Int).toNat]) (C [(0 : Nat) + (↑i : Int).toNat]) (O [(0 : Nat) + (↑i : Int).toNat]) (bl [(0 : Nat) + (↑i : Int).toNat]) (fun js => B (((0 : Nat) + (↑i : Int).toNat) :: js)) (CU [(0 : Nat) + (↑i : Int).toNat])).length).ble (tkB (K [(0 : Nat) + (↑i : Int).toNat]) (C [(0 : Nat) + (↑i : Int).toNat]) (O [(0 : Nat) + (↑i : Int).toNat]) (bl [(0 : Nat) + (↑i : Int).toNat]) (fun js => B (((0 : Nat) + (↑i : Int).toNat) :: js)) (CU [(0 : Nat) + (↑i : Int).toNat])).length, true), (!bytesOf (fun is => (↑((tkB (K [(0 : Nat) + (↑i : Int).toNat]) (C [(0 : Nat) + (↑i : Int).toNat]) (O [(0 : Nat) + (↑i : Int).toNat]) (bl [(0 : Nat) + (↑i : Int).toNat]) (fun js => B (((0 : Nat) + (↑i : Int).toNat) :: js)) (CU [(0 : Nat) + (↑i : Int).toNat])).getD (List.headD is (0 : Nat)) (0 : UInt8)).toNat : Int)) [] (0 : Nat) (tkB (K [(0 : Nat) + (↑i : Int).toNat]) (C [(0 : Nat) + (↑i : Int).toNat]) (O [(0 : Nat) + (↑i : Int).toNat]) (bl [(0 : Nat) + (↑i : Int).toNat]) (fun js => B (((0 : Nat) + (↑i : Int).toNat) :: js)) (CU [(0 : Nat) + (↑i : Int).toNat])).length == tkrS (K [(0 : Nat) + (↑i : Int).toNat]) (C [(0 : Nat) + (↑i : Int).toNat]) (O [(0 : Nat) + (↑i : Int).toNat]) (bytesOf B [(0 : Nat) + (↑i : Int).toNat] (0 : Nat) (bl [(0 : Nat) + (↑i : Int).toNat])) (CU [(0 : Nat) + (↑i : Int).toNat]), false), ((0 : Int) != tkrN (K [(0 : Nat) + (↑i : Int).toNat]) (C [(0 : Nat) + (↑i : Int).toNat]) (O [(0 : Nat) + (↑i : Int).toNat]) (bytesOf B [(0 : Nat) + (↑i : Int).toNat] (0 : Nat) (bl [(0 : Nat) + (↑i : Int).toNat])) (CU [(0 : Nat) + (↑i : Int).toNat]), false), (decide (w.length + (tkrS (K [(0 : Nat) + (↑i : Int).toNat]) (C [(0 : Nat) + (↑i : Int).toNat]) (O [(0 : Nat) + (↑i : Int).toNat]) (bytesOf B [(0 : Nat) + (↑i : Int).toNat] (0 : Nat) (bl [(0 : Nat) + (↑i : Int).toNat])) (CU [(0 : Nat) + (↑i : Int).toNat])).length ≤ (9223372036854775807 : Nat)), true)] ∧ headOf Tryd.f7 (0 : Nat) = headOf Tryd.f7 (0 : Nat) ∧ (((0 : Nat) = (0 : Nat) ∧ N = N) ∧ w ++ b = w ++ tkrS (K [(0 : Nat) + (↑i : Int).toNat]) (C [(0 : Nat) + (↑i : Int).toNat]) (O [(0 : Nat) + (↑i : Int).toNat]) (bytesOf B [(0 : Nat) + (↑i : Int).toNat] (0 : Nat) (bl [(0 : Nat) + (↑i : Int).toNat])) (CU [(0 : Nat) + (↑i : Int).toNat]) ∧ (0 : Int) = tkrN (K [(0 : Nat) + (↑i : Int).toNat]) (C [(0 : Nat) + (↑i : Int).toNat]) (O [(0 : Nat) + (↑i : Int).toNat]) (bytesOf B [(0 : Nat) + (↑i : Int).toNat] (0 : Nat) (bl [(0 : Nat) + (↑i : Int).toNat])) (CU [(0 : Nat) + (↑i : Int).toNat]) ∧ ((0 : Nat) = (0 : Nat) ∧ N = N) ∧ (↑N : Int) = (↑N : Int) ∧ (↑(i + (1 : Nat)) : Int) = IntKind.i64.wrap ((↑i : Int) + (1 : Int))) ∧ True) := by kernel_rfl

set_option maxHeartbeats 4000000 in
theorem et0Ok (t0 t1 t2 t3 t4 t5 t6 t7 t8 t9 t10 t11 t12 t13 t14 t15 : List UInt8) (N : Nat) (K C O : Ix → Int) (bl : Ix → Nat) (CU : Ix → Bool) (B : Ix → Int) (w b : List UInt8) (i : Nat) (hi : i < N) (hN : N ≤ 30) (h4 : bl [i] ≤ 400) (hB : bndB (fun js => B (i :: js)) (bl [i]) = true) (hwl : w.length ≤ 1000 * i) (hr : tkC (K [i]) (C [i]) (O [i]) (bl [i]) (fun js => B (i :: js)) (CU [i]) = 0) (zs : tkrS (K [i]) (C [i]) (O [i]) (bytesOf B [i] 0 (bl [i])) (CU [i]) = b) (zn : tkrN (K [i]) (C [i]) (O [i]) (bytesOf B [i] 0 (bl [i])) (CU [i]) = 0) (hb : tkB (K [i]) (C [i]) (O [i]) (bl [i]) (fun js => B (i :: js)) (CU [i]) = b) (hl : b.length ≤ 1000)  (next : RunsTo Tryd.prog 7 (headOf Tryd.f7 0) (envAt Tryd.f7.ntmps ([(0, vL 100 5 N), (3, vS (w ++ b)), (4, vN (0)), (18, vL 100 5 N), (19, vN N), (20, vN (i + 1 : Nat))])) (Sx.look (allS t0 t1 t2 t3 t4 t5 t6 t7 t8 t9 t10 t11 t12 t13 t14 t15 ++ ([⟨100, false, none, 5, .ta N (.tc (.vi .i64 K) (.tc (.vi .i64 C) (.tc (.vi .i64 O) (.tc (.vl 101 (fun is => is.headD 0) 1 [] bl) (.tc (.vb CU) .t0)))))⟩] ++ [⟨101, false, some (N, fun i => bl [i]), 1, .vi .u8 B⟩]) ++ ([]))) 110 (YES) (Sx.look []) 9000) :
    RunsTo Tryd.prog 7 (headOf Tryd.f7 0) (envAt Tryd.f7.ntmps ([(0, vL 100 5 N), (3, vS (w)), (4, vN (0)), (18, vL 100 5 N), (19, vN N), (20, vN (i : Nat))])) (Sx.look (allS t0 t1 t2 t3 t4 t5 t6 t7 t8 t9 t10 t11 t12 t13 t14 t15 ++ ([⟨100, false, none, 5, .ta N (.tc (.vi .i64 K) (.tc (.vi .i64 C) (.tc (.vi .i64 O) (.tc (.vl 101 (fun is => is.headD 0) 1 [] bl) (.tc (.vb CU) .t0)))))⟩] ++ [⟨101, false, some (N, fun i => bl [i]), 1, .vi .u8 B⟩]) ++ ([]))) 110 (YES) (Sx.look []) 9000 := by
  have hw : IntKind.i64.wrap ((i : Int) + 1) = ((i + 1 : Nat) : Int) := by rw [wr64 (by omega)]; rfl
  have hlen := bytesOf_len B [i] 0 (bl [i])
  have hr' : tkC (K [i]) (C [i]) (O [i]) (bl [i]) (fun js => B ([i] ++ js)) (CU [i]) = 0 := hr
  have hk1 : numOf 20 = 9 := rfl
  have hk2 : numOf 21 = 1 := rfl
  have hk3 : numOf 22 = 4 := rfl
  have hby := bytesOf_full b
  have hb' : tkB (K [i]) (C [i]) (O [i]) (bl [i]) (fun js => B ([i] ++ js)) (CU [i]) = b := hb
  refine runs_more baseLOk (More.of (et0Ok_p0 t0 t1 t2 t3 t4 t5 t6 t7 t8 t9 t10 t11 t12 t13 t14 t15 N K C O bl CU B w b i) ⟨?oo, rfl, ?rr⟩) (by kernel_rfl) (by kernel_rfl) rfl (gtL (by decide)) (by decide) next
  case oo =>
    clear next
    refine (okc ?_ (okc ?_ (okc ?_ (okc ?_ (okc ?_ (okc ?_ (okc ?_ (okc ?_ (okc ?_ (okc ?_ (okc ?_ (okc ?_ (okc ?_ (okc ?_ okn))))))))))))))
    all_goals first | omega | (simp (disch := omega) only [SS, hw, hlen, zs, zn, hk1, hk2, hk3, List.append_nil, hby, hb, hb']; first | done | omega | exact ⟨hB, hr⟩ | exact ⟨by omega, hB, hr⟩ | exact ⟨Nat.le_refl _, hB, hr⟩) | exact ⟨hB, hr⟩ | (simp_all; done) | (simp_all; omega)
  case rr =>
    clear next
    try simp (disch := omega) only [SS, hw, hlen, zs, zn, hk1, hk2, hk3, List.append_nil, hby, hb, hb']
    repeat' apply And.intro
    all_goals first | exact True.intro | with_reducible rfl | omega | (intros; first | exact True.intro | with_reducible rfl | omega | (simp_all; done)) | (simp_all; done) | rfl

theorem et1Ok_p0 (t0 t1 t2 t3 t4 t5 t6 t7 t8 t9 t10 t11 t12 t13 t14 t15 : List UInt8) (N : Nat) (K C O : Ix → Int) (bl : Ix → Nat) (CU : Ix → Bool) (B : Ix → Int) (w b : List UInt8) (b0 : Int) (i : Nat) :
    isMore (evTill Tryd.prog sumsLOk 600 (behind Tryd.f7 0) 900 7 (headOf Tryd.f7 0) (envAt Tryd.f7.ntmps ([(0, vL 100 5 N), (3, vS (w)), (4, vN (b0)), (18, vL 100 5 N), (19, vN N), (20, vN (i : Nat))])) (allS t0 t1 t2 t3 t4 t5 t6 t7 t8 t9 t10 t11 t12 t13 t14 t15 ++ ([⟨100, false, none, 5, .ta N (.tc (.vi .i64 K) (.tc (.vi .i64 C) (.tc (.vi .i64 O) (.tc (.vl 101 (fun is => is.headD 0) 1 [] bl) (.tc (.vb CU) .t0)))))⟩] ++ [⟨101, false, some (N, fun i => bl [i]), 1, .vi .u8 B⟩]) ++ ([])) ⟨[.s true, .s true, .s true, .s true, .s false, .s true, .s true, .s true, .s true, .s true, .s true, .s false, .s false, .s false], 140⟩) (moreP (headOf Tryd.f7 0) ([]) Tryd.f7.ntmps ([(0, vL 100 5 N), (3, vS (w)), (4, vN (b0)), (18, vL 100 5 N), (19, vN N), (20, vN (i + 1 : Nat))]) ([]) 9000) =
    (OkL [(decide ((↑i : Int) < (↑N : Int)), true), (decide ((0 : Int) ≤ (↑i : Int) ∧ (↑i : Int) < (↑N : Int)), true), (((0 : Nat) + (↑i : Int).toNat).blt N, true), (((0 : Nat) + (↑i : Int).toNat).blt N, true), (decide ((↑(bl [(0 : Nat) + (↑i : Int).toNat]) : Int) > (400 : Int)), false), (((0 : Nat) + (↑i : Int).toNat).blt N, true), (((0 : Nat) + bl [(0 : Nat) + (↑i : Int).toNat]).ble (bl [(0 : Nat) + (↑i : Int).toNat]), true), (decide ((bytesOf B [(0 : Nat) + (↑i : Int).toNat] (0 : Nat) (bl [(0 : Nat) + (↑i : Int).toNat])).length ≤ (10000 : Nat)), true), (((0 : Nat) + (↑i : Int).toNat + (1 : Nat) + (N - ((0 : Nat) + (↑i : Int).toNat + (1 : Nat)))).beq N, true), (decide (bl [(0 : Nat) + (↑i : Int).toNat] ≤ bl [(0 : Nat) + (↑i : Int).toNat]) && (bndB (fun js => B (((0 : Nat) + (↑i : Int).toNat) :: js)) (bl [(0 : Nat) + (↑i : Int).toNat]) && decide (tkC (K [(0 : Nat) + (↑i : Int).toNat]) (C [(0 : Nat) + (↑i : Int).toNat]) (O [(0 : Nat) + (↑i : Int).toNat]) (bl [(0 : Nat) + (↑i : Int).toNat]) (fun js => B (((0 : Nat) + (↑i : Int).toNat) :: js)) (CU [(0 : Nat) + (↑i : Int).toNat]) = (0 : Nat))), true), (((0 : Nat) + (tkB (K [(0 : Nat) + (↑i : Int).toNat]) (C [(0 : Nat) + (↑i : Int).toNat]) (O [(0 : Nat) + (↑i : Int).toNat]) (bl [(0 : Nat) + (↑i : Int).toNat]) (fun js => B (((0 : Nat) + (↑i : Int).toNat) :: js)) (CU [(0 : Nat) + (↑i : Int).toNat])).length).ble (tkB (K [(0 : Nat) + (↑i : Int).toNat]) (C [(0 : Nat) + (↑i : Int).toNat]) (O [(0 : Nat) + (↑i : Int).toNat]) (bl [(0 : Nat) + (↑i : Int).toNat]) (fun js => B (((0 : Nat) + (↑i : Int).toNat) :: js)) (CU [(0 : Nat) + (↑i : Int).toNat])).length, true), (!bytesOf (fun is => (↑((tkB (K [(0 : Nat) + (↑i : Int).toNat]) (C [(0 : Nat) + (↑i : Int).toNat]) (O [(0 : Nat) + (↑i : Int).toNat]) (bl [(0 : Nat) + (↑i : Int).toNat]) (fun js => B (((0 : Nat) + (↑i : Int).toNat) :: js)) (CU [(0 : Nat) + (↑i : Int).toNat])).getD (List.headD is (0 : Nat)) (0 : UInt8)).toNat : Int)) [] (0 : Nat) (tkB (K [(0 : Nat) + (↑i : Int).toNat]) (C [(0 : Nat) + (↑i : Int).toNat]) (O [(0 : Nat) + (↑i : Int).toNat]) (bl [(0 : Nat) + (↑i : Int).toNat]) (fun js => B (((0 : Nat) + (↑i : Int).toNat) :: js)) (CU [(0 : Nat) + (↑i : Int).toNat])).length == tkrS (K [(0 : Nat) + (↑i : Int).toNat]) (C [(0 : Nat) + (↑i : Int).toNat]) (O [(0 : Nat) + (↑i : Int).toNat]) (bytesOf B [(0 : Nat) + (↑i : Int).toNat] (0 : Nat) (bl [(0 : Nat) + (↑i : Int).toNat])) (CU [(0 : Nat) + (↑i : Int).toNat]), false), ((0 : Int) != tkrN (K [(0 : Nat) + (↑i : Int).toNat]) (C [(0 : Nat) + (↑i : Int).toNat]) (O [(0 : Nat) + (↑i : Int).toNat]) (bytesOf B [(0 : Nat) + (↑i : Int).toNat] (0 : Nat) (bl [(0 : Nat) + (↑i : Int).toNat])) (CU [(0 : Nat) + (↑i : Int).toNat]), false), (b0 == (0 : Int), false)] ∧ headOf Tryd.f7 (0 : Nat) = headOf Tryd.f7 (0 : Nat) ∧ (((0 : Nat) = (0 : Nat) ∧ N = N) ∧ w = w ∧ b0 = b0 ∧ ((0 : Nat) = (0 : Nat) ∧ N = N) ∧ (↑N : Int) = (↑N : Int) ∧ (↑(i + (1 : Nat)) : Int) = IntKind.i64.wrap ((↑i : Int) + (1 : Int))) ∧ True) := by kernel_rfl

set_option maxHeartbeats 4000000 in
theorem et1Ok (t0 t1 t2 t3 t4 t5 t6 t7 t8 t9 t10 t11 t12 t13 t14 t15 : List UInt8) (N : Nat) (K C O : Ix → Int) (bl : Ix → Nat) (CU : Ix → Bool) (B : Ix → Int) (w b : List UInt8) (b0 : Int) (i : Nat) (hi : i < N) (hN : N ≤ 30) (h4 : bl [i] ≤ 400) (hB : bndB (fun js => B (i :: js)) (bl [i]) = true) (h0 : b0 ≠ 0) (hr : tkC (K [i]) (C [i]) (O [i]) (bl [i]) (fun js => B (i :: js)) (CU [i]) = 0) (zs : tkrS (K [i]) (C [i]) (O [i]) (bytesOf B [i] 0 (bl [i])) (CU [i]) = b) (zn : tkrN (K [i]) (C [i]) (O [i]) (bytesOf B [i] 0 (bl [i])) (CU [i]) = 0) (hb : tkB (K [i]) (C [i]) (O [i]) (bl [i]) (fun js => B (i :: js)) (CU [i]) = b) (hl : b.length ≤ 1000)  (next : RunsTo Tryd.prog 7 (headOf Tryd.f7 0) (envAt Tryd.f7.ntmps ([(0, vL 100 5 N), (3, vS (w)), (4, vN (b0)), (18, vL 100 5 N), (19, vN N), (20, vN (i + 1 : Nat))])) (Sx.look (allS t0 t1 t2 t3 t4 t5 t6 t7 t8 t9 t10 t11 t12 t13 t14 t15 ++ ([⟨100, false, none, 5, .ta N (.tc (.vi .i64 K) (.tc (.vi .i64 C) (.tc (.vi .i64 O) (.tc (.vl 101 (fun is => is.headD 0) 1 [] bl) (.tc (.vb CU) .t0)))))⟩] ++ [⟨101, false, some (N, fun i => bl [i]), 1, .vi .u8 B⟩]) ++ ([]))) 110 (YES) (Sx.look []) 9000) :
    RunsTo Tryd.prog 7 (headOf Tryd.f7 0) (envAt Tryd.f7.ntmps ([(0, vL 100 5 N), (3, vS (w)), (4, vN (b0)), (18, vL 100 5 N), (19, vN N), (20, vN (i : Nat))])) (Sx.look (allS t0 t1 t2 t3 t4 t5 t6 t7 t8 t9 t10 t11 t12 t13 t14 t15 ++ ([⟨100, false, none, 5, .ta N (.tc (.vi .i64 K) (.tc (.vi .i64 C) (.tc (.vi .i64 O) (.tc (.vl 101 (fun is => is.headD 0) 1 [] bl) (.tc (.vb CU) .t0)))))⟩] ++ [⟨101, false, some (N, fun i => bl [i]), 1, .vi .u8 B⟩]) ++ ([]))) 110 (YES) (Sx.look []) 9000 := by
  have hw : IntKind.i64.wrap ((i : Int) + 1) = ((i + 1 : Nat) : Int) := by rw [wr64 (by omega)]; rfl
  have hlen := bytesOf_len B [i] 0 (bl [i])
  have hr' : tkC (K [i]) (C [i]) (O [i]) (bl [i]) (fun js => B ([i] ++ js)) (CU [i]) = 0 := hr
  have hk1 : numOf 20 = 9 := rfl
  have hk2 : numOf 21 = 1 := rfl
  have hk3 : numOf 22 = 4 := rfl
  have hby := bytesOf_full b
  have hb' : tkB (K [i]) (C [i]) (O [i]) (bl [i]) (fun js => B ([i] ++ js)) (CU [i]) = b := hb
  refine runs_more baseLOk (More.of (et1Ok_p0 t0 t1 t2 t3 t4 t5 t6 t7 t8 t9 t10 t11 t12 t13 t14 t15 N K C O bl CU B w b b0 i) ⟨?oo, rfl, ?rr⟩) (by kernel_rfl) (by kernel_rfl) rfl (gtL (by decide)) (by decide) next
  case oo =>
    clear next
    refine (okc ?_ (okc ?_ (okc ?_ (okc ?_ (okc ?_ (okc ?_ (okc ?_ (okc ?_ (okc ?_ (okc ?_ (okc ?_ (okc ?_ (okc ?_ (okc ?_ okn))))))))))))))
    all_goals first | omega | (simp (disch := omega) only [SS, hw, hlen, zs, zn, hk1, hk2, hk3, List.append_nil, hby, hb, hb']; first | done | omega | exact ⟨hB, hr⟩ | exact ⟨by omega, hB, hr⟩ | exact ⟨Nat.le_refl _, hB, hr⟩) | exact ⟨hB, hr⟩ | (simp_all; done) | (simp_all; omega)
  case rr =>
    clear next
    try simp (disch := omega) only [SS, hw, hlen, zs, zn, hk1, hk2, hk3, List.append_nil, hby, hb, hb']
    repeat' apply And.intro
    all_goals first | exact True.intro | with_reducible rfl | omega | (intros; first | exact True.intro | with_reducible rfl | omega | (simp_all; done)) | (simp_all; done) | rfl

theorem et0Ki_p0 (t0 t1 t2 t3 t4 t5 t6 t7 t8 t9 t10 t11 t12 t13 t14 t15 : List UInt8) (N : Nat) (K C O : Ix → Int) (bl : Ix → Nat) (CU : Ix → Bool) (B : Ix → Int) (w : List UInt8) (i : Nat) :
    isMore (evTill Tryd.prog sumsLKi 600 (behind Tryd.f7 0) 900 7 (headOf Tryd.f7 0) (envAt Tryd.f7.ntmps ([(0, vL 100 5 N), (3, vS (w)), (4, vN (0)), (18, vL 100 5 N), (19, vN N), (20, vN (i : Nat))])) (allS t0 t1 t2 t3 t4 t5 t6 t7 t8 t9 t10 t11 t12 t13 t14 t15 ++ ([⟨100, false, none, 5, .ta N (.tc (.vi .i64 K) (.tc (.vi .i64 C) (.tc (.vi .i64 O) (.tc (.vl 101 (fun is => is.headD 0) 1 [] bl) (.tc (.vb CU) .t0)))))⟩] ++ [⟨101, false, some (N, fun i => bl [i]), 1, .vi .u8 B⟩]) ++ ([])) ⟨[.s true, .s true, .s true, .s true, .s false, .s true, .s true, .s true, .s true, .s true, .s false, .s false, .t, .s true], 140⟩) (moreP (headOf Tryd.f7 0) ([]) Tryd.f7.ntmps ([(0, vL 100 5 N), (3, vS (w)), (4, vN (9)), (18, vL 100 5 N), (19, vN N), (20, vN (i + 1 : Nat))]) ([]) 9000) =
    (OkL [(decide ((↑i : Int) < (↑N : Int)), true), (decide ((0 : Int) ≤ (↑i : Int) ∧ (↑i : Int) < (↑N : Int)), true), (((0 : Nat) + (↑i : Int).toNat).blt N, true), (((0 : Nat) + (↑i : Int).toNat).blt N, true), (decide ((↑(bl [(0 : Nat) + (↑i : Int).toNat]) : Int) > (400 : Int)), false), (((0 : Nat) + (↑i : Int).toNat).blt N, true), (((0 : Nat) + bl [(0 : Nat) + (↑i : Int).toNat]).ble (bl [(0 : Nat) + (↑i : Int).toNat]), true), (decide ((bytesOf B [(0 : Nat) + (↑i : Int).toNat] (0 : Nat) (bl [(0 : Nat) + (↑i : Int).toNat])).length ≤ (10000 : Nat)), true), (((0 : Nat) + (↑i : Int).toNat + (1 : Nat) + (N - ((0 : Nat) + (↑i : Int).toNat + (1 : Nat)))).beq N, true), (decide (bl [(0 : Nat) + (↑i : Int).toNat] ≤ bl [(0 : Nat) + (↑i : Int).toNat]) && (bndB (fun js => B (((0 : Nat) + (↑i : Int).toNat) :: js)) (bl [(0 : Nat) + (↑i : Int).toNat]) && decide (tkC (K [(0 : Nat) + (↑i : Int).toNat]) (C [(0 : Nat) + (↑i : Int).toNat]) (O [(0 : Nat) + (↑i : Int).toNat]) (bl [(0 : Nat) + (↑i : Int).toNat]) (fun js => B (((0 : Nat) + (↑i : Int).toNat) :: js)) (CU [(0 : Nat) + (↑i : Int).toNat]) = (1 : Nat))), true), (![] == tkrS (K [(0 : Nat) + (↑i : Int).toNat]) (C [(0 : Nat) + (↑i : Int).toNat]) (O [(0 : Nat) + (↑i : Int).toNat]) (bytesOf B [(0 : Nat) + (↑i : Int).toNat] (0 : Nat) (bl [(0 : Nat) + (↑i : Int).toNat])) (CU [(0 : Nat) + (↑i : Int).toNat]), false), (numOf (if true = true then (20 : Nat) else (233 : Nat)) != tkrN (K [(0 : Nat) + (↑i : Int).toNat]) (C [(0 : Nat) + (↑i : Int).toNat]) (O [(0 : Nat) + (↑i : Int).toNat]) (bytesOf B [(0 : Nat) + (↑i : Int).toNat] (0 : Nat) (bl [(0 : Nat) + (↑i : Int).toNat])) (CU [(0 : Nat) + (↑i : Int).toNat]), false), (decide (w.length + (tkrS (K [(0 : Nat) + (↑i : Int).toNat]) (C [(0 : Nat) + (↑i : Int).toNat]) (O [(0 : Nat) + (↑i : Int).toNat]) (bytesOf B [(0 : Nat) + (↑i : Int).toNat] (0 : Nat) (bl [(0 : Nat) + (↑i : Int).toNat])) (CU [(0 : Nat) + (↑i : Int).toNat])).length ≤ (9223372036854775807 : Nat)), true)] ∧ headOf Tryd.f7 (0 : Nat) = headOf Tryd.f7 (0 : Nat) ∧ (((0 : Nat) = (0 : Nat) ∧ N = N) ∧ w = w ++ tkrS (K [(0 : Nat) + (↑i : Int).toNat]) (C [(0 : Nat) + (↑i : Int).toNat]) (O [(0 : Nat) + (↑i : Int).toNat]) (bytesOf B [(0 : Nat) + (↑i : Int).toNat] (0 : Nat) (bl [(0 : Nat) + (↑i : Int).toNat])) (CU [(0 : Nat) + (↑i : Int).toNat]) ∧ (9 : Int) = tkrN (K [(0 : Nat) + (↑i : Int).toNat]) (C [(0 : Nat) + (↑i : Int).toNat]) (O [(0 : Nat) + (↑i : Int).toNat]) (bytesOf B [(0 : Nat) + (↑i : Int).toNat] (0 : Nat) (bl [(0 : Nat) + (↑i : Int).toNat])) (CU [(0 : Nat) + (↑i : Int).toNat]) ∧ ((0 : Nat) = (0 : Nat) ∧ N = N) ∧ (↑N : Int) = (↑N : Int) ∧ (↑(i + (1 : Nat)) : Int) = IntKind.i64.wrap ((↑i : Int) + (1 : Int))) ∧ True) := by kernel_rfl

set_option maxHeartbeats 4000000 in
theorem et0Ki (t0 t1 t2 t3 t4 t5 t6 t7 t8 t9 t10 t11 t12 t13 t14 t15 : List UInt8) (N : Nat) (K C O : Ix → Int) (bl : Ix → Nat) (CU : Ix → Bool) (B : Ix → Int) (w : List UInt8) (i : Nat) (hi : i < N) (hN : N ≤ 30) (h4 : bl [i] ≤ 400) (hB : bndB (fun js => B (i :: js)) (bl [i]) = true) (hwl : w.length ≤ 1000 * i) (hr : tkC (K [i]) (C [i]) (O [i]) (bl [i]) (fun js => B (i :: js)) (CU [i]) = 1) (zs : tkrS (K [i]) (C [i]) (O [i]) (bytesOf B [i] 0 (bl [i])) (CU [i]) = []) (zn : tkrN (K [i]) (C [i]) (O [i]) (bytesOf B [i] 0 (bl [i])) (CU [i]) = 9)  (next : RunsTo Tryd.prog 7 (headOf Tryd.f7 0) (envAt Tryd.f7.ntmps ([(0, vL 100 5 N), (3, vS (w)), (4, vN (9)), (18, vL 100 5 N), (19, vN N), (20, vN (i + 1 : Nat))])) (Sx.look (allS t0 t1 t2 t3 t4 t5 t6 t7 t8 t9 t10 t11 t12 t13 t14 t15 ++ ([⟨100, false, none, 5, .ta N (.tc (.vi .i64 K) (.tc (.vi .i64 C) (.tc (.vi .i64 O) (.tc (.vl 101 (fun is => is.headD 0) 1 [] bl) (.tc (.vb CU) .t0)))))⟩] ++ [⟨101, false, some (N, fun i => bl [i]), 1, .vi .u8 B⟩]) ++ ([]))) 110 (YES) (Sx.look []) 9000) :
    RunsTo Tryd.prog 7 (headOf Tryd.f7 0) (envAt Tryd.f7.ntmps ([(0, vL 100 5 N), (3, vS (w)), (4, vN (0)), (18, vL 100 5 N), (19, vN N), (20, vN (i : Nat))])) (Sx.look (allS t0 t1 t2 t3 t4 t5 t6 t7 t8 t9 t10 t11 t12 t13 t14 t15 ++ ([⟨100, false, none, 5, .ta N (.tc (.vi .i64 K) (.tc (.vi .i64 C) (.tc (.vi .i64 O) (.tc (.vl 101 (fun is => is.headD 0) 1 [] bl) (.tc (.vb CU) .t0)))))⟩] ++ [⟨101, false, some (N, fun i => bl [i]), 1, .vi .u8 B⟩]) ++ ([]))) 110 (YES) (Sx.look []) 9000 := by
  have hw : IntKind.i64.wrap ((i : Int) + 1) = ((i + 1 : Nat) : Int) := by rw [wr64 (by omega)]; rfl
  have hlen := bytesOf_len B [i] 0 (bl [i])
  have hr' : tkC (K [i]) (C [i]) (O [i]) (bl [i]) (fun js => B ([i] ++ js)) (CU [i]) = 1 := hr
  have hk1 : numOf 20 = 9 := rfl
  have hk2 : numOf 21 = 1 := rfl
  have hk3 : numOf 22 = 4 := rfl
  refine runs_more baseLKi (More.of (et0Ki_p0 t0 t1 t2 t3 t4 t5 t6 t7 t8 t9 t10 t11 t12 t13 t14 t15 N K C O bl CU B w i) ⟨?oo, rfl, ?rr⟩) (by kernel_rfl) (by kernel_rfl) rfl (gtL (by decide)) (by decide) next
  case oo =>
    clear next
    refine (okc ?_ (okc ?_ (okc ?_ (okc ?_ (okc ?_ (okc ?_ (okc ?_ (okc ?_ (okc ?_ (okc ?_ (okc ?_ (okc ?_ (okc ?_ okn)))))))))))))
    all_goals first | omega | (simp (disch := omega) only [SS, hw, hlen, zs, zn, hk1, hk2, hk3, List.append_nil]; first | done | omega | exact ⟨hB, hr⟩ | exact ⟨by omega, hB, hr⟩ | exact ⟨Nat.le_refl _, hB, hr⟩) | exact ⟨hB, hr⟩ | (simp_all; done) | (simp_all; omega)
  case rr =>
    clear next
    try simp (disch := omega) only [SS, hw, hlen, zs, zn, hk1, hk2, hk3, List.append_nil]
    repeat' apply And.intro
    all_goals first | exact True.intro | with_reducible rfl | omega | (intros; first | exact True.intro | with_reducible rfl | omega | (simp_all; done)) | (simp_all; done) | rfl

theorem et1Ki_p0 (t0 t1 t2 t3 t4 t5 t6 t7 t8 t9 t10 t11 t12 t13 t14 t15 : List UInt8) (N : Nat) (K C O : Ix → Int) (bl : Ix → Nat) (CU : Ix → Bool) (B : Ix → Int) (w : List UInt8) (b0 : Int) (i : Nat) :
    isMore (evTill Tryd.prog sumsLKi 600 (behind Tryd.f7 0) 900 7 (headOf Tryd.f7 0) (envAt Tryd.f7.ntmps ([(0, vL 100 5 N), (3, vS (w)), (4, vN (b0)), (18, vL 100 5 N), (19, vN N), (20, vN (i : Nat))])) (allS t0 t1 t2 t3 t4 t5 t6 t7 t8 t9 t10 t11 t12 t13 t14 t15 ++ ([⟨100, false, none, 5, .ta N (.tc (.vi .i64 K) (.tc (.vi .i64 C) (.tc (.vi .i64 O) (.tc (.vl 101 (fun is => is.headD 0) 1 [] bl) (.tc (.vb CU) .t0)))))⟩] ++ [⟨101, false, some (N, fun i => bl [i]), 1, .vi .u8 B⟩]) ++ ([])) ⟨[.s true, .s true, .s true, .s true, .s false, .s true, .s true, .s true, .s true, .s true, .s false, .s false, .s false], 140⟩) (moreP (headOf Tryd.f7 0) ([]) Tryd.f7.ntmps ([(0, vL 100 5 N), (3, vS (w)), (4, vN (b0)), (18, vL 100 5 N), (19, vN N), (20, vN (i + 1 : Nat))]) ([]) 9000) =
    (OkL [(decide ((↑i : Int) < (↑N : Int)), true), (decide ((0 : Int) ≤ (↑i : Int) ∧ (↑i : Int) < (↑N : Int)), true), (((0 : Nat) + (↑i : Int).toNat).blt N, true), (((0 : Nat) + (↑i : Int).toNat).blt N, true), (decide ((↑(bl [(0 : Nat) + (↑i : Int).toNat]) : Int) > (400 : Int)), false), (((0 : Nat) + (↑i : Int).toNat).blt N, true), (((0 : Nat) + bl [(0 : Nat) + (↑i : Int).toNat]).ble (bl [(0 : Nat) + (↑i : Int).toNat]), true), (decide ((bytesOf B [(0 : Nat) + (↑i : Int).toNat] (0 : Nat) (bl [(0 : Nat) + (↑i : Int).toNat])).length ≤ (10000 : Nat)), true), (((0 : Nat) + (↑i : Int).toNat + (1 : Nat) + (N - ((0 : Nat) + (↑i : Int).toNat + (1 : Nat)))).beq N, true), (decide (bl [(0 : Nat) + (↑i : Int).toNat] ≤ bl [(0 : Nat) + (↑i : Int).toNat]) && (bndB (fun js => B (((0 : Nat) + (↑i : Int).toNat) :: js)) (bl [(0 : Nat) + (↑i : Int).toNat]) && decide (tkC (K [(0 : Nat) + (↑i : Int).toNat]) (C [(0 : Nat) + (↑i : Int).toNat]) (O [(0 : Nat) + (↑i : Int).toNat]) (bl [(0 : Nat) + (↑i : Int).toNat]) (fun js => B (((0 : Nat) + (↑i : Int).toNat) :: js)) (CU [(0 : Nat) + (↑i : Int).toNat]) = (1 : Nat))), true), (![] == tkrS (K [(0 : Nat) + (↑i : Int).toNat]) (C [(0 : Nat) + (↑i : Int).toNat]) (O [(0 : Nat) + (↑i : Int).toNat]) (bytesOf B [(0 : Nat) + (↑i : Int).toNat] (0 : Nat) (bl [(0 : Nat) + (↑i : Int).toNat])) (CU [(0 : Nat) + (↑i : Int).toNat]), false), (numOf (if true = true then (20 : Nat) else (233 : Nat)) != tkrN (K [(0 : Nat) + (↑i : Int).toNat]) (C [(0 : Nat) + (↑i : Int).toNat]) (O [(0 : Nat) + (↑i : Int).toNat]) (bytesOf B [(0 : Nat) + (↑i : Int).toNat] (0 : Nat) (bl [(0 : Nat) + (↑i : Int).toNat])) (CU [(0 : Nat) + (↑i : Int).toNat]), false), (b0 == (0 : Int), false)] ∧ headOf Tryd.f7 (0 : Nat) = headOf Tryd.f7 (0 : Nat) ∧ (((0 : Nat) = (0 : Nat) ∧ N = N) ∧ w = w ∧ b0 = b0 ∧ ((0 : Nat) = (0 : Nat) ∧ N = N) ∧ (↑N : Int) = (↑N : Int) ∧ (↑(i + (1 : Nat)) : Int) = IntKind.i64.wrap ((↑i : Int) + (1 : Int))) ∧ True) := by kernel_rfl

set_option maxHeartbeats 4000000 in
theorem et1Ki (t0 t1 t2 t3 t4 t5 t6 t7 t8 t9 t10 t11 t12 t13 t14 t15 : List UInt8) (N : Nat) (K C O : Ix → Int) (bl : Ix → Nat) (CU : Ix → Bool) (B : Ix → Int) (w : List UInt8) (b0 : Int) (i : Nat) (hi : i < N) (hN : N ≤ 30) (h4 : bl [i] ≤ 400) (hB : bndB (fun js => B (i :: js)) (bl [i]) = true) (h0 : b0 ≠ 0) (hr : tkC (K [i]) (C [i]) (O [i]) (bl [i]) (fun js => B (i :: js)) (CU [i]) = 1) (zs : tkrS (K [i]) (C [i]) (O [i]) (bytesOf B [i] 0 (bl [i])) (CU [i]) = []) (zn : tkrN (K [i]) (C [i]) (O [i]) (bytesOf B [i] 0 (bl [i])) (CU [i]) = 9)  (next : RunsTo Tryd.prog 7 (headOf Tryd.f7 0) (envAt Tryd.f7.ntmps ([(0, vL 100 5 N), (3, vS (w)), (4, vN (b0)), (18, vL 100 5 N), (19, vN N), (20, vN (i + 1 : Nat))])) (Sx.look (allS t0 t1 t2 t3 t4 t5 t6 t7 t8 t9 t10 t11 t12 t13 t14 t15 ++ ([⟨100, false, none, 5, .ta N (.tc (.vi .i64 K) (.tc (.vi .i64 C) (.tc (.vi .i64 O) (.tc (.vl 101 (fun is => is.headD 0) 1 [] bl) (.tc (.vb CU) .t0)))))⟩] ++ [⟨101, false, some (N, fun i => bl [i]), 1, .vi .u8 B⟩]) ++ ([]))) 110 (YES) (Sx.look []) 9000) :
    RunsTo Tryd.prog 7 (headOf Tryd.f7 0) (envAt Tryd.f7.ntmps ([(0, vL 100 5 N), (3, vS (w)), (4, vN (b0)), (18, vL 100 5 N), (19, vN N), (20, vN (i : Nat))])) (Sx.look (allS t0 t1 t2 t3 t4 t5 t6 t7 t8 t9 t10 t11 t12 t13 t14 t15 ++ ([⟨100, false, none, 5, .ta N (.tc (.vi .i64 K) (.tc (.vi .i64 C) (.tc (.vi .i64 O) (.tc (.vl 101 (fun is => is.headD 0) 1 [] bl) (.tc (.vb CU) .t0)))))⟩] ++ [⟨101, false, some (N, fun i => bl [i]), 1, .vi .u8 B⟩]) ++ ([]))) 110 (YES) (Sx.look []) 9000 := by
  have hw : IntKind.i64.wrap ((i : Int) + 1) = ((i + 1 : Nat) : Int) := by rw [wr64 (by omega)]; rfl
  have hlen := bytesOf_len B [i] 0 (bl [i])
  have hr' : tkC (K [i]) (C [i]) (O [i]) (bl [i]) (fun js => B ([i] ++ js)) (CU [i]) = 1 := hr
  have hk1 : numOf 20 = 9 := rfl
  have hk2 : numOf 21 = 1 := rfl
  have hk3 : numOf 22 = 4 := rfl
  refine runs_more baseLKi (More.of (et1Ki_p0 t0 t1 t2 t3 t4 t5 t6 t7 t8 t9 t10 t11 t12 t13 t14 t15 N K C O bl CU B w b0 i) ⟨?oo, rfl, ?rr⟩) (by kernel_rfl) (by kernel_rfl) rfl (gtL (by decide)) (by decide) next
  case oo =>
    clear next
    refine (okc ?_ (okc ?_ (okc ?_ (okc ?_ (okc ?_ (okc ?_ (okc ?_ (okc ?_ (okc ?_ (okc ?_ (okc ?_ (okc ?_ (okc ?_ okn)))))))))))))
    all_goals first | omega | (simp (disch := omega) only [SS, hw, hlen, zs, zn, hk1, hk2, hk3, List.append_nil]; first | done | omega | exact ⟨hB, hr⟩ | exact ⟨by omega, hB, hr⟩ | exact ⟨Nat.le_refl _, hB, hr⟩) | exact ⟨hB, hr⟩ | (simp_all; done) | (simp_all; omega)
  case rr =>
    clear next
    try simp (disch := omega) only [SS, hw, hlen, zs, zn, hk1, hk2, hk3, List.append_nil]
    repeat' apply And.intro
    all_goals first | exact True.intro | with_reducible rfl | omega | (intros; first | exact True.intro | with_reducible rfl | omega | (simp_all; done)) | (simp_all; done) | rfl

theorem et0Ra_p0 (t0 t1 t2 t3 t4 t5 t6 t7 t8 t9 t10 t11 t12 t13 t14 t15 : List UInt8) (N : Nat) (K C O : Ix → Int) (bl : Ix → Nat) (CU : Ix → Bool) (B : Ix → Int) (w : List UInt8) (i : Nat) :
    isMore (evTill Tryd.prog sumsLRa 600 (behind Tryd.f7 0) 900 7 (headOf Tryd.f7 0) (envAt Tryd.f7.ntmps ([(0, vL 100 5 N), (3, vS (w)), (4, vN (0)), (18, vL 100 5 N), (19, vN N), (20, vN (i : Nat))])) (allS t0 t1 t2 t3 t4 t5 t6 t7 t8 t9 t10 t11 t12 t13 t14 t15 ++ ([⟨100, false, none, 5, .ta N (.tc (.vi .i64 K) (.tc (.vi .i64 C) (.tc (.vi .i64 O) (.tc (.vl 101 (fun is => is.headD 0) 1 [] bl) (.tc (.vb CU) .t0)))))⟩] ++ [⟨101, false, some (N, fun i => bl [i]), 1, .vi .u8 B⟩]) ++ ([])) ⟨[.s true, .s true, .s true, .s true, .s false, .s true, .s true, .s true, .s true, .s true, .s false, .s false, .t, .s true], 140⟩) (moreP (headOf Tryd.f7 0) ([]) Tryd.f7.ntmps ([(0, vL 100 5 N), (3, vS (w)), (4, vN (1)), (18, vL 100 5 N), (19, vN N), (20, vN (i + 1 : Nat))]) ([]) 9000) =
    (OkL [(decide ((↑i : Int) < (↑N : Int)), true), (decide ((0 : Int) ≤ (↑i : Int) ∧ (↑i : Int) < (↑N : Int)), true), (((0 : Nat) + (↑i : Int).toNat).blt N, true), (((0 : Nat) + (↑i : Int).toNat).blt N, true), (decide ((↑(bl [(0 : Nat) + (↑i : Int).toNat]) : Int) > (400 : Int)), false), (((0 : Nat) + (↑i : Int).toNat).blt N, true), (((0 : Nat) + bl [(0 : Nat) + (↑i : Int).toNat]).ble (bl [(0 : Nat) + (↑i : Int).toNat]), true), (decide ((bytesOf B [(0 : Nat) + (↑i : Int).toNat] (0 : Nat) (bl [(0 : Nat) + (↑i : Int).toNat])).length ≤ (10000 : Nat)), true), (((0 : Nat) + (↑i : Int).toNat + (1 : Nat) + (N - ((0 : Nat) + (↑i : Int).toNat + (1 : Nat)))).beq N, true), (decide (bl [(0 : Nat) + (↑i : Int).toNat] ≤ bl [(0 : Nat) + (↑i : Int).toNat]) && (bndB (fun js => B (((0 : Nat) + (↑i : Int).toNat) :: js)) (bl [(0 : Nat) + (↑i : Int).toNat]) && decide (tkC (K [(0 : Nat) + (↑i : Int).toNat]) (C [(0 : Nat) + (↑i : Int).toNat]) (O [(0 : Nat) + (↑i : Int).toNat]) (bl [(0 : Nat) + (↑i : Int).toNat]) (fun js => B (((0 : Nat) + (↑i : Int).toNat) :: js)) (CU [(0 : Nat) + (↑i : Int).toNat]) = (2 : Nat))), true), (![] == tkrS (K [(0 : Nat) + (↑i : Int).toNat]) (C [(0 : Nat) + (↑i : Int).toNat]) (O [(0 : Nat) + (↑i : Int).toNat]) (bytesOf B [(0 : Nat) + (↑i : Int).toNat] (0 : Nat) (bl [(0 : Nat) + (↑i : Int).toNat])) (CU [(0 : Nat) + (↑i : Int).toNat]), false), (numOf (if true = true then (21 : Nat) else (233 : Nat)) != tkrN (K [(0 : Nat) + (↑i : Int).toNat]) (C [(0 : Nat) + (↑i : Int).toNat]) (O [(0 : Nat) + (↑i : Int).toNat]) (bytesOf B [(0 : Nat) + (↑i : Int).toNat] (0 : Nat) (bl [(0 : Nat) + (↑i : Int).toNat])) (CU [(0 : Nat) + (↑i : Int).toNat]), false), (decide (w.length + (tkrS (K [(0 : Nat) + (↑i : Int).toNat]) (C [(0 : Nat) + (↑i : Int).toNat]) (O [(0 : Nat) + (↑i : Int).toNat]) (bytesOf B [(0 : Nat) + (↑i : Int).toNat] (0 : Nat) (bl [(0 : Nat) + (↑i : Int).toNat])) (CU [(0 : Nat) + (↑i : Int).toNat])).length ≤ (9223372036854775807 : Nat)), true)] ∧ headOf Tryd.f7 (0 : Nat) = headOf Tryd.f7 (0 : Nat) ∧ (((0 : Nat) = (0 : Nat) ∧ N = N) ∧ w = w ++ tkrS (K [(0 : Nat) + (↑i : Int).toNat]) (C [(0 : Nat) + (↑i : Int).toNat]) (O [(0 : Nat) + (↑i : Int).toNat]) (bytesOf B [(0 : Nat) + (↑i : Int).toNat] (0 : Nat) (bl [(0 : Nat) + (↑i : Int).toNat])) (CU [(0 : Nat) + (↑i : Int).toNat]) ∧ (1 : Int) = tkrN (K [(0 : Nat) + (↑i : Int).toNat]) (C [(0 : Nat) + (↑i : Int).toNat]) (O [(0 : Nat) + (↑i : Int).toNat]) (bytesOf B [(0 : Nat) + (↑i : Int).toNat] (0 : Nat) (bl [(0 : Nat) + (↑i : Int).toNat])) (CU [(0 : Nat) + (↑i : Int).toNat]) ∧ ((0 : Nat) = (0 : Nat) ∧ N = N) ∧ (↑N : Int) = (↑N : Int) ∧ (↑(i + (1 : Nat)) : Int) = IntKind.i64.wrap ((↑i : Int) + (1 : Int))) ∧ True) := by kernel_rfl

set_option maxHeartbeats 4000000 in
theorem et0Ra (t0 t1 t2 t3 t4 t5 t6 t7 t8 t9 t10 t11 t12 t13 t14 t15 : List UInt8) (N : Nat) (K C O : Ix → Int) (bl : Ix → Nat) (CU : Ix → Bool) (B : Ix → Int) (w : List UInt8) (i : Nat) (hi : i < N) (hN : N ≤ 30) (h4 : bl [i] ≤ 400) (hB : bndB (fun js => B (i :: js)) (bl [i]) = true) (hwl : w.length ≤ 1000 * i) (hr : tkC (K [i]) (C [i]) (O [i]) (bl [i]) (fun js => B (i :: js)) (CU [i]) = 2) (zs : tkrS (K [i]) (C [i]) (O [i]) (bytesOf B [i] 0 (bl [i])) (CU [i]) = []) (zn : tkrN (K [i]) (C [i]) (O [i]) (bytesOf B [i] 0 (bl [i])) (CU [i]) = 1)  (next : RunsTo Tryd.prog 7 (headOf Tryd.f7 0) (envAt Tryd.f7.ntmps ([(0, vL 100 5 N), (3, vS (w)), (4, vN (1)), (18, vL 100 5 N), (19, vN N), (20, vN (i + 1 : Nat))])) (Sx.look (allS t0 t1 t2 t3 t4 t5 t6 t7 t8 t9 t10 t11 t12 t13 t14 t15 ++ ([⟨100, false, none, 5, .ta N (.tc (.vi .i64 K) (.tc (.vi .i64 C) (.tc (.vi .i64 O) (.tc (.vl 101 (fun is => is.headD 0) 1 [] bl) (.tc (.vb CU) .t0)))))⟩] ++ [⟨101, false, some (N, fun i => bl [i]), 1, .vi .u8 B⟩]) ++ ([]))) 110 (YES) (Sx.look []) 9000) :
    RunsTo Tryd.prog 7 (headOf Tryd.f7 0) (envAt Tryd.f7.ntmps ([(0, vL 100 5 N), (3, vS (w)), (4, vN (0)), (18, vL 100 5 N), (19, vN N), (20, vN (i : Nat))])) (Sx.look (allS t0 t1 t2 t3 t4 t5 t6 t7 t8 t9 t10 t11 t12 t13 t14 t15 ++ ([⟨100, false, none, 5, .ta N (.tc (.vi .i64 K) (.tc (.vi .i64 C) (.tc (.vi .i64 O) (.tc (.vl 101 (fun is => is.headD 0) 1 [] bl) (.tc (.vb CU) .t0)))))⟩] ++ [⟨101, false, some (N, fun i => bl [i]), 1, .vi .u8 B⟩]) ++ ([]))) 110 (YES) (Sx.look []) 9000 := by
  have hw : IntKind.i64.wrap ((i : Int) + 1) = ((i + 1 : Nat) : Int) := by rw [wr64 (by omega)]; rfl
  have hlen := bytesOf_len B [i] 0 (bl [i])
  have hr' : tkC (K [i]) (C [i]) (O [i]) (bl [i]) (fun js => B ([i] ++ js)) (CU [i]) = 2 := hr
  have hk1 : numOf 20 = 9 := rfl
  have hk2 : numOf 21 = 1 := rfl
  have hk3 : numOf 22 = 4 := rfl
  refine runs_more baseLRa (More.of (et0Ra_p0 t0 t1 t2 t3 t4 t5 t6 t7 t8 t9 t10 t11 t12 t13 t14 t15 N K C O bl CU B w i) ⟨?oo, rfl, ?rr⟩) (by kernel_rfl) (by kernel_rfl) rfl (gtL (by decide)) (by decide) next
  case oo =>
    clear next
    refine (okc ?_ (okc ?_ (okc ?_ (okc ?_ (okc ?_ (okc ?_ (okc ?_ (okc ?_ (okc ?_ (okc ?_ (okc ?_ (okc ?_ (okc ?_ okn)))))))))))))
    all_goals first | omega | (simp (disch := omega) only [SS, hw, hlen, zs, zn, hk1, hk2, hk3, List.append_nil]; first | done | omega | exact ⟨hB, hr⟩ | exact ⟨by omega, hB, hr⟩ | exact ⟨Nat.le_refl _, hB, hr⟩) | exact ⟨hB, hr⟩ | (simp_all; done) | (simp_all; omega)
  case rr =>
    clear next
    try simp (disch := omega) only [SS, hw, hlen, zs, zn, hk1, hk2, hk3, List.append_nil]
    repeat' apply And.intro
    all_goals first | exact True.intro | with_reducible rfl | omega | (intros; first | exact True.intro | with_reducible rfl | omega | (simp_all; done)) | (simp_all; done) | rfl

theorem et1Ra_p0 (t0 t1 t2 t3 t4 t5 t6 t7 t8 t9 t10 t11 t12 t13 t14 t15 : List UInt8) (N : Nat) (K C O : Ix → Int) (bl : Ix → Nat) (CU : Ix → Bool) (B : Ix → Int) (w : List UInt8) (b0 : Int) (i : Nat) :
    isMore (evTill Tryd.prog sumsLRa 600 (behind Tryd.f7 0) 900 7 (headOf Tryd.f7 0) (envAt Tryd.f7.ntmps ([(0, vL 100 5 N), (3, vS (w)), (4, vN (b0)), (18, vL 100 5 N), (19, vN N), (20, vN (i : Nat))])) (allS t0 t1 t2 t3 t4 t5 t6 t7 t8 t9 t10 t11 t12 t13 t14 t15 ++ ([⟨100, false, none, 5, .ta N (.tc (.vi .i64 K) (.tc (.vi .i64 C) (.tc (.vi .i64 O) (.tc (.vl 101 (fun is => is.headD 0) 1 [] bl) (.tc (.vb CU) .t0)))))⟩] ++ [⟨101, false, some (N, fun i => bl [i]), 1, .vi .u8 B⟩]) ++ ([])) ⟨[.s true, .s true, .s true, .s true, .s false, .s true, .s true, .s true, .s true, .s true, .s false, .s false, .s false], 140⟩) (moreP (headOf Tryd.f7 0) ([]) Tryd.f7.ntmps ([(0, vL 100 5 N), (3, vS (w)), (4, vN (b0)), (18, vL 100 5 N), (19, vN N), (20, vN (i + 1 : Nat))]) ([]) 9000) =
    (OkL [(decide ((↑i : Int) < (↑N : Int)), true), (decide ((0 : Int) ≤ (↑i : Int) ∧ (↑i : Int) < (↑N : Int)), true), (((0 : Nat) + (↑i : Int).toNat).blt N, true), (((0 : Nat) + (↑i : Int).toNat).blt N, true), (decide ((↑(bl [(0 : Nat) + (↑i : Int).toNat]) : Int) > (400 : Int)), false), (((0 : Nat) + (↑i : Int).toNat).blt N, true), (((0 : Nat) + bl [(0 : Nat) + (↑i : Int).toNat]).ble (bl [(0 : Nat) + (↑i : Int).toNat]), true), (decide ((bytesOf B [(0 : Nat) + (↑i : Int).toNat] (0 : Nat) (bl [(0 : Nat) + (↑i : Int).toNat])).length ≤ (10000 : Nat)), true), (((0 : Nat) + (↑i : Int).toNat + (1 : Nat) + (N - ((0 : Nat) + (↑i : Int).toNat + (1 : Nat)))).beq N, true), (decide (bl [(0 : Nat) + (↑i : Int).toNat] ≤ bl [(0 : Nat) + (↑i : Int).toNat]) && (bndB (fun js => B (((0 : Nat) + (↑i : Int).toNat) :: js)) (bl [(0 : Nat) + (↑i : Int).toNat]) && decide (tkC (K [(0 : Nat) + (↑i : Int).toNat]) (C [(0 : Nat) + (↑i : Int).toNat]) (O [(0 : Nat) + (↑i : Int).toNat]) (bl [(0 : Nat) + (↑i : Int).toNat]) (fun js => B (((0 : Nat) + (↑i : Int).toNat) :: js)) (CU [(0 : Nat) + (↑i : Int).toNat]) = (2 : Nat))), true), (![] == tkrS (K [(0 : Nat) + (↑i : Int).toNat]) (C [(0 : Nat) + (↑i : Int).toNat]) (O [(0 : Nat) + (↑i : Int).toNat]) (bytesOf B [(0 : Nat) + (↑i : Int).toNat] (0 : Nat) (bl [(0 : Nat) + (↑i : Int).toNat])) (CU [(0 : Nat) + (↑i : Int).toNat]), false), (numOf (if true = true then (21 : Nat) else (233 : Nat)) != tkrN (K [(0 : Nat) + (↑i : Int).toNat]) (C [(0 : Nat) + (↑i : Int).toNat]) (O [(0 : Nat) + (↑i : Int).toNat]) (bytesOf B [(0 : Nat) + (↑i : Int).toNat] (0 : Nat) (bl [(0 : Nat) + (↑i : Int).toNat])) (CU [(0 : Nat) + (↑i : Int).toNat]), false), (b0 == (0 : Int), false)] ∧ headOf Tryd.f7 (0 : Nat) = headOf Tryd.f7 (0 : Nat) ∧ (((0 : Nat) = (0 : Nat) ∧ N = N) ∧ w = w ∧ b0 = b0 ∧ ((0 : Nat) = (0 : Nat) ∧ N = N) ∧ (↑N : Int) = (↑N : Int) ∧ (↑(i + (1 : Nat)) : Int) = IntKind.i64.wrap ((↑i : Int) + (1 : Int))) ∧ True) := by kernel_rfl

set_option maxHeartbeats 4000000 in
theorem et1Ra (t0 t1 t2 t3 t4 t5 t6 t7 t8 t9 t10 t11 t12 t13 t14 t15 : List UInt8) (N : Nat) (K C O : Ix → Int) (bl : Ix → Nat) (CU : Ix → Bool) (B : Ix → Int) (w : List UInt8) (b0 : Int) (i : Nat) (hi : i < N) (hN : N ≤ 30) (h4 : bl [i] ≤ 400) (hB : bndB (fun js => B (i :: js)) (bl [i]) = true) (h0 : b0 ≠ 0) (hr : tkC (K [i]) (C [i]) (O [i]) (bl [i]) (fun js => B (i :: js)) (CU [i]) = 2) (zs : tkrS (K [i]) (C [i]) (O [i]) (bytesOf B [i] 0 (bl [i])) (CU [i]) = []) (zn : tkrN (K [i]) (C [i]) (O [i]) (bytesOf B [i] 0 (bl [i])) (CU [i]) = 1)  (next : RunsTo Tryd.prog 7 (headOf Tryd.f7 0) (envAt Tryd.f7.ntmps ([(0, vL 100 5 N), (3, vS (w)), (4, vN (b0)), (18, vL 100 5 N), (19, vN N), (20, vN (i + 1 : Nat))])) (Sx.look (allS t0 t1 t2 t3 t4 t5 t6 t7 t8 t9 t10 t11 t12 t13 t14 t15 ++ ([⟨100, false, none, 5, .ta N (.tc (.vi .i64 K) (.tc (.vi .i64 C) (.tc (.vi .i64 O) (.tc (.vl 101 (fun is => is.headD 0) 1 [] bl) (.tc (.vb CU) .t0)))))⟩] ++ [⟨101, false, some (N, fun i => bl [i]), 1, .vi .u8 B⟩]) ++ ([]))) 110 (YES) (Sx.look []) 9000) :
    RunsTo Tryd.prog 7 (headOf Tryd.f7 0) (envAt Tryd.f7.ntmps ([(0, vL 100 5 N), (3, vS (w)), (4, vN (b0)), (18, vL 100 5 N), (19, vN N), (20, vN (i : Nat))])) (Sx.look (allS t0 t1 t2 t3 t4 t5 t6 t7 t8 t9 t10 t11 t12 t13 t14 t15 ++ ([⟨100, false, none, 5, .ta N (.tc (.vi .i64 K) (.tc (.vi .i64 C) (.tc (.vi .i64 O) (.tc (.vl 101 (fun is => is.headD 0) 1 [] bl) (.tc (.vb CU) .t0)))))⟩] ++ [⟨101, false, some (N, fun i => bl [i]), 1, .vi .u8 B⟩]) ++ ([]))) 110 (YES) (Sx.look []) 9000 := by
  have hw : IntKind.i64.wrap ((i : Int) + 1) = ((i + 1 : Nat) : Int) := by rw [wr64 (by omega)]; rfl
  have hlen := bytesOf_len B [i] 0 (bl [i])
  have hr' : tkC (K [i]) (C [i]) (O [i]) (bl [i]) (fun js => B ([i] ++ js)) (CU [i]) = 2 := hr
  have hk1 : numOf 20 = 9 := rfl
  have hk2 : numOf 21 = 1 := rfl
  have hk3 : numOf 22 = 4 := rfl
  refine runs_more baseLRa (More.of (et1Ra_p0 t0 t1 t2 t3 t4 t5 t6 t7 t8 t9 t10 t11 t12 t13 t14 t15 N K C O bl CU B w b0 i) ⟨?oo, rfl, ?rr⟩) (by kernel_rfl) (by kernel_rfl) rfl (gtL (by decide)) (by decide) next
  case oo =>
    clear next
    refine (okc ?_ (okc ?_ (okc ?_ (okc ?_ (okc ?_ (okc ?_ (okc ?_ (okc ?_ (okc ?_ (okc ?_ (okc ?_ (okc ?_ (okc ?_ okn)))))))))))))
    all_goals first | omega | (simp (disch := omega) only [SS, hw, hlen, zs, zn, hk1, hk2, hk3, List.append_nil]; first | done | omega | exact ⟨hB, hr⟩ | exact ⟨by omega, hB, hr⟩ | exact ⟨Nat.le_refl _, hB, hr⟩) | exact ⟨hB, hr⟩ | (simp_all; done) | (simp_all; omega)
  case rr =>
    clear next
    try simp (disch := omega) only [SS, hw, hlen, zs, zn, hk1, hk2, hk3, List.append_nil]
    repeat' apply And.intro
    all_goals first | exact True.intro | with_reducible rfl | omega | (intros; first | exact True.intro | with_reducible rfl | omega | (simp_all; done)) | (simp_all; done) | rfl

theorem et0Lo_p0 (t0 t1 t2 t3 t4 t5 t6 t7 t8 t9 t10 t11 t12 t13 t14 t15 : List UInt8) (N : Nat) (K C O : Ix → Int) (bl : Ix → Nat) (CU : Ix → Bool) (B : Ix → Int) (w : List UInt8) (i : Nat) :
    isMore (evTill Tryd.prog sumsLLo 600 (behind Tryd.f7 0) 900 7 (headOf Tryd.f7 0) (envAt Tryd.f7.ntmps ([(0, vL 100 5 N), (3, vS (w)), (4, vN (0)), (18, vL 100 5 N), (19, vN N), (20, vN (i : Nat))])) (allS t0 t1 t2 t3 t4 t5 t6 t7 t8 t9 t10 t11 t12 t13 t14 t15 ++ ([⟨100, false, none, 5, .ta N (.tc (.vi .i64 K) (.tc (.vi .i64 C) (.tc (.vi .i64 O) (.tc (.vl 101 (fun is => is.headD 0) 1 [] bl) (.tc (.vb CU) .t0)))))⟩] ++ [⟨101, false, some (N, fun i => bl [i]), 1, .vi .u8 B⟩]) ++ ([])) ⟨[.s true, .s true, .s true, .s true, .s false, .s true, .s true, .s true, .s true, .s true, .s false, .s false, .t, .s true], 140⟩) (moreP (headOf Tryd.f7 0) ([]) Tryd.f7.ntmps ([(0, vL 100 5 N), (3, vS (w)), (4, vN (4)), (18, vL 100 5 N), (19, vN N), (20, vN (i + 1 : Nat))]) ([]) 9000) =
    (OkL [(decide ((↑i : Int) < (↑N : Int)), true), (decide ((0 : Int) ≤ (↑i : Int) ∧ (↑i : Int) < (↑N : Int)), true), (((0 : Nat) + (↑i : Int).toNat).blt N, true), (((0 : Nat) + (↑i : Int).toNat).blt N, true), (decide ((↑(bl [(0 : Nat) + (↑i : Int).toNat]) : Int) > (400 : Int)), false), (((0 : Nat) + (↑i : Int).toNat).blt N, true), (((0 : Nat) + bl [(0 : Nat) + (↑i : Int).toNat]).ble (bl [(0 : Nat) + (↑i : Int).toNat]), true), (decide ((bytesOf B [(0 : Nat) + (↑i : Int).toNat] (0 : Nat) (bl [(0 : Nat) + (↑i : Int).toNat])).length ≤ (10000 : Nat)), true), (((0 : Nat) + (↑i : Int).toNat + (1 : Nat) + (N - ((0 : Nat) + (↑i : Int).toNat + (1 : Nat)))).beq N, true), (decide (bl [(0 : Nat) + (↑i : Int).toNat] ≤ bl [(0 : Nat) + (↑i : Int).toNat]) && (bndB (fun js => B (((0 : Nat) + (↑i : Int).toNat) :: js)) (bl [(0 : Nat) + (↑i : Int).toNat]) && decide (tkC (K [(0 : Nat) + (↑i : Int).toNat]) (C [(0 : Nat) + (↑i : Int).toNat]) (O [(0 : Nat) + (↑i : Int).toNat]) (bl [(0 : Nat) + (↑i : Int).toNat]) (fun js => B (((0 : Nat) + (↑i : Int).toNat) :: js)) (CU [(0 : Nat) + (↑i : Int).toNat]) = (3 : Nat))), true), (![] == tkrS (K [(0 : Nat) + (↑i : Int).toNat]) (C [(0 : Nat) + (↑i : Int).toNat]) (O [(0 : Nat) + (↑i : Int).toNat]) (bytesOf B [(0 : Nat) + (↑i : Int).toNat] (0 : Nat) (bl [(0 : Nat) + (↑i : Int).toNat])) (CU [(0 : Nat) + (↑i : Int).toNat]), false), (numOf (if true = true then (22 : Nat) else (233 : Nat)) != tkrN (K [(0 : Nat) + (↑i : Int).toNat]) (C [(0 : Nat) + (↑i : Int).toNat]) (O [(0 : Nat) + (↑i : Int).toNat]) (bytesOf B [(0 : Nat) + (↑i : Int).toNat] (0 : Nat) (bl [(0 : Nat) + (↑i : Int).toNat])) (CU [(0 : Nat) + (↑i : Int).toNat]), false), (decide (w.length + (tkrS (K [(0 : Nat) + (↑i : Int).toNat]) (C [(0 : Nat) + (↑i : Int).toNat]) (O [(0 : Nat) + (↑i : Int).toNat]) (bytesOf B [(0 : Nat) + (↑i : Int).toNat] (0 : Nat) (bl [(0 : Nat) + (↑i : Int).toNat])) (CU [(0 : Nat) + (↑i : Int).toNat])).length ≤ (9223372036854775807 : Nat)), true)] ∧ headOf Tryd.f7 (0 : Nat) = headOf Tryd.f7 (0 : Nat) ∧ (((0 : Nat) = (0 : Nat) ∧ N = N) ∧ w = w ++ tkrS (K [(0 : Nat) + (↑i : Int).toNat]) (C [(0 : Nat) + (↑i : Int).toNat]) (O [(0 : Nat) + (↑i : Int).toNat]) (bytesOf B [(0 : Nat) + (↑i : Int).toNat] (0 : Nat) (bl [(0 : Nat) + (↑i : Int).toNat])) (CU [(0 : Nat) + (↑i : Int).toNat]) ∧ (4 : Int) = tkrN (K [(0 : Nat) + (↑i : Int).toNat]) (C [(0 : Nat) + (↑i : Int).toNat]) (O [(0 : Nat) + (↑i : Int).toNat]) (bytesOf B [(0 : Nat) + (↑i : Int).toNat] (0 : Nat) (bl [(0 : Nat) + (↑i : Int).toNat])) (CU [(0 : Nat) + (↑i : Int).toNat]) ∧ ((0 : Nat) = (0 : Nat) ∧ N = N) ∧ (↑N : Int) = (↑N : Int) ∧ (↑(i + (1 : Nat)) : Int) = IntKind.i64.wrap ((↑i : Int) + (1 : Int))) ∧ True) := by kernel_rfl

set_option maxHeartbeats 4000000 in
theorem et0Lo (t0 t1 t2 t3 t4 t5 t6 t7 t8 t9 t10 t11 t12 t13 t14 t15 : List UInt8) (N : Nat) (K C O : Ix → Int) (bl : Ix → Nat) (CU : Ix → Bool) (B : Ix → Int) (w : List UInt8) (i : Nat) (hi : i < N) (hN : N ≤ 30) (h4 : bl [i] ≤ 400) (hB : bndB (fun js => B (i :: js)) (bl [i]) = true) (hwl : w.length ≤ 1000 * i) (hr : tkC (K [i]) (C [i]) (O [i]) (bl [i]) (fun js => B (i :: js)) (CU [i]) = 3) (zs : tkrS (K [i]) (C [i]) (O [i]) (bytesOf B [i] 0 (bl [i])) (CU [i]) = []) (zn : tkrN (K [i]) (C [i]) (O [i]) (bytesOf B [i] 0 (bl [i])) (CU [i]) = 4)  (next : RunsTo Tryd.prog 7 (headOf Tryd.f7 0) (envAt Tryd.f7.ntmps ([(0, vL 100 5 N), (3, vS (w)), (4, vN (4)), (18, vL 100 5 N), (19, vN N), (20, vN (i + 1 : Nat))])) (Sx.look (allS t0 t1 t2 t3 t4 t5 t6 t7 t8 t9 t10 t11 t12 t13 t14 t15 ++ ([⟨100, false, none, 5, .ta N (.tc (.vi .i64 K) (.tc (.vi .i64 C) (.tc (.vi .i64 O) (.tc (.vl 101 (fun is => is.headD 0) 1 [] bl) (.tc (.vb CU) .t0)))))⟩] ++ [⟨101, false, some (N, fun i => bl [i]), 1, .vi .u8 B⟩]) ++ ([]))) 110 (YES) (Sx.look []) 9000) :
    RunsTo Tryd.prog 7 (headOf Tryd.f7 0) (envAt Tryd.f7.ntmps ([(0, vL 100 5 N), (3, vS (w)), (4, vN (0)), (18, vL 100 5 N), (19, vN N), (20, vN (i : Nat))])) (Sx.look (allS t0 t1 t2 t3 t4 t5 t6 t7 t8 t9 t10 t11 t12 t13 t14 t15 ++ ([⟨100, false, none, 5, .ta N (.tc (.vi .i64 K) (.tc (.vi .i64 C) (.tc (.vi .i64 O) (.tc (.vl 101 (fun is => is.headD 0) 1 [] bl) (.tc (.vb CU) .t0)))))⟩] ++ [⟨101, false, some (N, fun i => bl [i]), 1, .vi .u8 B⟩]) ++ ([]))) 110 (YES) (Sx.look []) 9000 := by
  have hw : IntKind.i64.wrap ((i : Int) + 1) = ((i + 1 : Nat) : Int) := by rw [wr64 (by omega)]; rfl
  have hlen := bytesOf_len B [i] 0 (bl [i])
  have hr' : tkC (K [i]) (C [i]) (O [i]) (bl [i]) (fun js => B ([i] ++ js)) (CU [i]) = 3 := hr
  have hk1 : numOf 20 = 9 := rfl
  have hk2 : numOf 21 = 1 := rfl
  have hk3 : numOf 22 = 4 := rfl
  refine runs_more baseLLo (More.of (et0Lo_p0 t0 t1 t2 t3 t4 t5 t6 t7 t8 t9 t10 t11 t12 t13 t14 t15 N K C O bl CU B w i) ⟨?oo, rfl, ?rr⟩) (by kernel_rfl) (by kernel_rfl) rfl (gtL (by decide)) (by decide) next
  case oo =>
    clear next
    refine (okc ?_ (okc ?_ (okc ?_ (okc ?_ (okc ?_ (okc ?_ (okc ?_ (okc ?_ (okc ?_ (okc ?_ (okc ?_ (okc ?_ (okc ?_ okn)))))))))))))
    all_goals first | omega | (simp (disch := omega) only [SS, hw, hlen, zs, zn, hk1, hk2, hk3, List.append_nil]; first | done | omega | exact ⟨hB, hr⟩ | exact ⟨by omega, hB, hr⟩ | exact ⟨Nat.le_refl _, hB, hr⟩) | exact ⟨hB, hr⟩ | (simp_all; done) | (simp_all; omega)
  case rr =>
    clear next
    try simp (disch := omega) only [SS, hw, hlen, zs, zn, hk1, hk2, hk3, List.append_nil]
    repeat' apply And.intro
    all_goals first | exact True.intro | with_reducible rfl | omega | (intros; first | exact True.intro | with_reducible rfl | omega | (simp_all; done)) | (simp_all; done) | rfl

theorem et1Lo_p0 (t0 t1 t2 t3 t4 t5 t6 t7 t8 t9 t10 t11 t12 t13 t14 t15 : List UInt8) (N : Nat) (K C O : Ix → Int) (bl : Ix → Nat) (CU : Ix → Bool) (B : Ix → Int) (w : List UInt8) (b0 : Int) (i : Nat) :
    isMore (evTill Tryd.prog sumsLLo 600 (behind Tryd.f7 0) 900 7 (headOf Tryd.f7 0) (envAt Tryd.f7.ntmps ([(0, vL 100 5 N), (3, vS (w)), (4, vN (b0)), (18, vL 100 5 N), (19, vN N), (20, vN (i : Nat))])) (allS t0 t1 t2 t3 t4 t5 t6 t7 t8 t9 t10 t11 t12 t13 t14 t15 ++ ([⟨100, false, none, 5, .ta N (.tc (.vi .i64 K) (.tc (.vi .i64 C) (.tc (.vi .i64 O) (.tc (.vl 101 (fun is => is.headD 0) 1 [] bl) (.tc (.vb CU) .t0)))))⟩] ++ [⟨101, false, some (N, fun i => bl [i]), 1, .vi .u8 B⟩]) ++ ([])) ⟨[.s true, .s true, .s true, .s true, .s false, .s true, .s true, .s true, .s true, .s true, .s false, .s false, .s false], 140⟩) (moreP (headOf Tryd.f7 0) ([]) Tryd.f7.ntmps ([(0, vL 100 5 N), (3, vS (w)), (4, vN (b0)), (18, vL 100 5 N), (19, vN N), (20, vN (i + 1 : Nat))]) ([]) 9000) =
    (OkL [(decide ((↑i : Int) < (↑N : Int)), true), (decide ((0 : Int) ≤ (↑i : Int) ∧ (↑i : Int) < (↑N : Int)), true), (((0 : Nat) + (↑i : Int).toNat).blt N, true), (((0 : Nat) + (↑i : Int).toNat).blt N, true), (decide ((↑(bl [(0 : Nat) + (↑i : Int).toNat]) : Int) > (400 : Int)), false), (((0 : Nat) + (↑i : Int).toNat).blt N, true), (((0 : Nat) + bl [(0 : Nat) + (↑i : Int).toNat]).ble (bl [(0 : Nat) + (↑i : Int).toNat]), true), (decide ((bytesOf B [(0 : Nat) + (↑i : Int).toNat] (0 : Nat) (bl [(0 : Nat) + (↑i : Int).toNat])).length ≤ (10000 : Nat)), true), (((0 : Nat) + (↑i : Int).toNat + (1 : Nat) + (N - ((0 : Nat) + (↑i : Int).toNat + (1 : Nat)))).beq N, true), (decide (bl [(0 : Nat) + (↑i : Int).toNat] ≤ bl [(0 : Nat) + (↑i : Int).toNat]) && (bndB (fun js => B (((0 : Nat) + (↑i : Int).toNat) :: js)) (bl [(0 : Nat) + (↑i : Int).toNat]) && decide (tkC (K [(0 : Nat) + (↑i : Int).toNat]) (C [(0 : Nat) + (↑i : Int).toNat]) (O [(0 : Nat) + (↑i : Int).toNat]) (bl [(0 : Nat) + (↑i : Int).toNat]) (fun js => B (((0 : Nat) + (↑i : Int).toNat) :: js)) (CU [(0 : Nat) + (↑i : Int).toNat]) = (3 : Nat))), true), (![] == tkrS (K [(0 : Nat) + (↑i : Int).toNat]) (C [(0 : Nat) + (↑i : Int).toNat]) (O [(0 : Nat) + (↑i : Int).toNat]) (bytesOf B [(0 : Nat) + (↑i : Int).toNat] (0 : Nat) (bl [(0 : Nat) + (↑i : Int).toNat])) (CU [(0 : Nat) + (↑i : Int).toNat]), false), (numOf (if true = true then (22 : Nat) else (233 : Nat)) != tkrN (K [(0 : Nat) + (↑i : Int).toNat]) (C [(0 : Nat) + (↑i : Int).toNat]) (O [(0 : Nat) + (↑i : Int).toNat]) (bytesOf B [(0 : Nat) + (↑i : Int).toNat] (0 : Nat) (bl [(0 : Nat) + (↑i : Int).toNat])) (CU [(0 : Nat) + (↑i : Int).toNat]), false), (b0 == (0 : Int), false)] ∧ headOf Tryd.f7 (0 : Nat) = headOf Tryd.f7 (0 : Nat) ∧ (((0 : Nat) = (0 : Nat) ∧ N = N) ∧ w = w ∧ b0 = b0 ∧ ((0 : Nat) = (0 : Nat) ∧ N = N) ∧ (↑N : Int) = (↑N : Int) ∧ (↑(i + (1 : Nat)) : Int) = IntKind.i64.wrap ((↑i : Int) + (1 : Int))) ∧ True) := by kernel_rfl

set_option maxHeartbeats 4000000 in
theorem et1Lo (t0 t1 t2 t3 t4 t5 t6 t7 t8 t9 t10 t11 t12 t13 t14 t15 : List UInt8) (N : Nat) (K C O : Ix → Int) (bl : Ix → Nat) (CU : Ix → Bool) (B : Ix → Int) (w : List UInt8) (b0 : Int) (i : Nat) (hi : i < N) (hN : N ≤ 30) (h4 : bl [i] ≤ 400) (hB : bndB (fun js => B (i :: js)) (bl [i]) = true) (h0 : b0 ≠ 0) (hr : tkC (K [i]) (C [i]) (O [i]) (bl [i]) (fun js => B (i :: js)) (CU [i]) = 3) (zs : tkrS (K [i]) (C [i]) (O [i]) (bytesOf B [i] 0 (bl [i])) (CU [i]) = []) (zn : tkrN (K [i]) (C [i]) (O [i]) (bytesOf B [i] 0 (bl [i])) (CU [i]) = 4)  (next : RunsTo Tryd.prog 7 (headOf Tryd.f7 0) (envAt Tryd.f7.ntmps ([(0, vL 100 5 N), (3, vS (w)), (4, vN (b0)), (18, vL 100 5 N), (19, vN N), (20, vN (i + 1 : Nat))])) (Sx.look (allS t0 t1 t2 t3 t4 t5 t6 t7 t8 t9 t10 t11 t12 t13 t14 t15 ++ ([⟨100, false, none, 5, .ta N (.tc (.vi .i64 K) (.tc (.vi .i64 C) (.tc (.vi .i64 O) (.tc (.vl 101 (fun is => is.headD 0) 1 [] bl) (.tc (.vb CU) .t0)))))⟩] ++ [⟨101, false, some (N, fun i => bl [i]), 1, .vi .u8 B⟩]) ++ ([]))) 110 (YES) (Sx.look []) 9000) :
    RunsTo Tryd.prog 7 (headOf Tryd.f7 0) (envAt Tryd.f7.ntmps ([(0, vL 100 5 N), (3, vS (w)), (4, vN (b0)), (18, vL 100 5 N), (19, vN N), (20, vN (i : Nat))])) (Sx.look (allS t0 t1 t2 t3 t4 t5 t6 t7 t8 t9 t10 t11 t12 t13 t14 t15 ++ ([⟨100, false, none, 5, .ta N (.tc (.vi .i64 K) (.tc (.vi .i64 C) (.tc (.vi .i64 O) (.tc (.vl 101 (fun is => is.headD 0) 1 [] bl) (.tc (.vb CU) .t0)))))⟩] ++ [⟨101, false, some (N, fun i => bl [i]), 1, .vi .u8 B⟩]) ++ ([]))) 110 (YES) (Sx.look []) 9000 := by
  have hw : IntKind.i64.wrap ((i : Int) + 1) = ((i + 1 : Nat) : Int) := by rw [wr64 (by omega)]; rfl
  have hlen := bytesOf_len B [i] 0 (bl [i])
  have hr' : tkC (K [i]) (C [i]) (O [i]) (bl [i]) (fun js => B ([i] ++ js)) (CU [i]) = 3 := hr
  have hk1 : numOf 20 = 9 := rfl
  have hk2 : numOf 21 = 1 := rfl
  have hk3 : numOf 22 = 4 := rfl
  refine runs_more baseLLo (More.of (et1Lo_p0 t0 t1 t2 t3 t4 t5 t6 t7 t8 t9 t10 t11 t12 t13 t14 t15 N K C O bl CU B w b0 i) ⟨?oo, rfl, ?rr⟩) (by kernel_rfl) (by kernel_rfl) rfl (gtL (by decide)) (by decide) next
  case oo =>
    clear next
    refine (okc ?_ (okc ?_ (okc ?_ (okc ?_ (okc ?_ (okc ?_ (okc ?_ (okc ?_ (okc ?_ (okc ?_ (okc ?_ (okc ?_ (okc ?_ okn)))))))))))))
    all_goals first | omega | (simp (disch := omega) only [SS, hw, hlen, zs, zn, hk1, hk2, hk3, List.append_nil]; first | done | omega | exact ⟨hB, hr⟩ | exact ⟨by omega, hB, hr⟩ | exact ⟨Nat.le_refl _, hB, hr⟩) | exact ⟨hB, hr⟩ | (simp_all; done) | (simp_all; omega)
  case rr =>
    clear next
    try simp (disch := omega) only [SS, hw, hlen, zs, zn, hk1, hk2, hk3, List.append_nil]
    repeat' apply And.intro
    all_goals first | exact True.intro | with_reducible rfl | omega | (intros; first | exact True.intro | with_reducible rfl | omega | (simp_all; done)) | (simp_all; done) | rfl

theorem etEOk_p0 (t0 t1 t2 t3 t4 t5 t6 t7 t8 t9 t10 t11 t12 t13 t14 t15 : List UInt8) (N : Nat) (K C O : Ix → Int) (bl : Ix → Nat) (CU : Ix → Bool) (B : Ix → Int) (w : List UInt8) (i : Nat) :
    isEnd (evTill Tryd.prog sumsLOk 600 (99) 900 7 (headOf Tryd.f7 0) (envAt Tryd.f7.ntmps ([(0, vL 100 5 N), (3, vS (w)), (4, vN (0)), (18, vL 100 5 N), (19, vN N), (20, vN (i : Nat))])) (allS t0 t1 t2 t3 t4 t5 t6 t7 t8 t9 t10 t11 t12 t13 t14 t15 ++ ([⟨100, false, none, 5, .ta N (.tc (.vi .i64 K) (.tc (.vi .i64 C) (.tc (.vi .i64 O) (.tc (.vl 101 (fun is => is.headD 0) 1 [] bl) (.tc (.vb CU) .t0)))))⟩] ++ [⟨101, false, some (N, fun i => bl [i]), 1, .vi .u8 B⟩]) ++ ([])) ⟨[.s false, .f, .s true, .s true, .s true, .s true], 140⟩) (endP ([]) (YES) ([]) 9000) =
    (OkL [(decide ((↑i : Int) < (↑N : Int)), false), (N.beq N, true), (decide (N ≤ (1000 : Nat)) && (okRow N N (fun is => List.headD is (0 : Nat)) bl (fun i => bl [i]) B && decide (alE K C O (fun is => List.headD is (0 : Nat)) bl CU B N (0 : Nat) = (0 : Nat))), true), (((0 : Nat) + (alB K C O (fun is => List.headD is (0 : Nat)) bl CU B N).length).ble (alB K C O (fun is => List.headD is (0 : Nat)) bl CU B N).length, true), (bytesOf (fun is => (↑((alB K C O (fun is => List.headD is (0 : Nat)) bl CU B N).getD (List.headD is (0 : Nat)) (0 : UInt8)).toNat : Int)) [] (0 : Nat) (alB K C O (fun is => List.headD is (0 : Nat)) bl CU B N).length == w, true)] ∧ true = true ∧ True) := by kernel_rfl

set_option maxHeartbeats 4000000 in
theorem etEOk (t0 t1 t2 t3 t4 t5 t6 t7 t8 t9 t10 t11 t12 t13 t14 t15 : List UInt8) (N : Nat) (K C O : Ix → Int) (bl : Ix → Nat) (CU : Ix → Bool) (B : Ix → Int) (w : List UInt8) (i : Nat) (hi : i = N) (hN : N ≤ 30) (hok : okRow N N (fun is => is.headD 0) bl (fun i => bl [i]) B = true) (he : alE K C O (fun is => is.headD 0) bl CU B N 0 = 0) (hw : alB K C O (fun is => is.headD 0) bl CU B N = w) (hwl : w.length ≤ 30000)  :
    RunsTo Tryd.prog 7 (headOf Tryd.f7 0) (envAt Tryd.f7.ntmps ([(0, vL 100 5 N), (3, vS (w)), (4, vN (0)), (18, vL 100 5 N), (19, vN N), (20, vN (i : Nat))])) (Sx.look (allS t0 t1 t2 t3 t4 t5 t6 t7 t8 t9 t10 t11 t12 t13 t14 t15 ++ ([⟨100, false, none, 5, .ta N (.tc (.vi .i64 K) (.tc (.vi .i64 C) (.tc (.vi .i64 O) (.tc (.vl 101 (fun is => is.headD 0) 1 [] bl) (.tc (.vb CU) .t0)))))⟩] ++ [⟨101, false, some (N, fun i => bl [i]), 1, .vi .u8 B⟩]) ++ ([]))) 110 (YES) (Sx.look ([])) 9000 := by
  have hk1 : numOf 20 = 9 := rfl
  have hk2 : numOf 21 = 1 := rfl
  have hk3 : numOf 22 = 4 := rfl
  have hby := bytesOf_full w
  refine runs_last baseLOk (Sx.Ends.of (etEOk_p0 t0 t1 t2 t3 t4 t5 t6 t7 t8 t9 t10 t11 t12 t13 t14 t15 N K C O bl CU B w i) ⟨?oo, ?rr⟩) (by kernel_rfl) rfl (gtL (by decide)) (by decide)
  case oo =>
    refine (okc ?_ (okc ?_ (okc ?_ (okc ?_ (okc ?_ okn)))))
    all_goals first | omega | exact ⟨hok, he⟩ | (simp (disch := omega) only [SS, hk1, hk2, hk3, hby, hw]; first | done | omega | exact ⟨hok, he⟩ | exact ⟨by omega, hok, he⟩) | (simp_all; done) | (simp_all; omega)
  case rr =>
    try simp (disch := omega) only [SS, hk1, hk2, hk3, hby, hw]
    repeat' apply And.intro
    all_goals first | exact True.intro | with_reducible rfl | omega | (intros; first | exact True.intro | with_reducible rfl | omega | (simp_all; done)) | (simp_all; done) | rfl

theorem etEKi_p0 (t0 t1 t2 t3 t4 t5 t6 t7 t8 t9 t10 t11 t12 t13 t14 t15 : List UInt8) (N : Nat) (K C O : Ix → Int) (bl : Ix → Nat) (CU : Ix → Bool) (B : Ix → Int) (w : List UInt8) (i : Nat) :
    isEnd (evTill Tryd.prog sumsLKi 600 (99) 900 7 (headOf Tryd.f7 0) (envAt Tryd.f7.ntmps ([(0, vL 100 5 N), (3, vS (w)), (4, vN (9)), (18, vL 100 5 N), (19, vN N), (20, vN (i : Nat))])) (allS t0 t1 t2 t3 t4 t5 t6 t7 t8 t9 t10 t11 t12 t13 t14 t15 ++ ([⟨100, false, none, 5, .ta N (.tc (.vi .i64 K) (.tc (.vi .i64 C) (.tc (.vi .i64 O) (.tc (.vl 101 (fun is => is.headD 0) 1 [] bl) (.tc (.vb CU) .t0)))))⟩] ++ [⟨101, false, some (N, fun i => bl [i]), 1, .vi .u8 B⟩]) ++ ([])) ⟨[.s false, .t, .s true, .s true, .t], 140⟩) (endP ([]) (YES) ([]) 9000) =
    (OkL [(decide ((↑i : Int) < (↑N : Int)), false), (N.beq N, true), (decide (N ≤ (1000 : Nat)) && (okRow N N (fun is => List.headD is (0 : Nat)) bl (fun i => bl [i]) B && decide (alE K C O (fun is => List.headD is (0 : Nat)) bl CU B N (0 : Nat) = (1 : Nat))), true)] ∧ true = (numOf (if true = true then (20 : Nat) else (140 : Nat)) == (9 : Int)) ∧ True) := by kernel_rfl

set_option maxHeartbeats 4000000 in
theorem etEKi (t0 t1 t2 t3 t4 t5 t6 t7 t8 t9 t10 t11 t12 t13 t14 t15 : List UInt8) (N : Nat) (K C O : Ix → Int) (bl : Ix → Nat) (CU : Ix → Bool) (B : Ix → Int) (w : List UInt8) (i : Nat) (hi : i = N) (hN : N ≤ 30) (hok : okRow N N (fun is => is.headD 0) bl (fun i => bl [i]) B = true) (he : alE K C O (fun is => is.headD 0) bl CU B N 0 = 1)  :
    RunsTo Tryd.prog 7 (headOf Tryd.f7 0) (envAt Tryd.f7.ntmps ([(0, vL 100 5 N), (3, vS (w)), (4, vN (9)), (18, vL 100 5 N), (19, vN N), (20, vN (i : Nat))])) (Sx.look (allS t0 t1 t2 t3 t4 t5 t6 t7 t8 t9 t10 t11 t12 t13 t14 t15 ++ ([⟨100, false, none, 5, .ta N (.tc (.vi .i64 K) (.tc (.vi .i64 C) (.tc (.vi .i64 O) (.tc (.vl 101 (fun is => is.headD 0) 1 [] bl) (.tc (.vb CU) .t0)))))⟩] ++ [⟨101, false, some (N, fun i => bl [i]), 1, .vi .u8 B⟩]) ++ ([]))) 110 (YES) (Sx.look ([])) 9000 := by
  have hk1 : numOf 20 = 9 := rfl
  have hk2 : numOf 21 = 1 := rfl
  have hk3 : numOf 22 = 4 := rfl
  refine runs_last baseLKi (Sx.Ends.of (etEKi_p0 t0 t1 t2 t3 t4 t5 t6 t7 t8 t9 t10 t11 t12 t13 t14 t15 N K C O bl CU B w i) ⟨?oo, ?rr⟩) (by kernel_rfl) rfl (gtL (by decide)) (by decide)
  case oo =>
    refine (okc ?_ (okc ?_ (okc ?_ okn)))
    all_goals first | omega | exact ⟨hok, he⟩ | (simp (disch := omega) only [SS, hk1, hk2, hk3]; first | done | omega | exact ⟨hok, he⟩ | exact ⟨by omega, hok, he⟩) | (simp_all; done) | (simp_all; omega)
  case rr =>
    try simp (disch := omega) only [SS, hk1, hk2, hk3]
    repeat' apply And.intro
    all_goals first | exact True.intro | with_reducible rfl | omega | (intros; first | exact True.intro | with_reducible rfl | omega | (simp_all; done)) | (simp_all; done) | rfl

theorem etERa_p0 (t0 t1 t2 t3 t4 t5 t6 t7 t8 t9 t10 t11 t12 t13 t14 t15 : List UInt8) (N : Nat) (K C O : Ix → Int) (bl : Ix → Nat) (CU : Ix → Bool) (B : Ix → Int) (w : List UInt8) (i : Nat) :
    isEnd (evTill Tryd.prog sumsLRa 600 (99) 900 7 (headOf Tryd.f7 0) (envAt Tryd.f7.ntmps ([(0, vL 100 5 N), (3, vS (w)), (4, vN (1)), (18, vL 100 5 N), (19, vN N), (20, vN (i : Nat))])) (allS t0 t1 t2 t3 t4 t5 t6 t7 t8 t9 t10 t11 t12 t13 t14 t15 ++ ([⟨100, false, none, 5, .ta N (.tc (.vi .i64 K) (.tc (.vi .i64 C) (.tc (.vi .i64 O) (.tc (.vl 101 (fun is => is.headD 0) 1 [] bl) (.tc (.vb CU) .t0)))))⟩] ++ [⟨101, false, some (N, fun i => bl [i]), 1, .vi .u8 B⟩]) ++ ([])) ⟨[.s false, .t, .s true, .s true, .t], 140⟩) (endP ([]) (YES) ([]) 9000) =
    (OkL [(decide ((↑i : Int) < (↑N : Int)), false), (N.beq N, true), (decide (N ≤ (1000 : Nat)) && (okRow N N (fun is => List.headD is (0 : Nat)) bl (fun i => bl [i]) B && decide (alE K C O (fun is => List.headD is (0 : Nat)) bl CU B N (0 : Nat) = (2 : Nat))), true)] ∧ true = (numOf (if true = true then (21 : Nat) else (140 : Nat)) == (1 : Int)) ∧ True) := by kernel_rfl

set_option maxHeartbeats 4000000 in
theorem etERa (t0 t1 t2 t3 t4 t5 t6 t7 t8 t9 t10 t11 t12 t13 t14 t15 : List UInt8) (N : Nat) (K C O : Ix → Int) (bl : Ix → Nat) (CU : Ix → Bool) (B : Ix → Int) (w : List UInt8) (i : Nat) (hi : i = N) (hN : N ≤ 30) (hok : okRow N N (fun is => is.headD 0) bl (fun i => bl [i]) B = true) (he : alE K C O (fun is => is.headD 0) bl CU B N 0 = 2)  :
    RunsTo Tryd.prog 7 (headOf Tryd.f7 0) (envAt Tryd.f7.ntmps ([(0, vL 100 5 N), (3, vS (w)), (4, vN (1)), (18, vL 100 5 N), (19, vN N), (20, vN (i : Nat))])) (Sx.look (allS t0 t1 t2 t3 t4 t5 t6 t7 t8 t9 t10 t11 t12 t13 t14 t15 ++ ([⟨100, false, none, 5, .ta N (.tc (.vi .i64 K) (.tc (.vi .i64 C) (.tc (.vi .i64 O) (.tc (.vl 101 (fun is => is.headD 0) 1 [] bl) (.tc (.vb CU) .t0)))))⟩] ++ [⟨101, false, some (N, fun i => bl [i]), 1, .vi .u8 B⟩]) ++ ([]))) 110 (YES) (Sx.look ([])) 9000 := by
  have hk1 : numOf 20 = 9 := rfl
  have hk2 : numOf 21 = 1 := rfl
  have hk3 : numOf 22 = 4 := rfl
  refine runs_last baseLRa (Sx.Ends.of (etERa_p0 t0 t1 t2 t3 t4 t5 t6 t7 t8 t9 t10 t11 t12 t13 t14 t15 N K C O bl CU B w i) ⟨?oo, ?rr⟩) (by kernel_rfl) rfl (gtL (by decide)) (by decide)
  case oo =>
    refine (okc ?_ (okc ?_ (okc ?_ okn)))
    all_goals first | omega | exact ⟨hok, he⟩ | (simp (disch := omega) only [SS, hk1, hk2, hk3]; first | done | omega | exact ⟨hok, he⟩ | exact ⟨by omega, hok, he⟩) | (simp_all; done) | (simp_all; omega)
  case rr =>
    try simp (disch := omega) only [SS, hk1, hk2, hk3]
    repeat' apply And.intro
    all_goals first | exact True.intro | with_reducible rfl | omega | (intros; first | exact True.intro | with_reducible rfl | omega | (simp_all; done)) | (simp_all; done) | rfl

theorem etELo_p0 (t0 t1 t2 t3 t4 t5 t6 t7 t8 t9 t10 t11 t12 t13 t14 t15 : List UInt8) (N : Nat) (K C O : Ix → Int) (bl : Ix → Nat) (CU : Ix → Bool) (B : Ix → Int) (w : List UInt8) (i : Nat) :
    isEnd (evTill Tryd.prog sumsLLo 600 (99) 900 7 (headOf Tryd.f7 0) (envAt Tryd.f7.ntmps ([(0, vL 100 5 N), (3, vS (w)), (4, vN (4)), (18, vL 100 5 N), (19, vN N), (20, vN (i : Nat))])) (allS t0 t1 t2 t3 t4 t5 t6 t7 t8 t9 t10 t11 t12 t13 t14 t15 ++ ([⟨100, false, none, 5, .ta N (.tc (.vi .i64 K) (.tc (.vi .i64 C) (.tc (.vi .i64 O) (.tc (.vl 101 (fun is => is.headD 0) 1 [] bl) (.tc (.vb CU) .t0)))))⟩] ++ [⟨101, false, some (N, fun i => bl [i]), 1, .vi .u8 B⟩]) ++ ([])) ⟨[.s false, .t, .s true, .s true, .t], 140⟩) (endP ([]) (YES) ([]) 9000) =
    (OkL [(decide ((↑i : Int) < (↑N : Int)), false), (N.beq N, true), (decide (N ≤ (1000 : Nat)) && (okRow N N (fun is => List.headD is (0 : Nat)) bl (fun i => bl [i]) B && decide (alE K C O (fun is => List.headD is (0 : Nat)) bl CU B N (0 : Nat) = (3 : Nat))), true)] ∧ true = (numOf (if true = true then (22 : Nat) else (140 : Nat)) == (4 : Int)) ∧ True) := by kernel_rfl

set_option maxHeartbeats 4000000 in
theorem etELo (t0 t1 t2 t3 t4 t5 t6 t7 t8 t9 t10 t11 t12 t13 t14 t15 : List UInt8) (N : Nat) (K C O : Ix → Int) (bl : Ix → Nat) (CU : Ix → Bool) (B : Ix → Int) (w : List UInt8) (i : Nat) (hi : i = N) (hN : N ≤ 30) (hok : okRow N N (fun is => is.headD 0) bl (fun i => bl [i]) B = true) (he : alE K C O (fun is => is.headD 0) bl CU B N 0 = 3)  :
    RunsTo Tryd.prog 7 (headOf Tryd.f7 0) (envAt Tryd.f7.ntmps ([(0, vL 100 5 N), (3, vS (w)), (4, vN (4)), (18, vL 100 5 N), (19, vN N), (20, vN (i : Nat))])) (Sx.look (allS t0 t1 t2 t3 t4 t5 t6 t7 t8 t9 t10 t11 t12 t13 t14 t15 ++ ([⟨100, false, none, 5, .ta N (.tc (.vi .i64 K) (.tc (.vi .i64 C) (.tc (.vi .i64 O) (.tc (.vl 101 (fun is => is.headD 0) 1 [] bl) (.tc (.vb CU) .t0)))))⟩] ++ [⟨101, false, some (N, fun i => bl [i]), 1, .vi .u8 B⟩]) ++ ([]))) 110 (YES) (Sx.look ([])) 9000 := by
  have hk1 : numOf 20 = 9 := rfl
  have hk2 : numOf 21 = 1 := rfl
  have hk3 : numOf 22 = 4 := rfl
  refine runs_last baseLLo (Sx.Ends.of (etELo_p0 t0 t1 t2 t3 t4 t5 t6 t7 t8 t9 t10 t11 t12 t13 t14 t15 N K C O bl CU B w i) ⟨?oo, ?rr⟩) (by kernel_rfl) rfl (gtL (by decide)) (by decide)
  case oo =>
    refine (okc ?_ (okc ?_ (okc ?_ okn)))
    all_goals first | omega | exact ⟨hok, he⟩ | (simp (disch := omega) only [SS, hk1, hk2, hk3]; first | done | omega | exact ⟨hok, he⟩ | exact ⟨by omega, hok, he⟩) | (simp_all; done) | (simp_all; omega)
  case rr =>
    try simp (disch := omega) only [SS, hk1, hk2, hk3]
    repeat' apply And.intro
    all_goals first | exact True.intro | with_reducible rfl | omega | (intros; first | exact True.intro | with_reducible rfl | omega | (simp_all; done)) | (simp_all; done) | rfl

end Go.Proofs.YtcphocfnhekdaaaDoor

set_option linter.unusedSimpArgs false
set_option linter.unusedVariables false
set_option maxRecDepth 100000
namespace Go.Proofs.YtcphocfnhekdaaaDoor
open Go.Sx GramR

def numE : Nat → Int | 0 => 0 | 1 => 9 | 2 => 1 | _ => 4
def erqAt (K C O : Ix → Int) (m n : Ix → Nat) (CU : Ix → Bool) (F : Ix → Int) (i : Nat) : Nat := match tkAt K C O m n CU F i with | .inl _ => 0 | .inr e => e
theorem alE_step (K C O : Ix → Int) (m n : Ix → Nat) (CU : Ix → Bool) (F : Ix → Int) : ∀ k j, alE K C O m n CU F (k + 1) j = if alE K C O m n CU F k j = 0 then erqAt K C O m n CU F (j + k) else alE K C O m n CU F k j
  | 0, j => by
    rw [show alE K C O m n CU F 0 j = 0 from rfl, if_pos rfl]
    simp only [alE, erqAt, Nat.add_zero]
    cases tkAt K C O m n CU F j <;> rfl
  | k + 1, j => by
    have ih := alE_step K C O m n CU F k (j + 1)
    rw [show j + (k + 1) = j + 1 + k by omega]
    rw [alE, show alE K C O m n CU F (k + 1) j = (match tkAt K C O m n CU F j with | .inl _ => alE K C O m n CU F k (j + 1) | .inr e => e) from rfl]
    cases hz : tkAt K C O m n CU F j with
    | inl l => exact ih
    | inr e => simp only; rw [if_neg (tkR_le hz).1]
theorem erqAt_le (K C O : Ix → Int) (m n : Ix → Nat) (CU : Ix → Bool) (F : Ix → Int) (i : Nat) : erqAt K C O m n CU F i ≤ 3 := by
  unfold erqAt
  cases hz : tkAt K C O m n CU F i with
  | inl l => exact Nat.zero_le _
  | inr e => exact (tkR_le hz).2
theorem alE_le (K C O : Ix → Int) (m n : Ix → Nat) (CU : Ix → Bool) (F : Ix → Int) : ∀ k j, alE K C O m n CU F k j ≤ 3
  | 0, j => Nat.zero_le _
  | k + 1, j => by
    rw [alE_step]
    split
    · exact erqAt_le ..
    · exact alE_le K C O m n CU F k j
theorem alB_len (K C O : Ix → Int) (m n : Ix → Nat) (CU : Ix → Bool) (F : Ix → Int) : ∀ i, (alB K C O m n CU F i).length ≤ 517 * i
  | 0 => by simp [alB]
  | i + 1 => by
    have := alB_len K C O m n CU F i
    have h : (theB (tkAt K C O m n CU F i)).length ≤ 517 := tkR_len
    simp only [alB, List.length_append]; omega
theorem emitTokens_law (t0 t1 t2 t3 t4 t5 t6 t7 t8 t9 t10 t11 t12 t13 t14 t15 : List UInt8) (N : Nat) (K C O : Ix → Int) (bl : Ix → Nat) (CU : Ix → Bool) (B : Ix → Int) (hB : ∀ i, i < N → ∀ j, j < bl [i] → 0 ≤ B [i, j] ∧ B [i, j] < 256) : RunsTo Tryd.prog 7 [.code (bodyOf Tryd.f7)] (envOf [vL 100 5 N] Tryd.f7.ntmps) (Sx.look (allS t0 t1 t2 t3 t4 t5 t6 t7 t8 t9 t10 t11 t12 t13 t14 t15 ++ ([⟨100, false, none, 5, .ta N (.tc (.vi .i64 K) (.tc (.vi .i64 C) (.tc (.vi .i64 O) (.tc (.vl 101 (fun is => is.headD 0) 1 [] bl) (.tc (.vb CU) .t0)))))⟩] ++ [⟨101, false, some (N, fun i => bl [i]), 1, .vi .u8 B⟩]) ++ ([]))) 110 (YES) (Sx.look []) 9000 := by
  by_cases hN : 30 < N
  · exact etLong t0 t1 t2 t3 t4 t5 t6 t7 t8 t9 t10 t11 t12 t13 t14 t15 N K C O bl CU B hN
  have hN : N ≤ 30 := by omega
  refine etStart t0 t1 t2 t3 t4 t5 t6 t7 t8 t9 t10 t11 t12 t13 t14 t15 N K C O bl CU B hN ?_
  suffices q : ∀ (k i : Nat) (w : List UInt8), i + k = N → (∀ j, j < i → bl [j] ≤ 400) → (alE K C O (fun is => is.headD 0) bl CU B i 0 = 0 → w = alB K C O (fun is => is.headD 0) bl CU B i) → RunsTo Tryd.prog 7 (headOf Tryd.f7 0) (envAt Tryd.f7.ntmps ([(0, vL 100 5 N), (3, vS (w)), (4, vN (numE (alE K C O (fun is => is.headD 0) bl CU B i 0))), (18, vL 100 5 N), (19, vN N), (20, vN (i : Nat))])) (Sx.look (allS t0 t1 t2 t3 t4 t5 t6 t7 t8 t9 t10 t11 t12 t13 t14 t15 ++ ([⟨100, false, none, 5, .ta N (.tc (.vi .i64 K) (.tc (.vi .i64 C) (.tc (.vi .i64 O) (.tc (.vl 101 (fun is => is.headD 0) 1 [] bl) (.tc (.vb CU) .t0)))))⟩] ++ [⟨101, false, some (N, fun i => bl [i]), 1, .vi .u8 B⟩]) ++ ([]))) 110 (YES) (Sx.look []) 9000 from q N 0 [] (by omega) (fun j hj => by omega) (fun _ => rfl)
  intro k
  induction k with
  | zero =>
    intro i w hi h4 hw
    have e : i = N := by omega
    have hok : okRow N N (fun is => is.headD 0) bl (fun i => bl [i]) B = true := List.all_eq_true.2 fun j hj => by
      have hj := List.mem_range.1 hj
      have h5 := h4 j (by omega)
      show (decide (j < N ∧ bl [j] ≤ bl [j] ∧ bl [j] ≤ 1000) && bndB (fun js => B ([j] ++ js)) (bl [j])) = true
      exact Bool.and_eq_true_iff.2 ⟨decide_eq_true ⟨hj, Nat.le_refl _, by omega⟩, bndB_of fun x hx => hB j hj x hx⟩
    have h3 := alE_le K C O (fun is => is.headD 0) bl CU B i 0
    have hl := alB_len K C O (fun is => is.headD 0) bl CU B i
    rcases (show alE K C O (fun is => is.headD 0) bl CU B i 0 = 0 ∨ alE K C O (fun is => is.headD 0) bl CU B i 0 = 1 ∨ alE K C O (fun is => is.headD 0) bl CU B i 0 = 2 ∨ alE K C O (fun is => is.headD 0) bl CU B i 0 = 3 by omega) with h | h | h | h
    · rw [h]; exact etEOk t0 t1 t2 t3 t4 t5 t6 t7 t8 t9 t10 t11 t12 t13 t14 t15 N K C O bl CU B w i e hN hok (by rw [← e]; exact h) (by rw [← e]; exact (hw h).symm) (by rw [hw h]; omega)
    · rw [h]; exact etEKi t0 t1 t2 t3 t4 t5 t6 t7 t8 t9 t10 t11 t12 t13 t14 t15 N K C O bl CU B w i e hN hok (by rw [← e]; exact h)
    · rw [h]; exact etERa t0 t1 t2 t3 t4 t5 t6 t7 t8 t9 t10 t11 t12 t13 t14 t15 N K C O bl CU B w i e hN hok (by rw [← e]; exact h)
    · rw [h]; exact etELo t0 t1 t2 t3 t4 t5 t6 t7 t8 t9 t10 t11 t12 t13 t14 t15 N K C O bl CU B w i e hN hok (by rw [← e]; exact h)
  | succ k ih =>
    intro i w hi h4 hw
    by_cases hb : 400 < bl [i]
    · exact etBody t0 t1 t2 t3 t4 t5 t6 t7 t8 t9 t10 t11 t12 t13 t14 t15 N K C O bl CU B w _ i (by omega) hb
    have hB' : bndB (fun js => B (i :: js)) (bl [i]) = true := bndB_of fun x hx => hB i (by omega) x hx
    have h5 : ∀ j, j < i + 1 → bl [j] ≤ 400 := fun j hj => by
      by_cases q : j = i
      · subst q; omega
      · exact h4 j (by omega)
    have hs := alE_step K C O (fun is => is.headD 0) bl CU B i 0
    rw [Nat.zero_add] at hs
    have hl := alB_len K C O (fun is => is.headD 0) bl CU B i
    have hl1 : (theB (tkAt K C O (fun is => is.headD 0) bl CU B i)).length ≤ 517 := tkR_len
    by_cases h0 : alE K C O (fun is => is.headD 0) bl CU B i 0 = 0
    · have hw := hw h0
      rw [if_pos h0] at hs
      cases hz : tkAt K C O (fun is => is.headD 0) bl CU B i with
      | inl l =>
        rw [hz] at hl1
        have hl2 : l.length ≤ 517 := hl1
        have hs : alE K C O (fun is => is.headD 0) bl CU B (i + 1) 0 = 0 := by rw [hs]; unfold erqAt; rw [hz]
        have q := ih (i + 1) (w ++ l) (by omega) h5 (fun _ => by rw [alB, hz, hw]; rfl)
        rw [hs] at q
        rw [h0]
        exact et0Ok t0 t1 t2 t3 t4 t5 t6 t7 t8 t9 t10 t11 t12 t13 t14 t15 N K C O bl CU B w l i (by omega) hN (by omega) hB' (by rw [hw]; omega) (by show (match tkAt K C O (fun is => is.headD 0) bl CU B i with | .inl _ => 0 | .inr e => e) = 0; rw [hz]) (by show theB (tkAt K C O (fun is => is.headD 0) bl CU B i) = l; rw [hz]; rfl) (by show erN (tkAt K C O (fun is => is.headD 0) bl CU B i) = 0; rw [hz]; rfl) (by show theB (tkAt K C O (fun is => is.headD 0) bl CU B i) = l; rw [hz]; rfl) (by omega) q
      | inr e =>
        have hs : alE K C O (fun is => is.headD 0) bl CU B (i + 1) 0 = e := by rw [hs]; unfold erqAt; rw [hz]
        have hle := tkR_le hz
        have q := ih (i + 1) w (by omega) h5 (fun h => absurd (hs.symm.trans h) hle.1)
        rw [hs] at q
        rw [h0]
        rcases (show e = 1 ∨ e = 2 ∨ e = 3 by omega) with he | he | he
        · subst he; exact et0Ki t0 t1 t2 t3 t4 t5 t6 t7 t8 t9 t10 t11 t12 t13 t14 t15 N K C O bl CU B w i (by omega) hN (by omega) hB' (by rw [hw]; omega) (by show (match tkAt K C O (fun is => is.headD 0) bl CU B i with | .inl _ => 0 | .inr e => e) = 1; rw [hz]) (by show theB (tkAt K C O (fun is => is.headD 0) bl CU B i) = []; rw [hz]; rfl) (by show erN (tkAt K C O (fun is => is.headD 0) bl CU B i) = 9; rw [hz]; rfl) q
        · subst he; exact et0Ra t0 t1 t2 t3 t4 t5 t6 t7 t8 t9 t10 t11 t12 t13 t14 t15 N K C O bl CU B w i (by omega) hN (by omega) hB' (by rw [hw]; omega) (by show (match tkAt K C O (fun is => is.headD 0) bl CU B i with | .inl _ => 0 | .inr e => e) = 2; rw [hz]) (by show theB (tkAt K C O (fun is => is.headD 0) bl CU B i) = []; rw [hz]; rfl) (by show erN (tkAt K C O (fun is => is.headD 0) bl CU B i) = 1; rw [hz]; rfl) q
        · subst he; exact et0Lo t0 t1 t2 t3 t4 t5 t6 t7 t8 t9 t10 t11 t12 t13 t14 t15 N K C O bl CU B w i (by omega) hN (by omega) hB' (by rw [hw]; omega) (by show (match tkAt K C O (fun is => is.headD 0) bl CU B i with | .inl _ => 0 | .inr e => e) = 3; rw [hz]) (by show theB (tkAt K C O (fun is => is.headD 0) bl CU B i) = []; rw [hz]; rfl) (by show erN (tkAt K C O (fun is => is.headD 0) bl CU B i) = 4; rw [hz]; rfl) q
    · rw [if_neg h0] at hs
      have hn : numE (alE K C O (fun is => is.headD 0) bl CU B i 0) ≠ 0 := by
        have h3 := alE_le K C O (fun is => is.headD 0) bl CU B i 0
        rcases (show alE K C O (fun is => is.headD 0) bl CU B i 0 = 1 ∨ alE K C O (fun is => is.headD 0) bl CU B i 0 = 2 ∨ alE K C O (fun is => is.headD 0) bl CU B i 0 = 3 by omega) with h | h | h <;> rw [h] <;> decide
      have q := ih (i + 1) w (by omega) h5 (fun h => absurd (hs.symm.trans h) h0)
      rw [hs] at q
      generalize numE (alE K C O (fun is => is.headD 0) bl CU B i 0) = b0 at *
      cases hz : tkAt K C O (fun is => is.headD 0) bl CU B i with
      | inl l =>
        rw [hz] at hl1
        have hl2 : l.length ≤ 517 := hl1
        exact et1Ok t0 t1 t2 t3 t4 t5 t6 t7 t8 t9 t10 t11 t12 t13 t14 t15 N K C O bl CU B w l b0 i (by omega) hN (by omega) hB' hn (by show (match tkAt K C O (fun is => is.headD 0) bl CU B i with | .inl _ => 0 | .inr e => e) = 0; rw [hz]) (by show theB (tkAt K C O (fun is => is.headD 0) bl CU B i) = l; rw [hz]; rfl) (by show erN (tkAt K C O (fun is => is.headD 0) bl CU B i) = 0; rw [hz]; rfl) (by show theB (tkAt K C O (fun is => is.headD 0) bl CU B i) = l; rw [hz]; rfl) (by omega) q
      | inr e =>
        have hle := tkR_le hz
        rcases (show e = 1 ∨ e = 2 ∨ e = 3 by omega) with he | he | he
        · subst he; exact et1Ki t0 t1 t2 t3 t4 t5 t6 t7 t8 t9 t10 t11 t12 t13 t14 t15 N K C O bl CU B w b0 i (by omega) hN (by omega) hB' hn (by show (match tkAt K C O (fun is => is.headD 0) bl CU B i with | .inl _ => 0 | .inr e => e) = 1; rw [hz]) (by show theB (tkAt K C O (fun is => is.headD 0) bl CU B i) = []; rw [hz]; rfl) (by show erN (tkAt K C O (fun is => is.headD 0) bl CU B i) = 9; rw [hz]; rfl) q
        · subst he; exact et1Ra t0 t1 t2 t3 t4 t5 t6 t7 t8 t9 t10 t11 t12 t13 t14 t15 N K C O bl CU B w b0 i (by omega) hN (by omega) hB' hn (by show (match tkAt K C O (fun is => is.headD 0) bl CU B i with | .inl _ => 0 | .inr e => e) = 2; rw [hz]) (by show theB (tkAt K C O (fun is => is.headD 0) bl CU B i) = []; rw [hz]; rfl) (by show erN (tkAt K C O (fun is => is.headD 0) bl CU B i) = 1; rw [hz]; rfl) q
        · subst he; exact et1Lo t0 t1 t2 t3 t4 t5 t6 t7 t8 t9 t10 t11 t12 t13 t14 t15 N K C O bl CU B w b0 i (by omega) hN (by omega) hB' hn (by show (match tkAt K C O (fun is => is.headD 0) bl CU B i with | .inl _ => 0 | .inr e => e) = 3; rw [hz]) (by show theB (tkAt K C O (fun is => is.headD 0) bl CU B i) = []; rw [hz]; rfl) (by show erN (tkAt K C O (fun is => is.headD 0) bl CU B i) = 4; rw [hz]; rfl) q
theorem tok_bytes {W : World} {v : Value} (h : (Sh.sl (.tc (.ki .i64) (.tc (.ki .i64) (.tc (.ki .i64) (.tc (.sl (.ki .u8)) (.tc .kb .t0)))))).Is W [v]) {g : Rd} {o : Nat} (hg : g [] o = v) :
    ∀ i, i < lenOf v → ∀ j, j < lenOf (rdOf W 5 g o [i] 3) → 0 ≤ Sx.intOf (rdOf W 1 (rdOf W 5 g o) 3 [i, j] 0) ∧ Sx.intOf (rdOf W 1 (rdOf W 5 g o) 3 [i, j] 0) < 256 := by
  obtain ⟨v', hv', _, _, _, _, hrows⟩ := h
  have hv' : v = v' := by simpa using hv'
  subst hv'
  intro i hi j hj
  obtain ⟨_, _, e, _, ⟨a, rfl, _⟩, _, _, rfl, _, ⟨b, rfl, _⟩, _, _, rfl, _, ⟨c, rfl, _⟩, _, r5, rfl, _, hu, _⟩ := hrows i hi
  have hrd : ∀ j, rdOf W 5 g o [i] j = (rowsOf W 5 v i).getD j undef := fun j => by
    have : rdOf W 5 g o [i] j = (rowsOf W 5 (g [] o) i).getD j undef := rfl
    rw [this, hg]
  obtain ⟨u, hu', _, _, _, _, hbytes⟩ := hu
  subst hu'
  have e3 : rowsOf W 5 v i = .int .i64 a :: .int .i64 b :: .int .i64 c :: u :: r5 := e
  have h2 : rdOf W 5 g o [i] 3 = u := by rw [hrd, e3]; rfl
  rw [h2] at hj
  obtain ⟨n, hn, hwf⟩ := hbytes j hj
  have h3 : rdOf W 1 (rdOf W 5 g o) 3 [i, j] 0 = .int .u8 n := by
    have : rdOf W 1 (rdOf W 5 g o) 3 [i, j] 0 = (rowsOf W 1 (rdOf W 5 g o [i] 3) j).getD 0 undef := rfl
    rw [this, h2]
    have e1 : (Sh.ki .u8).size = 1 := rfl
    rw [e1] at hn
    rw [hn]; rfl
  rw [h3]
  exact bnd_u8 hwf
end Go.Proofs.YtcphocfnhekdaaaDoor

set_option maxRecDepth 100000
set_option linter.unusedSimpArgs false
set_option linter.unusedVariables false
namespace Go.Proofs.YtcphocfnhekdaaaDoor
open Go.ChangeShapes Go.WideShapes Go.ChangeAt Go.RowKit
open Go.Sx

theorem emitTokens_sh : shsOf Tryd.prog Tryd.f7.params.toList = some [.sl (.tc (.ki .i64) (.tc (.ki .i64) (.tc (.ki .i64) (.tc (.sl (.ki .u8)) (.tc .kb .t0)))))] := by kernel_rfl

theorem emitTokens_star : "*" ++ "errors.errorString" = "*errors.errorString" := by decide
theorem emitTokens_row (u : TypeId) (h : Tryd.prog.typeName? 3 u = some "*errors.errorString") : u = 144 :=
  typeName_ptr_named (nm := "errors.errorString") (by rw [emitTokens_star]; kernel_rfl) (by kernel_rfl) (by decide) u (by rw [emitTokens_star]; exact h)

theorem emitTokens_errTy : ErrTy Tryd.prog "*errors.errorString" 26 144 169 9 := errTy_of (by kernel_rfl) emitTokens_row (by kernel_rfl) (by kernel_rfl) (by kernel_rfl) (by kernel_rfl) (by kernel_rfl)

theorem emitTokens_own : ownKnob Tryd.prog.godebug = none := by kernel_rfl
theorem emitTokens_met (os : Os) (args : Array Value) : laidMetH Tryd.prog Rows.emitTokensRow.laid ((World.laidAll Tryd.prog os Rows.emitTokensRow.laid).forCall (fun _ _ => 0) ⟨#[], args, []⟩).memory := by
  rw [MakeChecks.laidMetH_plain _ _ _ (by kernel_rfl)]; exact laidMet_laidAll _ (by kernel_rfl) (by kernel_rfl)
theorem emitTokens_plain (w : World) : laidMetH Tryd.prog Rows.emitTokensRow.laid w = laidMet Tryd.prog Rows.emitTokensRow.laid w := MakeChecks.laidMetH_plain _ _ _ (by kernel_rfl)

def emitTokens_texts : List (Nat × List UInt8) := [(2, [97, 32, 110, 117, 109, 98, 101, 114, 32, 105, 115, 32, 111, 117, 116, 32, 111, 102, 32, 105, 116, 115, 32, 114, 97, 110, 103, 101]), (5, [116, 104, 101, 114, 101, 32, 105, 115, 32, 110, 111, 32, 109, 111, 114, 101, 32, 114, 111, 111, 109]), (4, [115, 111, 109, 101, 116, 104, 105, 110, 103, 32, 105, 115, 32, 109, 105, 115, 115, 105, 110, 103, 32, 97, 116, 32, 116, 104, 101, 32, 101, 110, 100]), (3, [116, 104, 101, 114, 101, 32, 105, 115, 32, 109, 111, 114, 101, 32, 116, 104, 97, 110, 32, 109, 97, 121, 32, 98, 101]), (0, [105, 116, 32, 105, 115, 32, 110, 111, 116, 32, 111, 102, 32, 105, 116, 115, 32, 102, 111, 114, 109]), (6, [116, 104, 101, 114, 101, 32, 105, 115, 32, 110, 111, 32, 115, 117, 99, 104, 32, 110, 97, 109, 101]), (7, [116, 104, 101, 114, 101, 32, 105, 115, 32, 110, 111, 110, 101]), (8, [105, 116, 32, 105, 115, 32, 116, 104, 101, 114, 101, 32, 97, 108, 114, 101, 97, 100, 121]), (1, [105, 116, 32, 105, 115, 32, 111, 102, 32, 97, 110, 111, 116, 104, 101, 114, 32, 107, 105, 110, 100]), (9, [105, 116, 32, 99, 97, 110, 32, 110, 111, 116, 32, 98, 101, 32, 100, 111, 110, 101, 32, 105, 110, 32, 116, 104, 105, 115, 32, 115, 116, 97, 116, 101]), (10, [105, 116, 32, 103, 111, 101, 115, 32, 116, 111, 111, 32, 100, 101, 101, 112]), (11, [116, 104, 101, 32, 102, 117, 101, 108, 32, 105, 115, 32, 115, 112, 101, 110, 116]), (12, [116, 104, 101, 114, 101, 32, 97, 114, 101, 32, 116, 111, 111, 32, 109, 97, 110, 121, 32, 99, 97, 108, 108, 115, 32, 119, 105, 116, 104, 105, 110, 32, 111, 110, 101, 32, 97, 110, 111, 116, 104, 101, 114]), (13, [105, 116, 32, 105, 115, 32, 99, 108, 111, 115, 101, 100]), (14, [105, 116, 32, 119, 111, 117, 108, 100, 32, 109, 97, 116, 99, 104, 32, 110, 111, 116, 104, 105, 110, 103, 32, 97, 116, 32, 97, 108, 108]), (15, [116, 104, 101, 32, 116, 101, 120, 116, 32, 105, 115, 32, 110, 111, 32, 110, 117, 109, 98, 101, 114])]
theorem emitTokens_sent : sentOf Tryd.prog "*errors.errorString" Rows.emitTokensRow.laid = some emitTokens_texts := by kernel_rfl

theorem emitTokens_readable : ∀ t ∈ Tryd.f7.params.toList, Tryd.prog.readableRec t = true ∧ t < Tryd.prog.types.size := by
  have h : (Tryd.f7.params.toList.all fun t => Tryd.prog.readableRec t && decide (t < Tryd.prog.types.size)) = true := by kernel_rfl
  intro t ht
  have := List.all_eq_true.1 h t ht
  simpa using this

theorem emitTokens_wants : ∀ t ∈ Tryd.f7.params.toList, Tryd.prog.wantsStandIn t = false := by
  have h : (Tryd.f7.params.toList.all fun t => !Tryd.prog.wantsStandIn t) = true := by kernel_rfl
  intro t ht
  have := List.all_eq_true.1 h t ht
  simpa using this

theorem emitTokens_lifted (os : Os) (started : os.Started) (H : Type) (enc : TypeId × Value → H) :
    ReturnsInHanded {} Tryd.checked os 7 .any (fun w args => (Rows.emitTokensSpec.pre enc Tryd.prog Tryd.f7 [] false w args ∧ laidMetH Tryd.prog Rows.emitTokensRow.laid w) ∧ sizedMet enc Tryd.prog Tryd.f7 (OpenSpec.ofChange Rows.emitTokensSpec) false w args)
      (Rows.emitTokensSpec.post enc Tryd.prog Tryd.f7 false true false false) := by
  refine returnsInHanded_of_change_and (C := Tryd.checked) (X := fun w _ => laidMetH Tryd.prog Rows.emitTokensRow.laid w) (fun _ _ _ hh h => h.of_heap hh) emitTokens_own started (by kernel_rfl) Tryd.func7
    (ChangeSpec.witness_shaped (enc := enc) (C := Tryd.checked) (os := os) (X := fun w _ => laidMetH Tryd.prog Rows.emitTokensRow.laid w) false (World.laidAll Tryd.prog os Rows.emitTokensRow.laid) #[.slice none 0 0] 8 (World.laidAll_os _ _ _) (World.shaped_of_ZipB (by kernel_rfl) (by kernel_rfl)) (by kernel_rfl) (by kernel_rfl) (by kernel_rfl) (emitTokens_met os _)) ?_
  intro W base args ds gs before hval hW _ _ hL _
  have hW' := hW
  obtain ⟨p, q, hA, hV, rfl, hfz, hnd⟩ := hW
  obtain ⟨rfl, rfl⟩ := trodVars_none hV
  rw [emitTokens_plain] at hL
  obtain ⟨s1, s2, s3⟩ := sents_open emitTokens_errTy hL emitTokens_sent (by kernel_rfl)
  have hG : Tryd.prog.globals.size = 19 := by kernel_rfl
  rw [hG] at s2 s3
  have g3 : ds.length = 1 := (args_open emitTokens_sh hA (fun j t v h1 h2 => hval j t v (by rw [← Array.getElem?_toList]; exact h1) (by rw [← Array.getElem?_toList]; exact h2))).2.2.1
  match ds, g3 with
  | [d1], _ =>
    refine (law_calls Tryd.func7 (body := bodyOf Tryd.f7) (by kernel_rfl) emitTokens_sh hA hval (lab := 100) (n := 110) (n' := 9000) (L' := Sx.look []) gtopP s1 s2 (fun e he => ?_) (fun cs hcs hIs => ?_)).mono fun e W' ⟨he, hB⟩ => ⟨_, he, law_post (bt := 4) (by kernel_rfl) emitTokens_readable rfl (by kernel_rfl) (by kernel_rfl) hW' rfl hB⟩
    · obtain ⟨a1, a2, a3⟩ := s3 e he
      exact ⟨a1, Nat.lt_of_lt_of_le a2 gtopP, fun l hl => Nat.lt_of_lt_of_le (a3 l hl) gtopP⟩
    · clear hcs
      have hB : ∀ i, i < lenOf (Go.Sx.rd0 cs [] 0) → ∀ j, j < lenOf (rdOf W 5 (Go.Sx.rd0 cs) 0 [i] 3) → 0 ≤ Sx.intOf (rdOf W 1 (rdOf W 5 (Go.Sx.rd0 cs) 0) 3 [i, j] 0) ∧ Sx.intOf (rdOf W 1 (rdOf W 5 (Go.Sx.rd0 cs) 0) 3 [i, j] 0) < 256 := by
        obtain ⟨a1, r1, e1, l1, he, hrest⟩ := hIs
        have he2 := he
        obtain ⟨v, e4, _⟩ := he2
        rw [e4] at he
        have e5 : Go.Sx.rd0 cs [] 0 = v := by
          show cs.getD 0 undef = v
          rw [e1, e4]
          rfl
        intro i hi
        rw [e5] at hi
        exact tok_bytes he e5 i hi
      refine RunsTo.start (cargs := [.v (.vl 100 (fun _ => 0) 5 [] (fun _ => lenOf (Go.Sx.rd0 cs [] 0)))]) ?_ ⟨⟨rfl, rfl⟩, trivial⟩
      exact emitTokens_law _ _ _ _ _ _ _ _ _ _ _ _ _ _ _ _ (lenOf (Go.Sx.rd0 cs [] 0)) (fun is => Sx.intOf (rdOf W 5 (Go.Sx.rd0 cs) 0 is 0)) (fun is => Sx.intOf (rdOf W 5 (Go.Sx.rd0 cs) 0 is 1)) (fun is => Sx.intOf (rdOf W 5 (Go.Sx.rd0 cs) 0 is 2)) (fun is => lenOf (rdOf W 5 (Go.Sx.rd0 cs) 0 is 3)) (fun is => Sx.boolOf (rdOf W 5 (Go.Sx.rd0 cs) 0 is 4)) (fun is => Sx.intOf (rdOf W 1 (rdOf W 5 (Go.Sx.rd0 cs) 0) 3 is 0)) hB

theorem emitTokens_holds : Rows.EmitTokensSaid :=
  OpenClaim.holds_of_wide 7 Tryd.f7 rfl rfl rfl rfl rfl rfl rfl ⟨rfl, rfl, rfl, rfl, rfl⟩ rfl rfl rfl rfl rfl (by kernel_rfl) Tryd.func7 (by kernel_rfl)
    (of_decide_eq_true (by kernel_rfl)) (by unfold Func.isWrapper; first | (rw [if_pos (by decide +kernel)]; kernel_rfl) | (rw [if_neg (by decide +kernel)]; exact ⟨rfl, rfl⟩))
    (fun os started H enc _ => emitTokens_lifted os started H enc)

theorem emitTokens_card_holds : Rows.EmitTokensCardSaid :=
  Claim7.holds_tied_plain_at .later [] [.data, .sentinel, .sentinel, .sentinel, .sentinel, .sentinel, .sentinel, .sentinel, .sentinel, .sentinel, .sentinel, .sentinel, .sentinel, .sentinel, .sentinel, .sentinel, .sentinel, .pinned] true (true, "f530cd95f545498e1079217162ceacc12c579589fcdd7c478fda70c03005852d") true
    emitTokens_holds (fun _ h => by cases h) (by kernel_rfl) (fun _ h => by cases h) emitTokens_row_tie rfl ⟨rfl, rfl⟩ (by kernel_rfl) rfl
    (fun f fn hf hfn => by
      obtain rfl : f = 7 := Option.some.inj ((show Tryd.prog.funcNamed "truchman/truchmanlaw06.EmitTokens" = some 7 by kernel_rfl).symm.trans hf) |>.symm
      obtain rfl : fn = Tryd.f7 := (Option.some.inj (Tryd.func7.symm.trans hfn)).symm
      exact ⟨by kernel_rfl, fun j t ht => emitTokens_wants t (List.mem_of_getElem? (by rw [Array.getElem?_toList]; exact ht))⟩)
    (by kernel_rfl)
end Go.Proofs.YtcphocfnhekdaaaDoor

