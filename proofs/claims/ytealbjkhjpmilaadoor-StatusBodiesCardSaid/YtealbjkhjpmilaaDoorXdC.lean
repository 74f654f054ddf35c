/- Status: the law StatusBodies. -/
import Derived.Test.YtealbjkhjpmilaaDoorXcC
set_option linter.unusedSimpArgs false
set_option linter.unusedVariables false
set_option maxRecDepth 100000
namespace Go.Proofs.YtealbjkhjpmilaaDoor
open Go.Sx

open DecR
theorem c3Ok_p0 (t0 t1 t2 t3 t4 t5 t6 t7 t8 t9 t10 t11 t12 t13 t14 t15 : List UInt8) (N n : Nat) (V O B : Ix → Int) :
    isMore (evTill Tryd.prog sumsBOk 600 (atRest Tryd.f10 8) 900 10 (cutOf Tryd.f10 3) (envAt Tryd.f10.ntmps ([(0, vL 100 2 N), (1, vL 101 1 n)])) (XL t0 t1 t2 t3 t4 t5 t6 t7 t8 t9 t10 t11 t12 t13 t14 t15 N n V O B ++ ([])) ⟨[.s true, .s true, .s true, .s true, .s true, .t, .s true, .s false, .s false, .s true, .s true, .s true, .s true, .s false, .t, .s true, .s true, .f, .f, .s true, .s true, .s true, .s true, .s true, .s false], 130⟩) (moreP (cutOf Tryd.f10 8) ([]) Tryd.f10.ntmps ([(1, vL 101 1 n)]) ([]) 4000) =
    (OkL [(N.beq N, true), (decide (N ≤ (1000 : Nat)), true), (N.beq N, true), (decide (N ≤ (120 : Nat)) && decide (fb V O N (0 : Nat) = (0 : Int)), true), (N.beq N, true), (((0 : Nat) + (bodyL V O N).length).ble (bodyL V O N).length, true), (!bytesOf (fun is => (↑((bodyL V O N).getD (List.headD is (0 : Nat)) (0 : UInt8)).toNat : Int)) [] (0 : Nat) (bodyL V O N).length == if (120 : Nat) < N then [] else if fb V O N (0 : Nat) = (0 : Int) then bodyL V O N else [], false), ((0 : Int) != if (120 : Nat) < N then (4 : Int) else fb V O N (0 : Nat), false), (N.beq N, true), (decide (N ≤ (1000 : Nat)) && lenB wF && decide (powG [(2 : Nat)] = (100 : Int)) && decide ((joinS (rowS (partF wF V O) [] (0 : Nat) N) [(44 : UInt8), (32 : UInt8)]).length ≤ (100000 : Nat)), true), (N.beq N, true), (decide (N ≤ (1000 : Nat)), true), (!joinS (rowS (partF wF V O) [] (0 : Nat) N) [(44 : UInt8), (32 : UInt8)] == lineR V O N, false), ((bodyL V O N).length.beq (bodyL V O N).length, true), (decide ((↑((bodyL V O N).getD (0 : Nat) (0 : UInt8)).toNat : Int) = (0 : Int)) && decide ((bodyL V O N).length % (2 : Nat) = (1 : Nat)) && decide ((bodyL V O N).length ≤ (1000 : Nat)) && bndB (fun is => (↑((bodyL V O N).getD (List.headD is (0 : Nat)) (0 : UInt8)).toNat : Int)) (bodyL V O N).length && vb (fun is => (↑((bodyL V O N).getD (List.headD is (0 : Nat)) (0 : UInt8)).toNat : Int)) (((bodyL V O N).length - (1 : Nat)) / (2 : Nat)) (0 : Nat) == true, true), ((((bodyL V O N).length - (1 : Nat)) / (2 : Nat)).beq (((bodyL V O N).length - (1 : Nat)) / (2 : Nat)), true), (decide (((bodyL V O N).length - (1 : Nat)) / (2 : Nat) ≤ (1000 : Nat)), true), (N.beq N, true), ((((bodyL V O N).length - (1 : Nat)) / (2 : Nat)).beq (((bodyL V O N).length - (1 : Nat)) / (2 : Nat)), true), (decide (((bodyL V O N).length - (1 : Nat)) / (2 : Nat) ≤ (1000 : Nat)), true), (!sameF (((bodyL V O N).length - (1 : Nat)) / (2 : Nat)) N (pV fun is => (↑((bodyL V O N).getD (List.headD is (0 : Nat)) (0 : UInt8)).toNat : Int)) V (pO fun is => (↑((bodyL V O N).getD (List.headD is (0 : Nat)) (0 : UInt8)).toNat : Int)) O, false)] ∧ cutOf Tryd.f10 (8 : Nat) = cutOf Tryd.f10 (8 : Nat) ∧ ((0 : Nat) = (0 : Nat) ∧ n = n) ∧ True) := by kernel_rfl

set_option maxHeartbeats 4000000 in
theorem c3Ok (t0 t1 t2 t3 t4 t5 t6 t7 t8 t9 t10 t11 t12 t13 t14 t15 : List UInt8) (N n : Nat) (V O B : Ix → Int) (hN : N ≤ 150) (hn3 : n ≤ 300) (h1 : N ≤ 120) (h2 : fb V O N 0 = 0) (hpa : (decide ((fun is => (((bodyL V O N).getD (is.headD 0) 0).toNat : Int)) [0] = 0) && decide ((bodyL V O N).length % 2 = 1) && decide ((bodyL V O N).length ≤ 1000) && bndB (fun is => (((bodyL V O N).getD (is.headD 0) 0).toNat : Int)) (bodyL V O N).length && (vb (fun is => (((bodyL V O N).getD (is.headD 0) 0).toNat : Int)) (((bodyL V O N).length - 1) / 2) 0 == true)) = true) (hS : sameF (((bodyL V O N).length - 1) / 2) N (pV (fun is => (((bodyL V O N).getD (is.headD 0) 0).toNat : Int))) V (pO (fun is => (((bodyL V O N).getD (is.headD 0) 0).toNat : Int))) O = true)  (next : RunsTo Tryd.prog 10 (cutOf Tryd.f10 8) (envAt Tryd.f10.ntmps ([(1, vL 101 1 n)])) (Sx.look (XL t0 t1 t2 t3 t4 t5 t6 t7 t8 t9 t10 t11 t12 t13 t14 t15 N n V O B ++ ([]))) 110 (YES) (Sx.look []) 4000) :
    RunsTo Tryd.prog 10 (cutOf Tryd.f10 3) (envAt Tryd.f10.ntmps ([(0, vL 100 2 N), (1, vL 101 1 n)])) (Sx.look (XL t0 t1 t2 t3 t4 t5 t6 t7 t8 t9 t10 t11 t12 t13 t14 t15 N n V O B ++ ([]))) 110 (YES) (Sx.look []) 4000 := by
  have hj : joinS (rowS (partF wF V O) [] 0 N) [44, 32] = lineR V O N := (join_line _ N).trans (lineR_P V O N).symm
  have hl : (lineR V O N).length ≤ 18000 := by have := lineR_len V O N; omega
  have hjl : (joinS (rowS (partF wF V O) [] 0 N) [44, 32]).length ≤ 100000 := by rw [hj]; omega
  have hw : lenB wF = true := by decide
  have hp2 : powG [2] = 100 := rfl
  have hcl : (decide (N ≤ 1000) && lenB wF && decide (powG [2] = 100) && decide ((joinS (rowS (partF wF V O) [] 0 N) [44, 32]).length ≤ 100000)) = true := by rw [hw, decide_eq_true hjl, decide_eq_true (show N ≤ 1000 by omega)]; rfl
  have e1 : (if 120 < N then [] else if fb V O N 0 = 0 then bodyL V O N else []) = bodyL V O N := by rw [if_neg (by omega)]; rw [if_pos h2]
  have e2 : (if 120 < N then 4 else fb V O N 0) = 0 := by rw [if_neg (by omega), h2]
  have hb : bytesOf (fun is => (((bodyL V O N).getD (is.headD 0) 0).toNat : Int)) [] 0 (bodyL V O N).length = bodyL V O N := bytesOf_full _
  have hln := bodyL_len V O N
  refine runs_more baseBOk (More.of (c3Ok_p0 t0 t1 t2 t3 t4 t5 t6 t7 t8 t9 t10 t11 t12 t13 t14 t15 N n V O B) ⟨?oo, rfl, ?rr⟩) (by kernel_rfl) (by kernel_rfl) rfl (gtL (by decide)) (by decide) next
  case oo =>
    clear next
    refine (okc ?_ (okc ?_ (okc ?_ (okc ?_ (okc ?_ (okc ?_ (okc ?_ (okc ?_ (okc ?_ (okc ?_ (okc ?_ (okc ?_ (okc ?_ (okc ?_ (okc ?_ (okc ?_ (okc ?_ (okc ?_ (okc ?_ (okc ?_ (okc ?_ okn)))))))))))))))))))))
    all_goals first | omega | exact hcl | exact hpa | exact hS | (simp (disch := omega) only [SS, e1, e2, hj, hb]; first | done | omega) | (simp_all; done) | (simp_all; omega) | rfl
  case rr =>
    clear next
    try simp (disch := omega) only [SS, e1, e2, hj, hb]
    repeat' apply And.intro
    all_goals first | exact True.intro | with_reducible rfl | omega | (intros; first | exact True.intro | with_reducible rfl | omega | (simp_all; done)) | (simp_all; done) | rfl

theorem c3Lo_p0 (t0 t1 t2 t3 t4 t5 t6 t7 t8 t9 t10 t11 t12 t13 t14 t15 : List UInt8) (N n : Nat) (V O B : Ix → Int) :
    isMore (evTill Tryd.prog sumsBLo 600 (atRest Tryd.f10 8) 900 10 (cutOf Tryd.f10 3) (envAt Tryd.f10.ntmps ([(0, vL 100 2 N), (1, vL 101 1 n)])) (XL t0 t1 t2 t3 t4 t5 t6 t7 t8 t9 t10 t11 t12 t13 t14 t15 N n V O B ++ ([])) ⟨[.s true, .s true, .s true, .s true, .s true, .t, .s false, .s false, .s true, .s true, .s true, .s true, .s false, .f], 130⟩) (moreP (cutOf Tryd.f10 8) ([]) Tryd.f10.ntmps ([(1, vL 101 1 n)]) ([]) 4000) =
    (OkL [(N.beq N, true), (decide (N ≤ (1000 : Nat)), true), (N.beq N, true), (decide ((120 : Nat) < N), true), (N.beq N, true), (![] == if (120 : Nat) < N then [] else if fb V O N (0 : Nat) = (0 : Int) then bodyL V O N else [], false), (numOf (if true = true then (29 : Nat) else (190 : Nat)) != if (120 : Nat) < N then (4 : Int) else fb V O N (0 : Nat), false), (N.beq N, true), (decide (N ≤ (1000 : Nat)) && lenB wF && decide (powG [(2 : Nat)] = (100 : Int)) && decide ((joinS (rowS (partF wF V O) [] (0 : Nat) N) [(44 : UInt8), (32 : UInt8)]).length ≤ (100000 : Nat)), true), (N.beq N, true), (decide (N ≤ (1000 : Nat)), true), (!joinS (rowS (partF wF V O) [] (0 : Nat) N) [(44 : UInt8), (32 : UInt8)] == lineR V O N, false)] ∧ cutOf Tryd.f10 (8 : Nat) = cutOf Tryd.f10 (8 : Nat) ∧ ((0 : Nat) = (0 : Nat) ∧ n = n) ∧ True) := by kernel_rfl

set_option maxHeartbeats 4000000 in
theorem c3Lo (t0 t1 t2 t3 t4 t5 t6 t7 t8 t9 t10 t11 t12 t13 t14 t15 : List UInt8) (N n : Nat) (V O B : Ix → Int) (hN : N ≤ 150) (hn3 : n ≤ 300) (h1 : 120 < N)  (next : RunsTo Tryd.prog 10 (cutOf Tryd.f10 8) (envAt Tryd.f10.ntmps ([(1, vL 101 1 n)])) (Sx.look (XL t0 t1 t2 t3 t4 t5 t6 t7 t8 t9 t10 t11 t12 t13 t14 t15 N n V O B ++ ([]))) 110 (YES) (Sx.look []) 4000) :
    RunsTo Tryd.prog 10 (cutOf Tryd.f10 3) (envAt Tryd.f10.ntmps ([(0, vL 100 2 N), (1, vL 101 1 n)])) (Sx.look (XL t0 t1 t2 t3 t4 t5 t6 t7 t8 t9 t10 t11 t12 t13 t14 t15 N n V O B ++ ([]))) 110 (YES) (Sx.look []) 4000 := by
  have hj : joinS (rowS (partF wF V O) [] 0 N) [44, 32] = lineR V O N := (join_line _ N).trans (lineR_P V O N).symm
  have hl : (lineR V O N).length ≤ 18000 := by have := lineR_len V O N; omega
  have hjl : (joinS (rowS (partF wF V O) [] 0 N) [44, 32]).length ≤ 100000 := by rw [hj]; omega
  have hw : lenB wF = true := by decide
  have hp2 : powG [2] = 100 := rfl
  have hcl : (decide (N ≤ 1000) && lenB wF && decide (powG [2] = 100) && decide ((joinS (rowS (partF wF V O) [] 0 N) [44, 32]).length ≤ 100000)) = true := by rw [hw, decide_eq_true hjl, decide_eq_true (show N ≤ 1000 by omega)]; rfl
  have e1 : (if 120 < N then [] else if fb V O N 0 = 0 then bodyL V O N else []) = [] := by rw [if_pos h1]
  have e2 : (if 120 < N then 4 else fb V O N 0) = 4 := by rw [if_pos h1]
  have hn : numOf 29 = 4 := rfl
  refine runs_more baseBLo (More.of (c3Lo_p0 t0 t1 t2 t3 t4 t5 t6 t7 t8 t9 t10 t11 t12 t13 t14 t15 N n V O B) ⟨?oo, rfl, ?rr⟩) (by kernel_rfl) (by kernel_rfl) rfl (gtL (by decide)) (by decide) next
  case oo =>
    clear next
    refine (okc ?_ (okc ?_ (okc ?_ (okc ?_ (okc ?_ (okc ?_ (okc ?_ (okc ?_ (okc ?_ (okc ?_ (okc ?_ (okc ?_ okn))))))))))))
    all_goals first | omega | exact hcl | (simp (disch := omega) only [SS, e1, e2, hj, hn]; first | done | omega) | (simp_all; done) | (simp_all; omega) | rfl
  case rr =>
    clear next
    try simp (disch := omega) only [SS, e1, e2, hj, hn]
    repeat' apply And.intro
    all_goals first | exact True.intro | with_reducible rfl | omega | (intros; first | exact True.intro | with_reducible rfl | omega | (simp_all; done)) | (simp_all; done) | rfl

theorem c3Ki_p0 (t0 t1 t2 t3 t4 t5 t6 t7 t8 t9 t10 t11 t12 t13 t14 t15 : List UInt8) (N n : Nat) (V O B : Ix → Int) :
    isMore (evTill Tryd.prog sumsBKi 600 (atRest Tryd.f10 8) 900 10 (cutOf Tryd.f10 3) (envAt Tryd.f10.ntmps ([(0, vL 100 2 N), (1, vL 101 1 n)])) (XL t0 t1 t2 t3 t4 t5 t6 t7 t8 t9 t10 t11 t12 t13 t14 t15 N n V O B ++ ([])) ⟨[.s true, .s true, .s true, .s true, .s true, .t, .s false, .s false, .s true, .s true, .s true, .s true, .s false, .f], 130⟩) (moreP (cutOf Tryd.f10 8) ([]) Tryd.f10.ntmps ([(1, vL 101 1 n)]) ([]) 4000) =
    (OkL [(N.beq N, true), (decide (N ≤ (1000 : Nat)), true), (N.beq N, true), (decide (N ≤ (120 : Nat)) && decide (fb V O N (0 : Nat) = (9 : Int)), true), (N.beq N, true), (![] == if (120 : Nat) < N then [] else if fb V O N (0 : Nat) = (0 : Int) then bodyL V O N else [], false), (numOf (if true = true then (30 : Nat) else (190 : Nat)) != if (120 : Nat) < N then (4 : Int) else fb V O N (0 : Nat), false), (N.beq N, true), (decide (N ≤ (1000 : Nat)) && lenB wF && decide (powG [(2 : Nat)] = (100 : Int)) && decide ((joinS (rowS (partF wF V O) [] (0 : Nat) N) [(44 : UInt8), (32 : UInt8)]).length ≤ (100000 : Nat)), true), (N.beq N, true), (decide (N ≤ (1000 : Nat)), true), (!joinS (rowS (partF wF V O) [] (0 : Nat) N) [(44 : UInt8), (32 : UInt8)] == lineR V O N, false)] ∧ cutOf Tryd.f10 (8 : Nat) = cutOf Tryd.f10 (8 : Nat) ∧ ((0 : Nat) = (0 : Nat) ∧ n = n) ∧ True) := by kernel_rfl

set_option maxHeartbeats 4000000 in
theorem c3Ki (t0 t1 t2 t3 t4 t5 t6 t7 t8 t9 t10 t11 t12 t13 t14 t15 : List UInt8) (N n : Nat) (V O B : Ix → Int) (hN : N ≤ 150) (hn3 : n ≤ 300) (h1 : N ≤ 120) (h2 : fb V O N 0 = 9)  (next : RunsTo Tryd.prog 10 (cutOf Tryd.f10 8) (envAt Tryd.f10.ntmps ([(1, vL 101 1 n)])) (Sx.look (XL t0 t1 t2 t3 t4 t5 t6 t7 t8 t9 t10 t11 t12 t13 t14 t15 N n V O B ++ ([]))) 110 (YES) (Sx.look []) 4000) :
    RunsTo Tryd.prog 10 (cutOf Tryd.f10 3) (envAt Tryd.f10.ntmps ([(0, vL 100 2 N), (1, vL 101 1 n)])) (Sx.look (XL t0 t1 t2 t3 t4 t5 t6 t7 t8 t9 t10 t11 t12 t13 t14 t15 N n V O B ++ ([]))) 110 (YES) (Sx.look []) 4000 := by
  have hj : joinS (rowS (partF wF V O) [] 0 N) [44, 32] = lineR V O N := (join_line _ N).trans (lineR_P V O N).symm
  have hl : (lineR V O N).length ≤ 18000 := by have := lineR_len V O N; omega
  have hjl : (joinS (rowS (partF wF V O) [] 0 N) [44, 32]).length ≤ 100000 := by rw [hj]; omega
  have hw : lenB wF = true := by decide
  have hp2 : powG [2] = 100 := rfl
  have hcl : (decide (N ≤ 1000) && lenB wF && decide (powG [2] = 100) && decide ((joinS (rowS (partF wF V O) [] 0 N) [44, 32]).length ≤ 100000)) = true := by rw [hw, decide_eq_true hjl, decide_eq_true (show N ≤ 1000 by omega)]; rfl
  have e1 : (if 120 < N then [] else if fb V O N 0 = 0 then bodyL V O N else []) = [] := by rw [if_neg (by omega)]; rw [if_neg (by omega)]
  have e2 : (if 120 < N then 4 else fb V O N 0) = 9 := by rw [if_neg (by omega), h2]
  have hn : numOf 30 = 9 := rfl
  refine runs_more baseBKi (More.of (c3Ki_p0 t0 t1 t2 t3 t4 t5 t6 t7 t8 t9 t10 t11 t12 t13 t14 t15 N n V O B) ⟨?oo, rfl, ?rr⟩) (by kernel_rfl) (by kernel_rfl) rfl (gtL (by decide)) (by decide) next
  case oo =>
    clear next
    refine (okc ?_ (okc ?_ (okc ?_ (okc ?_ (okc ?_ (okc ?_ (okc ?_ (okc ?_ (okc ?_ (okc ?_ (okc ?_ (okc ?_ okn))))))))))))
    all_goals first | omega | exact hcl | (simp (disch := omega) only [SS, e1, e2, hj, hn]; first | done | omega) | (simp_all; done) | (simp_all; omega) | rfl
  case rr =>
    clear next
    try simp (disch := omega) only [SS, e1, e2, hj, hn]
    repeat' apply And.intro
    all_goals first | exact True.intro | with_reducible rfl | omega | (intros; first | exact True.intro | with_reducible rfl | omega | (simp_all; done)) | (simp_all; done) | rfl

theorem c3Ra_p0 (t0 t1 t2 t3 t4 t5 t6 t7 t8 t9 t10 t11 t12 t13 t14 t15 : List UInt8) (N n : Nat) (V O B : Ix → Int) :
    isMore (evTill Tryd.prog sumsBRa 600 (atRest Tryd.f10 8) 900 10 (cutOf Tryd.f10 3) (envAt Tryd.f10.ntmps ([(0, vL 100 2 N), (1, vL 101 1 n)])) (XL t0 t1 t2 t3 t4 t5 t6 t7 t8 t9 t10 t11 t12 t13 t14 t15 N n V O B ++ ([])) ⟨[.s true, .s true, .s true, .s true, .s true, .t, .s false, .s false, .s true, .s true, .s true, .s true, .s false, .f], 130⟩) (moreP (cutOf Tryd.f10 8) ([]) Tryd.f10.ntmps ([(1, vL 101 1 n)]) ([]) 4000) =
    (OkL [(N.beq N, true), (decide (N ≤ (1000 : Nat)), true), (N.beq N, true), (decide (N ≤ (120 : Nat)) && decide (fb V O N (0 : Nat) = (1 : Int)), true), (N.beq N, true), (![] == if (120 : Nat) < N then [] else if fb V O N (0 : Nat) = (0 : Int) then bodyL V O N else [], false), (numOf (if true = true then (32 : Nat) else (190 : Nat)) != if (120 : Nat) < N then (4 : Int) else fb V O N (0 : Nat), false), (N.beq N, true), (decide (N ≤ (1000 : Nat)) && lenB wF && decide (powG [(2 : Nat)] = (100 : Int)) && decide ((joinS (rowS (partF wF V O) [] (0 : Nat) N) [(44 : UInt8), (32 : UInt8)]).length ≤ (100000 : Nat)), true), (N.beq N, true), (decide (N ≤ (1000 : Nat)), true), (!joinS (rowS (partF wF V O) [] (0 : Nat) N) [(44 : UInt8), (32 : UInt8)] == lineR V O N, false)] ∧ cutOf Tryd.f10 (8 : Nat) = cutOf Tryd.f10 (8 : Nat) ∧ ((0 : Nat) = (0 : Nat) ∧ n = n) ∧ True) := by kernel_rfl

set_option maxHeartbeats 4000000 in
theorem c3Ra (t0 t1 t2 t3 t4 t5 t6 t7 t8 t9 t10 t11 t12 t13 t14 t15 : List UInt8) (N n : Nat) (V O B : Ix → Int) (hN : N ≤ 150) (hn3 : n ≤ 300) (h1 : N ≤ 120) (h2 : fb V O N 0 = 1)  (next : RunsTo Tryd.prog 10 (cutOf Tryd.f10 8) (envAt Tryd.f10.ntmps ([(1, vL 101 1 n)])) (Sx.look (XL t0 t1 t2 t3 t4 t5 t6 t7 t8 t9 t10 t11 t12 t13 t14 t15 N n V O B ++ ([]))) 110 (YES) (Sx.look []) 4000) :
    RunsTo Tryd.prog 10 (cutOf Tryd.f10 3) (envAt Tryd.f10.ntmps ([(0, vL 100 2 N), (1, vL 101 1 n)])) (Sx.look (XL t0 t1 t2 t3 t4 t5 t6 t7 t8 t9 t10 t11 t12 t13 t14 t15 N n V O B ++ ([]))) 110 (YES) (Sx.look []) 4000 := by
  have hj : joinS (rowS (partF wF V O) [] 0 N) [44, 32] = lineR V O N := (join_line _ N).trans (lineR_P V O N).symm
  have hl : (lineR V O N).length ≤ 18000 := by have := lineR_len V O N; omega
  have hjl : (joinS (rowS (partF wF V O) [] 0 N) [44, 32]).length ≤ 100000 := by rw [hj]; omega
  have hw : lenB wF = true := by decide
  have hp2 : powG [2] = 100 := rfl
  have hcl : (decide (N ≤ 1000) && lenB wF && decide (powG [2] = 100) && decide ((joinS (rowS (partF wF V O) [] 0 N) [44, 32]).length ≤ 100000)) = true := by rw [hw, decide_eq_true hjl, decide_eq_true (show N ≤ 1000 by omega)]; rfl
  have e1 : (if 120 < N then [] else if fb V O N 0 = 0 then bodyL V O N else []) = [] := by rw [if_neg (by omega)]; rw [if_neg (by omega)]
  have e2 : (if 120 < N then 4 else fb V O N 0) = 1 := by rw [if_neg (by omega), h2]
  have hn : numOf 32 = 1 := rfl
  refine runs_more baseBRa (More.of (c3Ra_p0 t0 t1 t2 t3 t4 t5 t6 t7 t8 t9 t10 t11 t12 t13 t14 t15 N n V O B) ⟨?oo, rfl, ?rr⟩) (by kernel_rfl) (by kernel_rfl) rfl (gtL (by decide)) (by decide) next
  case oo =>
    clear next
    refine (okc ?_ (okc ?_ (okc ?_ (okc ?_ (okc ?_ (okc ?_ (okc ?_ (okc ?_ (okc ?_ (okc ?_ (okc ?_ (okc ?_ okn))))))))))))
    all_goals first | omega | exact hcl | (simp (disch := omega) only [SS, e1, e2, hj, hn]; first | done | omega) | (simp_all; done) | (simp_all; omega) | rfl
  case rr =>
    clear next
    try simp (disch := omega) only [SS, e1, e2, hj, hn]
    repeat' apply And.intro
    all_goals first | exact True.intro | with_reducible rfl | omega | (intros; first | exact True.intro | with_reducible rfl | omega | (simp_all; done)) | (simp_all; done) | rfl

theorem c8Sh_p0 (t0 t1 t2 t3 t4 t5 t6 t7 t8 t9 t10 t11 t12 t13 t14 t15 : List UInt8) (N n : Nat) (V O B : Ix → Int) :
    isEnd (evTill Tryd.prog sumsPSh 600 (99) 900 10 (cutOf Tryd.f10 8) (envAt Tryd.f10.ntmps ([(1, vL 101 1 n)])) (XL t0 t1 t2 t3 t4 t5 t6 t7 t8 t9 t10 t11 t12 t13 t14 t15 N n V O B ++ ([])) ⟨[.s true, .s true, .s true, .s true, .t, .s true, .t, .t, .s true, .s true, .s true, .t], 130⟩) (endP ([]) (YES) ([]) 4000) =
    (OkL [(n.beq n, true), (decide (n = (0 : Nat)), true), (((0 : Nat) + n).ble n, true), (decide ((bytesOf B [] (0 : Nat) n).length ≤ (1000 : Nat)), true), ((rN (bytesOf B [] (0 : Nat) n)).beq (rN (bytesOf B [] (0 : Nat) n)), true), (sameF (0 : Nat) (rN (bytesOf B [] (0 : Nat) n)) (fun x => (0 : Int)) (pV (sB (bytesOf B [] (0 : Nat) n))) (fun x => (0 : Int)) (pO (sB (bytesOf B [] (0 : Nat) n))), true), (false == decide (bytesOf B [] (0 : Nat) n = [(1 : UInt8)]), true), (numOf (if true = true then (28 : Nat) else (130 : Nat)) == rC (bytesOf B [] (0 : Nat) n), true)] ∧ true = true ∧ True) := by kernel_rfl

set_option maxHeartbeats 4000000 in
theorem c8Sh (t0 t1 t2 t3 t4 t5 t6 t7 t8 t9 t10 t11 t12 t13 t14 t15 : List UInt8) (N n : Nat) (V O B : Ix → Int) (h : n = 0) (hn3 : n ≤ 300) (eN : rN (bytesOf B [] 0 n) = 0) (eA : decide ((bytesOf B [] 0 n) = [1]) = false) (eC : rC (bytesOf B [] 0 n) = 3)  :
    RunsTo Tryd.prog 10 (cutOf Tryd.f10 8) (envAt Tryd.f10.ntmps ([(1, vL 101 1 n)])) (Sx.look (XL t0 t1 t2 t3 t4 t5 t6 t7 t8 t9 t10 t11 t12 t13 t14 t15 N n V O B ++ ([]))) 110 (YES) (Sx.look ([])) 4000 := by
  have hlen : (bytesOf B [] 0 n).length = n := bytesOf_len B [] 0 n
  have s0 := fun a b c d => sameF0 a b c d
  have hn : numOf 28 = 3 := rfl
  refine runs_last basePSh (Sx.Ends.of (c8Sh_p0 t0 t1 t2 t3 t4 t5 t6 t7 t8 t9 t10 t11 t12 t13 t14 t15 N n V O B) ⟨?oo, ?rr⟩) (by kernel_rfl) rfl (gtL (by decide)) (by decide)
  case oo =>
    refine (okc ?_ (okc ?_ (okc ?_ (okc ?_ (okc ?_ (okc ?_ (okc ?_ (okc ?_ okn))))))))
    all_goals first | omega | (simp (disch := omega) only [SS, eN, eA, eC, hlen, s0, hn]; first | done | omega) | (simp_all; done) | (simp_all; omega) | rfl
  case rr =>
    refine ⟨?_, ?_⟩ <;> first | trivial | (simp (disch := omega) only [SS, eN, eA, eC, hlen, s0, hn]; done) | (simp_all; done) | rfl

theorem c8Lo_p0 (t0 t1 t2 t3 t4 t5 t6 t7 t8 t9 t10 t11 t12 t13 t14 t15 : List UInt8) (N n : Nat) (V O B : Ix → Int) :
    isEnd (evTill Tryd.prog sumsPLo 600 (99) 900 10 (cutOf Tryd.f10 8) (envAt Tryd.f10.ntmps ([(1, vL 101 1 n)])) (XL t0 t1 t2 t3 t4 t5 t6 t7 t8 t9 t10 t11 t12 t13 t14 t15 N n V O B ++ ([])) ⟨[.s true, .s true, .s true, .s true, .t, .s true, .t, .t, .s true, .s true, .s true, .t], 130⟩) (endP ([]) (YES) ([]) 4000) =
    (OkL [(n.beq n, true), (decide ((1 : Nat) < n) && decide (B [(0 : Nat)] = (1 : Int)), true), (((0 : Nat) + n).ble n, true), (decide ((bytesOf B [] (0 : Nat) n).length ≤ (1000 : Nat)), true), ((rN (bytesOf B [] (0 : Nat) n)).beq (rN (bytesOf B [] (0 : Nat) n)), true), (sameF (0 : Nat) (rN (bytesOf B [] (0 : Nat) n)) (fun x => (0 : Int)) (pV (sB (bytesOf B [] (0 : Nat) n))) (fun x => (0 : Int)) (pO (sB (bytesOf B [] (0 : Nat) n))), true), (false == decide (bytesOf B [] (0 : Nat) n = [(1 : UInt8)]), true), (numOf (if true = true then (29 : Nat) else (130 : Nat)) == rC (bytesOf B [] (0 : Nat) n), true)] ∧ true = true ∧ True) := by kernel_rfl

set_option maxHeartbeats 4000000 in
theorem c8Lo (t0 t1 t2 t3 t4 t5 t6 t7 t8 t9 t10 t11 t12 t13 t14 t15 : List UInt8) (N n : Nat) (V O B : Ix → Int) (h : 1 < n) (h1 : B [0] = 1) (hn3 : n ≤ 300) (eN : rN (bytesOf B [] 0 n) = 0) (eA : decide ((bytesOf B [] 0 n) = [1]) = false) (eC : rC (bytesOf B [] 0 n) = 4)  :
    RunsTo Tryd.prog 10 (cutOf Tryd.f10 8) (envAt Tryd.f10.ntmps ([(1, vL 101 1 n)])) (Sx.look (XL t0 t1 t2 t3 t4 t5 t6 t7 t8 t9 t10 t11 t12 t13 t14 t15 N n V O B ++ ([]))) 110 (YES) (Sx.look ([])) 4000 := by
  have hlen : (bytesOf B [] 0 n).length = n := bytesOf_len B [] 0 n
  have s0 := fun a b c d => sameF0 a b c d
  have hn : numOf 29 = 4 := rfl
  refine runs_last basePLo (Sx.Ends.of (c8Lo_p0 t0 t1 t2 t3 t4 t5 t6 t7 t8 t9 t10 t11 t12 t13 t14 t15 N n V O B) ⟨?oo, ?rr⟩) (by kernel_rfl) rfl (gtL (by decide)) (by decide)
  case oo =>
    refine (okc ?_ (okc ?_ (okc ?_ (okc ?_ (okc ?_ (okc ?_ (okc ?_ (okc ?_ okn))))))))
    all_goals first | omega | (simp (disch := omega) only [SS, eN, eA, eC, hlen, s0, hn]; first | done | omega) | (simp_all; done) | (simp_all; omega) | rfl
  case rr =>
    refine ⟨?_, ?_⟩ <;> first | trivial | (simp (disch := omega) only [SS, eN, eA, eC, hlen, s0, hn]; done) | (simp_all; done) | rfl

theorem c8As_p0 (t0 t1 t2 t3 t4 t5 t6 t7 t8 t9 t10 t11 t12 t13 t14 t15 : List UInt8) (N n : Nat) (V O B : Ix → Int) :
    isEnd (evTill Tryd.prog sumsPAs 600 (99) 900 10 (cutOf Tryd.f10 8) (envAt Tryd.f10.ntmps ([(1, vL 101 1 n)])) (XL t0 t1 t2 t3 t4 t5 t6 t7 t8 t9 t10 t11 t12 t13 t14 t15 N n V O B ++ ([])) ⟨[.s true, .s true, .s true, .s true, .t, .s true, .t, .t, .s true, .s true, .s true, .t], 130⟩) (endP ([]) (YES) ([]) 4000) =
    (OkL [(n.beq n, true), (decide (n = (1 : Nat)) && decide (B [(0 : Nat)] = (1 : Int)), true), (((0 : Nat) + n).ble n, true), (decide ((bytesOf B [] (0 : Nat) n).length ≤ (1000 : Nat)), true), ((rN (bytesOf B [] (0 : Nat) n)).beq (rN (bytesOf B [] (0 : Nat) n)), true), (sameF (0 : Nat) (rN (bytesOf B [] (0 : Nat) n)) (fun x => (0 : Int)) (pV (sB (bytesOf B [] (0 : Nat) n))) (fun x => (0 : Int)) (pO (sB (bytesOf B [] (0 : Nat) n))), true), (true == decide (bytesOf B [] (0 : Nat) n = [(1 : UInt8)]), true), ((0 : Int) == rC (bytesOf B [] (0 : Nat) n), true)] ∧ true = true ∧ True) := by kernel_rfl

set_option maxHeartbeats 4000000 in
theorem c8As (t0 t1 t2 t3 t4 t5 t6 t7 t8 t9 t10 t11 t12 t13 t14 t15 : List UInt8) (N n : Nat) (V O B : Ix → Int) (h : n = 1) (h1 : B [0] = 1) (hn3 : n ≤ 300) (eN : rN (bytesOf B [] 0 n) = 0) (eA : decide ((bytesOf B [] 0 n) = [1]) = true) (eC : rC (bytesOf B [] 0 n) = 0)  :
    RunsTo Tryd.prog 10 (cutOf Tryd.f10 8) (envAt Tryd.f10.ntmps ([(1, vL 101 1 n)])) (Sx.look (XL t0 t1 t2 t3 t4 t5 t6 t7 t8 t9 t10 t11 t12 t13 t14 t15 N n V O B ++ ([]))) 110 (YES) (Sx.look ([])) 4000 := by
  have hlen : (bytesOf B [] 0 n).length = n := bytesOf_len B [] 0 n
  have s0 := fun a b c d => sameF0 a b c d
  refine runs_last basePAs (Sx.Ends.of (c8As_p0 t0 t1 t2 t3 t4 t5 t6 t7 t8 t9 t10 t11 t12 t13 t14 t15 N n V O B) ⟨?oo, ?rr⟩) (by kernel_rfl) rfl (gtL (by decide)) (by decide)
  case oo =>
    refine (okc ?_ (okc ?_ (okc ?_ (okc ?_ (okc ?_ (okc ?_ (okc ?_ (okc ?_ okn))))))))
    all_goals first | omega | (simp (disch := omega) only [SS, eN, eA, eC, hlen, s0]; first | done | omega) | (simp_all; done) | (simp_all; omega) | rfl
  case rr =>
    refine ⟨?_, ?_⟩ <;> first | trivial | (simp (disch := omega) only [SS, eN, eA, eC, hlen, s0]; done) | (simp_all; done) | rfl

theorem c8Fo_p0 (t0 t1 t2 t3 t4 t5 t6 t7 t8 t9 t10 t11 t12 t13 t14 t15 : List UInt8) (N n : Nat) (V O B : Ix → Int) :
    isEnd (evTill Tryd.prog sumsPFo 600 (99) 900 10 (cutOf Tryd.f10 8) (envAt Tryd.f10.ntmps ([(1, vL 101 1 n)])) (XL t0 t1 t2 t3 t4 t5 t6 t7 t8 t9 t10 t11 t12 t13 t14 t15 N n V O B ++ ([])) ⟨[.s true, .s true, .s true, .s true, .t, .s true, .t, .t, .s true, .s true, .s true, .t], 130⟩) (endP ([]) (YES) ([]) 4000) =
    (OkL [(n.beq n, true), (decide ((0 : Nat) < n) && decide (B [(0 : Nat)] ≠ (1 : Int) ∧ B [(0 : Nat)] ≠ (0 : Int)), true), (((0 : Nat) + n).ble n, true), (decide ((bytesOf B [] (0 : Nat) n).length ≤ (1000 : Nat)), true), ((rN (bytesOf B [] (0 : Nat) n)).beq (rN (bytesOf B [] (0 : Nat) n)), true), (sameF (0 : Nat) (rN (bytesOf B [] (0 : Nat) n)) (fun x => (0 : Int)) (pV (sB (bytesOf B [] (0 : Nat) n))) (fun x => (0 : Int)) (pO (sB (bytesOf B [] (0 : Nat) n))), true), (false == decide (bytesOf B [] (0 : Nat) n = [(1 : UInt8)]), true), (numOf (if true = true then (25 : Nat) else (130 : Nat)) == rC (bytesOf B [] (0 : Nat) n), true)] ∧ true = true ∧ True) := by kernel_rfl

set_option maxHeartbeats 4000000 in
theorem c8Fo (t0 t1 t2 t3 t4 t5 t6 t7 t8 t9 t10 t11 t12 t13 t14 t15 : List UInt8) (N n : Nat) (V O B : Ix → Int) (h : 0 < n) (h1 : B [0] ≠ 1) (h2 : B [0] ≠ 0) (hn3 : n ≤ 300) (eN : rN (bytesOf B [] 0 n) = 0) (eA : decide ((bytesOf B [] 0 n) = [1]) = false) (eC : rC (bytesOf B [] 0 n) = 5)  :
    RunsTo Tryd.prog 10 (cutOf Tryd.f10 8) (envAt Tryd.f10.ntmps ([(1, vL 101 1 n)])) (Sx.look (XL t0 t1 t2 t3 t4 t5 t6 t7 t8 t9 t10 t11 t12 t13 t14 t15 N n V O B ++ ([]))) 110 (YES) (Sx.look ([])) 4000 := by
  have hlen : (bytesOf B [] 0 n).length = n := bytesOf_len B [] 0 n
  have s0 := fun a b c d => sameF0 a b c d
  have hn : numOf 25 = 5 := rfl
  refine runs_last basePFo (Sx.Ends.of (c8Fo_p0 t0 t1 t2 t3 t4 t5 t6 t7 t8 t9 t10 t11 t12 t13 t14 t15 N n V O B) ⟨?oo, ?rr⟩) (by kernel_rfl) rfl (gtL (by decide)) (by decide)
  case oo =>
    refine (okc ?_ (okc ?_ (okc ?_ (okc ?_ (okc ?_ (okc ?_ (okc ?_ (okc ?_ okn))))))))
    all_goals first | omega | (simp (disch := omega) only [SS, eN, eA, eC, hlen, s0, hn]; first | done | omega) | (simp_all; done) | (simp_all; omega) | rfl
  case rr =>
    refine ⟨?_, ?_⟩ <;> first | trivial | (simp (disch := omega) only [SS, eN, eA, eC, hlen, s0, hn]; done) | (simp_all; done) | rfl

theorem c8Ev_p0 (t0 t1 t2 t3 t4 t5 t6 t7 t8 t9 t10 t11 t12 t13 t14 t15 : List UInt8) (N n : Nat) (V O B : Ix → Int) :
    isEnd (evTill Tryd.prog sumsPEv 600 (99) 900 10 (cutOf Tryd.f10 8) (envAt Tryd.f10.ntmps ([(1, vL 101 1 n)])) (XL t0 t1 t2 t3 t4 t5 t6 t7 t8 t9 t10 t11 t12 t13 t14 t15 N n V O B ++ ([])) ⟨[.s true, .s true, .s true, .s true, .t, .s true, .t, .t, .s true, .s true, .s true, .t], 130⟩) (endP ([]) (YES) ([]) 4000) =
    (OkL [(n.beq n, true), (decide ((0 : Nat) < n) && decide (B [(0 : Nat)] = (0 : Int)) && decide (n % (2 : Nat) = (0 : Nat)), true), (((0 : Nat) + n).ble n, true), (decide ((bytesOf B [] (0 : Nat) n).length ≤ (1000 : Nat)), true), ((rN (bytesOf B [] (0 : Nat) n)).beq (rN (bytesOf B [] (0 : Nat) n)), true), (sameF (0 : Nat) (rN (bytesOf B [] (0 : Nat) n)) (fun x => (0 : Int)) (pV (sB (bytesOf B [] (0 : Nat) n))) (fun x => (0 : Int)) (pO (sB (bytesOf B [] (0 : Nat) n))), true), (false == decide (bytesOf B [] (0 : Nat) n = [(1 : UInt8)]), true), (numOf (if true = true then (28 : Nat) else (130 : Nat)) == rC (bytesOf B [] (0 : Nat) n), true)] ∧ true = true ∧ True) := by kernel_rfl

set_option maxHeartbeats 4000000 in
theorem c8Ev (t0 t1 t2 t3 t4 t5 t6 t7 t8 t9 t10 t11 t12 t13 t14 t15 : List UInt8) (N n : Nat) (V O B : Ix → Int) (h : 0 < n) (h1 : B [0] = 0) (h2 : n % 2 = 0) (hn3 : n ≤ 300) (eN : rN (bytesOf B [] 0 n) = 0) (eA : decide ((bytesOf B [] 0 n) = [1]) = false) (eC : rC (bytesOf B [] 0 n) = 3)  :
    RunsTo Tryd.prog 10 (cutOf Tryd.f10 8) (envAt Tryd.f10.ntmps ([(1, vL 101 1 n)])) (Sx.look (XL t0 t1 t2 t3 t4 t5 t6 t7 t8 t9 t10 t11 t12 t13 t14 t15 N n V O B ++ ([]))) 110 (YES) (Sx.look ([])) 4000 := by
  have hlen : (bytesOf B [] 0 n).length = n := bytesOf_len B [] 0 n
  have s0 := fun a b c d => sameF0 a b c d
  have hn : numOf 28 = 3 := rfl
  refine runs_last basePEv (Sx.Ends.of (c8Ev_p0 t0 t1 t2 t3 t4 t5 t6 t7 t8 t9 t10 t11 t12 t13 t14 t15 N n V O B) ⟨?oo, ?rr⟩) (by kernel_rfl) rfl (gtL (by decide)) (by decide)
  case oo =>
    refine (okc ?_ (okc ?_ (okc ?_ (okc ?_ (okc ?_ (okc ?_ (okc ?_ (okc ?_ okn))))))))
    all_goals first | omega | (simp (disch := omega) only [SS, eN, eA, eC, hlen, s0, hn]; first | done | omega) | (simp_all; done) | (simp_all; omega) | rfl
  case rr =>
    refine ⟨?_, ?_⟩ <;> first | trivial | (simp (disch := omega) only [SS, eN, eA, eC, hlen, s0, hn]; done) | (simp_all; done) | rfl

theorem c8Ok_p0 (t0 t1 t2 t3 t4 t5 t6 t7 t8 t9 t10 t11 t12 t13 t14 t15 : List UInt8) (N n : Nat) (V O B : Ix → Int) :
    isEnd (evTill Tryd.prog sumsPOk 600 (99) 900 10 (cutOf Tryd.f10 8) (envAt Tryd.f10.ntmps ([(1, vL 101 1 n)])) (XL t0 t1 t2 t3 t4 t5 t6 t7 t8 t9 t10 t11 t12 t13 t14 t15 N n V O B ++ ([])) ⟨[.s true, .s true, .s true, .s true, .s true, .s true, .s true, .s true, .s true, .s true, .s true, .s true, .t], 130⟩) (endP ([]) (YES) ([]) 4000) =
    (OkL [(n.beq n, true), (decide (B [(0 : Nat)] = (0 : Int)) && decide (n % (2 : Nat) = (1 : Nat)) && decide (n ≤ (1000 : Nat)) && bndB B n && vb B ((n - (1 : Nat)) / (2 : Nat)) (0 : Nat) == true, true), (((0 : Nat) + n).ble n, true), (decide ((bytesOf B [] (0 : Nat) n).length ≤ (1000 : Nat)), true), (((n - (1 : Nat)) / (2 : Nat)).beq ((n - (1 : Nat)) / (2 : Nat)), true), (decide ((n - (1 : Nat)) / (2 : Nat) ≤ (1000 : Nat)), true), ((rN (bytesOf B [] (0 : Nat) n)).beq (rN (bytesOf B [] (0 : Nat) n)), true), (((n - (1 : Nat)) / (2 : Nat)).beq ((n - (1 : Nat)) / (2 : Nat)), true), (decide ((n - (1 : Nat)) / (2 : Nat) ≤ (1000 : Nat)), true), (sameF ((n - (1 : Nat)) / (2 : Nat)) (rN (bytesOf B [] (0 : Nat) n)) (pV B) (pV (sB (bytesOf B [] (0 : Nat) n))) (pO B) (pO (sB (bytesOf B [] (0 : Nat) n))), true), (false == decide (bytesOf B [] (0 : Nat) n = [(1 : UInt8)]), true), ((0 : Int) == rC (bytesOf B [] (0 : Nat) n), true)] ∧ true = true ∧ True) := by kernel_rfl

set_option maxHeartbeats 4000000 in
theorem c8Ok (t0 t1 t2 t3 t4 t5 t6 t7 t8 t9 t10 t11 t12 t13 t14 t15 : List UInt8) (N n : Nat) (V O B : Ix → Int) (hpa : (decide (B [0] = 0) && decide (n % 2 = 1) && decide (n ≤ 1000) && bndB B n && (vb B ((n - 1) / 2) 0 == true)) = true) (hS : sameF ((n - 1) / 2) ((n - 1) / 2) (pV B) (pV (sB (bytesOf B [] 0 n))) (pO B) (pO (sB (bytesOf B [] 0 n))) = true) (hn3 : n ≤ 300) (eN : rN (bytesOf B [] 0 n) = (n - 1) / 2) (eA : decide ((bytesOf B [] 0 n) = [1]) = false) (eC : rC (bytesOf B [] 0 n) = 0)  :
    RunsTo Tryd.prog 10 (cutOf Tryd.f10 8) (envAt Tryd.f10.ntmps ([(1, vL 101 1 n)])) (Sx.look (XL t0 t1 t2 t3 t4 t5 t6 t7 t8 t9 t10 t11 t12 t13 t14 t15 N n V O B ++ ([]))) 110 (YES) (Sx.look ([])) 4000 := by
  have hlen : (bytesOf B [] 0 n).length = n := bytesOf_len B [] 0 n
  have s0 := fun a b c d => sameF0 a b c d
  refine runs_last basePOk (Sx.Ends.of (c8Ok_p0 t0 t1 t2 t3 t4 t5 t6 t7 t8 t9 t10 t11 t12 t13 t14 t15 N n V O B) ⟨?oo, ?rr⟩) (by kernel_rfl) rfl (gtL (by decide)) (by decide)
  case oo =>
    refine (okc ?_ (okc ?_ (okc ?_ (okc ?_ (okc ?_ (okc ?_ (okc ?_ (okc ?_ (okc ?_ (okc ?_ (okc ?_ (okc ?_ okn))))))))))))
    all_goals first | omega | exact hpa | exact hS | (simp (disch := omega) only [SS, eN, eA, eC, hlen, s0, hS]; first | done | omega) | (simp_all; done) | (simp_all; omega) | rfl
  case rr =>
    refine ⟨?_, ?_⟩ <;> first | trivial | (simp (disch := omega) only [SS, eN, eA, eC, hlen, s0, hS]; done) | (simp_all; done) | rfl

theorem c8Ki_p0 (t0 t1 t2 t3 t4 t5 t6 t7 t8 t9 t10 t11 t12 t13 t14 t15 : List UInt8) (N n : Nat) (V O B : Ix → Int) :
    isEnd (evTill Tryd.prog sumsPKi 600 (99) 900 10 (cutOf Tryd.f10 8) (envAt Tryd.f10.ntmps ([(1, vL 101 1 n)])) (XL t0 t1 t2 t3 t4 t5 t6 t7 t8 t9 t10 t11 t12 t13 t14 t15 N n V O B ++ ([])) ⟨[.s true, .s true, .s true, .s true, .t, .s true, .t, .t, .s true, .s true, .s true, .t], 130⟩) (endP ([]) (YES) ([]) 4000) =
    (OkL [(n.beq n, true), (decide (B [(0 : Nat)] = (0 : Int)) && decide (n % (2 : Nat) = (1 : Nat)) && decide (n ≤ (1000 : Nat)) && bndB B n && vb B ((n - (1 : Nat)) / (2 : Nat)) (0 : Nat) == false, true), (((0 : Nat) + n).ble n, true), (decide ((bytesOf B [] (0 : Nat) n).length ≤ (1000 : Nat)), true), ((rN (bytesOf B [] (0 : Nat) n)).beq (rN (bytesOf B [] (0 : Nat) n)), true), (sameF (0 : Nat) (rN (bytesOf B [] (0 : Nat) n)) (fun x => (0 : Int)) (pV (sB (bytesOf B [] (0 : Nat) n))) (fun x => (0 : Int)) (pO (sB (bytesOf B [] (0 : Nat) n))), true), (false == decide (bytesOf B [] (0 : Nat) n = [(1 : UInt8)]), true), (numOf (if true = true then (30 : Nat) else (130 : Nat)) == rC (bytesOf B [] (0 : Nat) n), true)] ∧ true = true ∧ True) := by kernel_rfl

set_option maxHeartbeats 4000000 in
theorem c8Ki (t0 t1 t2 t3 t4 t5 t6 t7 t8 t9 t10 t11 t12 t13 t14 t15 : List UInt8) (N n : Nat) (V O B : Ix → Int) (hpa : (decide (B [0] = 0) && decide (n % 2 = 1) && decide (n ≤ 1000) && bndB B n && (vb B ((n - 1) / 2) 0 == false)) = true) (hn3 : n ≤ 300) (eN : rN (bytesOf B [] 0 n) = 0) (eA : decide ((bytesOf B [] 0 n) = [1]) = false) (eC : rC (bytesOf B [] 0 n) = 9)  :
    RunsTo Tryd.prog 10 (cutOf Tryd.f10 8) (envAt Tryd.f10.ntmps ([(1, vL 101 1 n)])) (Sx.look (XL t0 t1 t2 t3 t4 t5 t6 t7 t8 t9 t10 t11 t12 t13 t14 t15 N n V O B ++ ([]))) 110 (YES) (Sx.look ([])) 4000 := by
  have hlen : (bytesOf B [] 0 n).length = n := bytesOf_len B [] 0 n
  have s0 := fun a b c d => sameF0 a b c d
  have hn : numOf 30 = 9 := rfl
  refine runs_last basePKi (Sx.Ends.of (c8Ki_p0 t0 t1 t2 t3 t4 t5 t6 t7 t8 t9 t10 t11 t12 t13 t14 t15 N n V O B) ⟨?oo, ?rr⟩) (by kernel_rfl) rfl (gtL (by decide)) (by decide)
  case oo =>
    refine (okc ?_ (okc ?_ (okc ?_ (okc ?_ (okc ?_ (okc ?_ (okc ?_ (okc ?_ okn))))))))
    all_goals first | omega | exact hpa | (simp (disch := omega) only [SS, eN, eA, eC, hlen, s0, hn]; first | done | omega) | (simp_all; done) | (simp_all; omega) | rfl
  case rr =>
    refine ⟨?_, ?_⟩ <;> first | trivial | (simp (disch := omega) only [SS, eN, eA, eC, hlen, s0, hn]; done) | (simp_all; done) | rfl

end Go.Proofs.YtealbjkhjpmilaaDoor

set_option linter.unusedSimpArgs false
set_option linter.unusedVariables false
set_option maxRecDepth 100000
namespace Go.Proofs.YtealbjkhjpmilaaDoor
open Go.Sx
open DecR

theorem fb_ok {V O : Ix → Int} : ∀ (k i : Nat), fb V O k i = 0 → ∀ j, i ≤ j → j < i + k → okV (V [j]) = true ∧ okO (O [j]) = true
  | 0, i, _, j, h1, h2 => by omega
  | k + 1, i, h, j, h1, h2 => by
    simp only [fb] at h
    split at h
    · omega
    · split at h
      · omega
      · rename_i a b
        by_cases e : j = i
        · subst e; exact ⟨by simpa using a, by simpa using b⟩
        · exact fb_ok k (i + 1) h j (by omega) (by omega)
theorem bodyL_get (V O : Ix → Int) : ∀ (i k : Nat), k < i → (bodyL V O i).getD (2 * k + 1) 0 = UInt8.ofNat (V [k]).toNat ∧ (bodyL V O i).getD (2 * k + 2) 0 = UInt8.ofNat (O [k]).toNat
  | 0, k, h => by omega
  | i + 1, k, h => by
    have hl := bodyL_len V O i
    simp only [bodyL]
    by_cases e : k = i
    · subst e
      have h1 : 2 * k + 1 = (bodyL V O k).length + 0 := by omega
      have h2 : 2 * k + 2 = (bodyL V O k).length + 1 := by omega
      rw [h1, h2, getD_right rfl, getD_right rfl]
      exact ⟨rfl, rfl⟩
    · rw [getD_left (by omega), getD_left (by omega)]
      exact bodyL_get V O i k (by omega)
theorem bodyL_0 (V O : Ix → Int) : ∀ i, (bodyL V O i).getD 0 0 = 0
  | 0 => rfl
  | i + 1 => by
    have hl := bodyL_len V O i
    simp only [bodyL]
    rw [getD_left (by omega)]
    exact bodyL_0 V O i
theorem vb_true {B : Ix → Int} : ∀ (k j : Nat), (∀ x, j ≤ x → x < j + k → okV (B [2 * x + 1]) = true) → vb B k j = true
  | 0, _, _ => rfl
  | k + 1, j, h => by
    simp only [vb]
    rw [h j (by omega) (by omega), vb_true k (j + 1) (fun x h1 h2 => h x (by omega) (by omega))]
    rfl
theorem vb_congr {A B : Ix → Int} : ∀ (k j : Nat), (∀ x, j ≤ x → x < j + k → A [2 * x + 1] = B [2 * x + 1]) → vb A k j = vb B k j
  | 0, _, _ => rfl
  | k + 1, j, h => by
    simp only [vb]
    rw [h j (by omega) (by omega), vb_congr k (j + 1) (fun x h1 h2 => h x (by omega) (by omega))]

section
variable (t0 t1 t2 t3 t4 t5 t6 t7 t8 t9 t10 t11 t12 t13 t14 t15 : List UInt8) (N n : Nat) (V O B : Ix → Int)

theorem status_back (h1 : N ≤ 120) (h2 : fb V O N 0 = 0) : ((decide ((fun is => (((bodyL V O N).getD (is.headD 0) 0).toNat : Int)) [0] = 0) && decide ((bodyL V O N).length % 2 = 1) && decide ((bodyL V O N).length ≤ 1000) && bndB (fun is => (((bodyL V O N).getD (is.headD 0) 0).toNat : Int)) (bodyL V O N).length && (vb (fun is => (((bodyL V O N).getD (is.headD 0) 0).toNat : Int)) (((bodyL V O N).length - 1) / 2) 0 == true)) = true) ∧ sameF (((bodyL V O N).length - 1) / 2) N (pV (fun is => (((bodyL V O N).getD (is.headD 0) 0).toNat : Int))) V (pO (fun is => (((bodyL V O N).getD (is.headD 0) 0).toNat : Int))) O = true := by
  have hl := bodyL_len V O N
  have hm : ((bodyL V O N).length - 1) / 2 = N := by omega
  have hok := fb_ok N 0 h2
  have hv : ∀ k, k < N → pV (fun is => (((bodyL V O N).getD (is.headD 0) 0).toNat : Int)) [k] = V [k] ∧ pO (fun is => (((bodyL V O N).getD (is.headD 0) 0).toNat : Int)) [k] = O [k] := fun k hk => by
    obtain ⟨g1, g2⟩ := bodyL_get V O N k hk
    obtain ⟨o1, o2⟩ := hok k (by omega) (by omega)
    have o1 := okV_iff.1 o1
    have o2 := okO_iff.1 o2
    simp only [pV, pO, List.headD_cons, g1, g2]
    exact ⟨u8of (by omega), u8of (by omega)⟩
  constructor
  · rw [decide_eq_true (show (fun is => (((bodyL V O N).getD (is.headD 0) 0).toNat : Int)) [0] = 0 by simp only [List.headD_cons, bodyL_0]; rfl), decide_eq_true (show (bodyL V O N).length % 2 = 1 by omega), decide_eq_true (show (bodyL V O N).length ≤ 1000 by omega), bndB_str, hm,
      vb_true N 0 (fun x _ hx => by
        have := (hv x (by omega)).1
        simp only [pV, List.headD_cons] at this
        simp only [List.headD_cons]
        rw [this]
        exact (hok x (by omega) (by omega)).1)]
    rfl
  · rw [hm]
    unfold sameF
    rw [decide_eq_true rfl, allEq_of (fun k hk => (hv k hk).1), allEq_of (fun k hk => (hv k hk).2)]
    rfl

theorem status_tail (hn3 : n ≤ 300) (hB : ∀ i, i < n → 0 ≤ B [i] ∧ B [i] < 256) : RunsTo Tryd.prog 10 (cutOf Tryd.f10 8) (envAt Tryd.f10.ntmps ([(1, vL 101 1 n)])) (Sx.look (XL t0 t1 t2 t3 t4 t5 t6 t7 t8 t9 t10 t11 t12 t13 t14 t15 N n V O B ++ ([]))) 110 (YES) (Sx.look []) 4000 := by
  have hlen : (bytesOf B [] 0 n).length = n := bytesOf_len B [] 0 n
  have hs : ∀ i, i < n → sB (bytesOf B [] 0 n) [i] = B [i] := fun i hi => by
    have := bytesOf_nat (B := B) (is := []) (st := 0) (n := n) hi (by simpa using hB i hi)
    simpa [sB] using this
  have h1 : bytesOf B [] 0 n = [1] ↔ n = 1 ∧ B [0] = 1 := by
    constructor
    · intro e
      have e1 : n = 1 := by rw [← hlen, e]; rfl
      have := hs 0 (by omega)
      rw [e] at this
      exact ⟨e1, this.symm⟩
    · rintro ⟨e1, e2⟩
      subst e1
      simp [bytesOf, e2]
  have h0 : 0 < n → (((bytesOf B [] 0 n).getD 0 0).toNat : Int) = B [0] := fun h => by
    have := hs 0 h
    simpa [sB] using this
  rcases Nat.eq_zero_or_pos n with hz | hp
  · have e : bytesOf B [] 0 n = [] := by rw [hz]; rfl
    exact c8Sh t0 t1 t2 t3 t4 t5 t6 t7 t8 t9 t10 t11 t12 t13 t14 t15 N n V O B hz hn3 (by rw [e]; rfl) (by rw [e]; rfl) (by rw [e]; rfl)
  · have hb0 := hB 0 hp
    have g0 := h0 hp
    by_cases a1 : B [0] = 1
    · have rn : rN (bytesOf B [] 0 n) = 0 := by unfold rN rOk; rw [decide_eq_false (by omega)]; rfl
      by_cases a2 : n = 1
      · have e := h1.2 ⟨a2, a1⟩
        exact c8As t0 t1 t2 t3 t4 t5 t6 t7 t8 t9 t10 t11 t12 t13 t14 t15 N n V O B a2 a1 hn3 rn (decide_eq_true e) (by rw [e]; rfl)
      · have ne : ¬ bytesOf B [] 0 n = [1] := fun e => a2 (h1.1 e).1
        exact c8Lo t0 t1 t2 t3 t4 t5 t6 t7 t8 t9 t10 t11 t12 t13 t14 t15 N n V O B (by omega) a1 hn3 rn (decide_eq_false ne) (by unfold rC; rw [if_neg (by omega), if_neg ne, if_pos (by omega)])
    · have ne : ¬ bytesOf B [] 0 n = [1] := fun e => a1 (h1.1 e).2
      by_cases a2 : B [0] = 0
      · have gz : ((bytesOf B [] 0 n).getD 0 0).toNat = 0 := by omega
        by_cases a3 : n % 2 = 0
        · have rn : rN (bytesOf B [] 0 n) = 0 := by unfold rN rOk; rw [decide_eq_false (by omega)]; rfl
          exact c8Ev t0 t1 t2 t3 t4 t5 t6 t7 t8 t9 t10 t11 t12 t13 t14 t15 N n V O B hp a2 a3 hn3 rn (decide_eq_false ne) (by unfold rC; rw [if_neg (by omega), if_neg ne, if_neg (by omega), if_neg (by omega), if_pos (by omega)])
        · have hv : vb (sB (bytesOf B [] 0 n)) (((bytesOf B [] 0 n).length - 1) / 2) 0 = vb B ((n - 1) / 2) 0 := by
            rw [hlen]
            exact vb_congr _ _ (fun x _ hx => hs _ (by omega))
          have hbnd : bndB B n = true := bndB_of hB
          cases hq : vb B ((n - 1) / 2) 0 with
          | true =>
            have rn : rN (bytesOf B [] 0 n) = (n - 1) / 2 := by
              unfold rN rOk
              rw [hv, hq, decide_eq_true (by refine ⟨by omega, gz, by omega⟩), hlen]
              rfl
            refine c8Ok t0 t1 t2 t3 t4 t5 t6 t7 t8 t9 t10 t11 t12 t13 t14 t15 N n V O B ?_ ?_ hn3 rn (decide_eq_false ne) ?_
            · rw [decide_eq_true a2, decide_eq_true (show n % 2 = 1 by omega), decide_eq_true (show n ≤ 1000 by omega), hbnd, hq]; rfl
            · unfold sameF
              rw [decide_eq_true rfl, allEq_of (fun k hk => (show B [2 * k + 1] = sB (bytesOf B [] 0 n) [2 * k + 1] from (hs _ (by omega)).symm)), allEq_of (fun k hk => (show B [2 * k + 2] = sB (bytesOf B [] 0 n) [2 * k + 2] from (hs _ (by omega)).symm))]
              rfl
            · unfold rC
              rw [if_neg (by omega), if_neg ne, if_neg (by omega), if_neg (by omega), if_neg (by omega), if_pos (by rw [hv, hq])]
          | false =>
            have rn : rN (bytesOf B [] 0 n) = 0 := by
              unfold rN rOk
              rw [hv, hq, Bool.and_false]
              rfl
            refine c8Ki t0 t1 t2 t3 t4 t5 t6 t7 t8 t9 t10 t11 t12 t13 t14 t15 N n V O B ?_ hn3 rn (decide_eq_false ne) ?_
            · rw [decide_eq_true a2, decide_eq_true (show n % 2 = 1 by omega), decide_eq_true (show n ≤ 1000 by omega), hbnd, hq]; rfl
            · unfold rC
              rw [if_neg (by omega), if_neg ne, if_neg (by omega), if_neg (by omega), if_neg (by omega), if_neg (by rw [hv, hq]; simp)]
      · have rn : rN (bytesOf B [] 0 n) = 0 := by unfold rN rOk; rw [decide_eq_false (by omega)]; rfl
        exact c8Fo t0 t1 t2 t3 t4 t5 t6 t7 t8 t9 t10 t11 t12 t13 t14 t15 N n V O B hp a1 a2 hn3 rn (decide_eq_false ne) (by unfold rC; rw [if_neg (by omega), if_neg ne, if_neg (by omega), if_pos (by omega)])

theorem status_law (hB : ∀ i, i < n → 0 ≤ B [i] ∧ B [i] < 256) : RunsTo Tryd.prog 10 [.code (bodyOf Tryd.f10)] (envOf [vL 100 2 N, vL 101 1 n] Tryd.f10.ntmps) (Sx.look (XL t0 t1 t2 t3 t4 t5 t6 t7 t8 t9 t10 t11 t12 t13 t14 t15 N n V O B ++ ([]))) 110 (YES) (Sx.look []) 4000 := by
  by_cases hN : N ≤ 150
  · by_cases hn3 : n ≤ 300
    · refine stStart t0 t1 t2 t3 t4 t5 t6 t7 t8 t9 t10 t11 t12 t13 t14 t15 N n V O B hN hn3 ?_
      have ht := status_tail t0 t1 t2 t3 t4 t5 t6 t7 t8 t9 t10 t11 t12 t13 t14 t15 N n V O B hn3 hB
      by_cases h1 : N ≤ 120
      · rcases fb_cases V O N 0 with h2 | h2 | h2
        · obtain ⟨hpa, hS⟩ := status_back N V O h1 h2
          exact c3Ok t0 t1 t2 t3 t4 t5 t6 t7 t8 t9 t10 t11 t12 t13 t14 t15 N n V O B hN hn3 h1 h2 hpa hS ht
        · exact c3Ki t0 t1 t2 t3 t4 t5 t6 t7 t8 t9 t10 t11 t12 t13 t14 t15 N n V O B hN hn3 h1 h2 ht
        · exact c3Ra t0 t1 t2 t3 t4 t5 t6 t7 t8 t9 t10 t11 t12 t13 t14 t15 N n V O B hN hn3 h1 h2 ht
      · exact c3Lo t0 t1 t2 t3 t4 t5 t6 t7 t8 t9 t10 t11 t12 t13 t14 t15 N n V O B hN hn3 (by omega) ht
    · exact stn t0 t1 t2 t3 t4 t5 t6 t7 t8 t9 t10 t11 t12 t13 t14 t15 N n V O B hN (by omega)
  · exact stN t0 t1 t2 t3 t4 t5 t6 t7 t8 t9 t10 t11 t12 t13 t14 t15 N n V O B (by omega)
end
end Go.Proofs.YtealbjkhjpmilaaDoor

