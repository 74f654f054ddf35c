/- Modes: bodies. -/
import Derived.Test.YtealbjkhjpmilaaDoorYbC
set_option linter.unusedSimpArgs false
set_option linter.unusedVariables false
set_option maxRecDepth 100000
namespace Go.Proofs.YtealbjkhjpmilaaDoor
open Go.Sx


def allG (t0 t1 t2 t3 t4 t5 t6 t7 t8 t9 t10 t11 t12 t13 t14 t15 : List UInt8) : List Ent := sentEnts 25 223 [(7, t0), (8, t1), (3, t2), (4, t3), (0, t4), (9, t5), (10, t6), (2, t7), (5, t8), (1, t9), (11, t10), (12, t11), (13, t12), (14, t13), (15, t14), (16, t15)]
theorem bl_len (B : Ix → Int) (n : Nat) : (bytesOf B [] 0 n).length = n := by simp [bytesOf]
theorem by_get {B : Ix → Int} {n i : Nat} (hi : i < n) (h : 0 ≤ B [i] ∧ B [i] < 256) : ((((bytesOf B [] 0 n).getD i 0).toNat : Nat) : Int) = B [i] := by
  simp [bytesOf, List.getD, List.getElem?_map, hi]
  omega
theorem rightI_p0 (m : Int) :
    isEnd (evTill Tryd.prog [] 300 (99) 900 36 [.code (bodyOf Tryd.f36)] (envOf [vN m] Tryd.f36.ntmps) ([]) ⟨[.s false], 80⟩) (endP ([]) (vB (rightC m)) [] 90) =
    (OkL [(decide (m ≥ (0 : Int)), false)] ∧ rightC m = false ∧ True) := by kernel_rfl
theorem rightI_p1 (m : Int) :
    isEnd (evTill Tryd.prog [] 300 (99) 900 36 [.code (bodyOf Tryd.f36)] (envOf [vN m] Tryd.f36.ntmps) ([]) ⟨[.s true], 80⟩) (endP ([]) (vB (rightC m)) [] 90) =
    (OkL [(decide (m ≥ (0 : Int)), true)] ∧ rightC m = (iandn IntKind.i64 m (27 : Int) == (0 : Int)) ∧ True) := by kernel_rfl

set_option maxHeartbeats 4000000 in
theorem rightI (m : Int)  :
    RunsTo Tryd.prog 36 [.code (bodyOf Tryd.f36)] (envOf [vN m] Tryd.f36.ntmps) (Sx.look ([])) 80 (vB (rightC m)) (Sx.look ([])) 90 := by
  refine bcase (c := (decide (m ≥ (0 : Int)))) (fun gg0 => ?_) (fun gg0 => ?_)
  · exact runs_last baseO (Sx.Ends.of (rightI_p0 m) ⟨(okc gg0 okn), by simp only [SS] at *; first | (simp_all [rightC, q2]; done) | (simp_all [rightC, q2]; intros; omega), trivial⟩) (by kernel_rfl) rfl (gtL (by decide)) (by decide)
  · exact runs_last baseO (Sx.Ends.of (rightI_p1 m) ⟨(okc gg0 okn), by simp only [SS] at *; first | (simp_all [rightC, q2]; done) | (simp_all [rightC, q2]; intros; omega), trivial⟩) (by kernel_rfl) rfl (gtL (by decide)) (by decide)

theorem rrightI_p0 (m : Int) :
    isEnd (evTill Tryd.prog [] 300 (99) 900 33 [.code (bodyOf Tryd.f33)] (envOf [vN m] Tryd.f33.ntmps) ([]) ⟨[.s false], 80⟩) (endP ([]) (vB (rightR m)) [] 90) =
    (OkL [(decide (m ≥ (0 : Int)), false)] ∧ rightR m = false ∧ True) := by kernel_rfl
theorem rrightI_p1 (m : Int) :
    isEnd (evTill Tryd.prog [] 300 (99) 900 33 [.code (bodyOf Tryd.f33)] (envOf [vN m] Tryd.f33.ntmps) ([]) ⟨[.s true, .s false], 80⟩) (endP ([]) (vB (rightR m)) [] 90) =
    (OkL [(decide (m ≥ (0 : Int)), true), (decide (m < (32 : Int)), false)] ∧ rightR m = false ∧ True) := by kernel_rfl
theorem rrightI_p2 (m : Int) :
    isEnd (evTill Tryd.prog [] 300 (99) 900 33 [.code (bodyOf Tryd.f33)] (envOf [vN m] Tryd.f33.ntmps) ([]) ⟨[.s true, .s true, .t, .t], 80⟩) (endP ([]) (vB (rightR m)) [] 90) =
    (OkL [(decide (m ≥ (0 : Int)), true), (decide (m < (32 : Int)), true)] ∧ rightR m = ((IntKind.i64.wrap (m.tdiv (4 : Int))).tmod (2 : Int) == (0 : Int)) ∧ True) := by kernel_rfl

set_option maxHeartbeats 4000000 in
theorem rrightI (m : Int)  :
    RunsTo Tryd.prog 33 [.code (bodyOf Tryd.f33)] (envOf [vN m] Tryd.f33.ntmps) (Sx.look ([])) 80 (vB (rightR m)) (Sx.look ([])) 90 := by
  refine bcase (c := (decide (m ≥ (0 : Int)))) (fun gg0 => ?_) (fun gg0 => ?_)
  · exact runs_last baseO (Sx.Ends.of (rrightI_p0 m) ⟨(okc gg0 okn), by simp only [SS] at *; first | (simp_all [rightR, q2]; done) | (simp_all [rightR, q2]; intros; omega), trivial⟩) (by kernel_rfl) rfl (gtL (by decide)) (by decide)
  · refine bcase (c := (decide (m < (32 : Int)))) (fun gg1 => ?_) (fun gg1 => ?_)
    · exact runs_last baseO (Sx.Ends.of (rrightI_p1 m) ⟨(okc gg0 (okc gg1 okn)), by simp only [SS] at *; first | (simp_all [rightR, q2]; done) | (simp_all [rightR, q2]; intros; omega), trivial⟩) (by kernel_rfl) rfl (gtL (by decide)) (by decide)
    · exact runs_last baseO (Sx.Ends.of (rrightI_p2 m) ⟨(okc gg0 (okc gg1 okn)), by simp only [SS] at *; first | (simp_all [rightR, q2]; done) | (simp_all [rightR, q2]; intros; omega), trivial⟩) (by kernel_rfl) rfl (gtL (by decide)) (by decide)

def rightPC : PC := { args := [.v (.vi .i64 0)], heap := [], gs := [], G := 25, tp := 223, n := 80, n' := 90, cond := fun e => true, v := fun e => vB (rightC (eI e 0 [])), post := fun e => [] }
theorem right_pc : PC.Runs Tryd.prog 36 Tryd.f36 (bodyOf Tryd.f36) rightPC := ⟨Tryd.func36, by kernel_rfl, (fun g hg => by cases hg), fun e H hc => rightI (eI e 0 [])⟩
def rrightPC : PC := { args := [.v (.vi .i64 0)], heap := [], gs := [], G := 25, tp := 223, n := 80, n' := 90, cond := fun e => true, v := fun e => vB (rightR (eI e 0 [])), post := fun e => [] }
theorem rright_pc : PC.Runs Tryd.prog 33 Tryd.f33 (bodyOf Tryd.f33) rrightPC := ⟨Tryd.func33, by kernel_rfl, (fun g hg => by cases hg), fun e H hc => rrightI (eI e 0 [])⟩
def sumsC : List (FuncId × Summ) := [(35, numS), (14, aliveC.summ 50), (37, wordsPC.summ 50), (34, rwordsPC.summ 50), (36, rightPC.summ 50), (33, rrightPC.summ 50)]
theorem baseC : Base0 Tryd.prog sumsC := ((((((baseO.cons Tryd.func33 (by kernel_rfl) (PC.summ_ok rright_pc gtop50)).cons Tryd.func36 (by kernel_rfl) (PC.summ_ok right_pc gtop50)).cons Tryd.func34 (by kernel_rfl) (PC.summ_ok rwords_pc gtop50)).cons Tryd.func37 (by kernel_rfl) (PC.summ_ok words_pc gtop50)).cons Tryd.func14 (by kernel_rfl) (PC.summ_ok alive_pc gtop50)).cons Tryd.func35 (by kernel_rfl) numS_ok)
theorem mbLong_p0 (t0 t1 t2 t3 t4 t5 t6 t7 t8 t9 t10 t11 t12 t13 t14 t15 : List UInt8) (N : Nat) (B : Ix → Int) (m : Int) :
    isEnd (evTill Tryd.prog sumsC 300 (99) 900 5 [.code (bodyOf Tryd.f5)] (envOf [vL 100 1 N, vN m] Tryd.f5.ntmps) (allG t0 t1 t2 t3 t4 t5 t6 t7 t8 t9 t10 t11 t12 t13 t14 t15 ++ [⟨100, false, none, 1, .ta N (.vi .u8 B)⟩]) ⟨[.t, .f, .s true], 110⟩) (endP ([]) YES [] 400) =
    (OkL [(decide ((↑N : Int) > (50 : Int)), true)] ∧ true = true ∧ True) := by kernel_rfl

set_option maxHeartbeats 4000000 in
theorem mbLong (t0 t1 t2 t3 t4 t5 t6 t7 t8 t9 t10 t11 t12 t13 t14 t15 : List UInt8) (N : Nat) (B : Ix → Int) (m : Int) (hB : ∀ i, i < N → 0 ≤ B [i] ∧ B [i] < 256) (hm : -9223372036854775808 ≤ m ∧ m < 9223372036854775808) (hN : 50 < N) :
    RunsTo Tryd.prog 5 [.code (bodyOf Tryd.f5)] (envOf [vL 100 1 N, vN m] Tryd.f5.ntmps) (Sx.look (allG t0 t1 t2 t3 t4 t5 t6 t7 t8 t9 t10 t11 t12 t13 t14 t15 ++ [⟨100, false, none, 1, .ta N (.vi .u8 B)⟩])) 110 (YES) (Sx.look ([])) 400 := by
  have hre := right_eq hm.1 hm.2
  refine runs_last baseC (Sx.Ends.of (mbLong_p0 t0 t1 t2 t3 t4 t5 t6 t7 t8 t9 t10 t11 t12 t13 t14 t15 N B m) ⟨?oo, ?rr⟩) (by kernel_rfl) rfl (gtL (by decide)) (by decide)
  case oo =>
    refine (okc ?_ okn)
    all_goals ((try simp (disch := omega) only [SS, bl_len]); first | done | omega | assumption | (simp (disch := omega) only [SS, bl_len] at *; first | done | omega | assumption) | (simp_all; done) | grind)
  case rr =>
    first | trivial | (simp; done) | (refine ⟨?_, trivial⟩; (try simp (disch := omega) only [SS, bl_len]); first | done | omega | assumption | (simp (disch := omega) only [SS, bl_len] at *; first | done | omega | assumption) | (simp_all; done) | grind)

theorem mbShort_p0 (t0 t1 t2 t3 t4 t5 t6 t7 t8 t9 t10 t11 t12 t13 t14 t15 : List UInt8) (N : Nat) (B : Ix → Int) (m : Int) :
    isEnd (evTill Tryd.prog sumsC 300 (99) 900 5 [.code (bodyOf Tryd.f5)] (envOf [vL 100 1 N, vN m] Tryd.f5.ntmps) (allG t0 t1 t2 t3 t4 t5 t6 t7 t8 t9 t10 t11 t12 t13 t14 t15 ++ [⟨100, false, none, 1, .ta N (.vi .u8 B)⟩]) ⟨[.t, .f, .s false, .s true, .s true, .s true, .t, .s false, .t, .t, .t, .t, .t, .s true, .t], 110⟩) (endP ([]) YES [] 400) =
    (OkL [(decide ((↑N : Int) > (50 : Int)), false), (decide ((↑N : Int) < (2 : Int)), true), (((0 : Nat) + N).ble N, true), (decide ((↑(bytesOf B [] (0 : Nat) N).length : Int) < (2 : Int)), true), (rightR m, false), (rightC m == rightR m, true)] ∧ true = (wordsC m == []) ∧ True) := by kernel_rfl
theorem mbShort_p1 (t0 t1 t2 t3 t4 t5 t6 t7 t8 t9 t10 t11 t12 t13 t14 t15 : List UInt8) (N : Nat) (B : Ix → Int) (m : Int) :
    isEnd (evTill Tryd.prog sumsC 300 (99) 900 5 [.code (bodyOf Tryd.f5)] (envOf [vL 100 1 N, vN m] Tryd.f5.ntmps) (allG t0 t1 t2 t3 t4 t5 t6 t7 t8 t9 t10 t11 t12 t13 t14 t15 ++ [⟨100, false, none, 1, .ta N (.vi .u8 B)⟩]) ⟨[.t, .f, .s false, .s true, .s true, .s true, .t, .s true, .t, .t, .t, .t, .t, .t, .s true, .t], 110⟩) (endP ([]) YES [] 400) =
    (OkL [(decide ((↑N : Int) > (50 : Int)), false), (decide ((↑N : Int) < (2 : Int)), true), (((0 : Nat) + N).ble N, true), (decide ((↑(bytesOf B [] (0 : Nat) N).length : Int) < (2 : Int)), true), (rightR m, true), (rightC m == rightR m, true)] ∧ true = (wordsC m == wordsR m) ∧ True) := by kernel_rfl

set_option maxHeartbeats 4000000 in
theorem mbShort (t0 t1 t2 t3 t4 t5 t6 t7 t8 t9 t10 t11 t12 t13 t14 t15 : List UInt8) (N : Nat) (B : Ix → Int) (m : Int) (hB : ∀ i, i < N → 0 ≤ B [i] ∧ B [i] < 256) (hm : -9223372036854775808 ≤ m ∧ m < 9223372036854775808) (hN : N < 2) :
    RunsTo Tryd.prog 5 [.code (bodyOf Tryd.f5)] (envOf [vL 100 1 N, vN m] Tryd.f5.ntmps) (Sx.look (allG t0 t1 t2 t3 t4 t5 t6 t7 t8 t9 t10 t11 t12 t13 t14 t15 ++ [⟨100, false, none, 1, .ta N (.vi .u8 B)⟩])) 110 (YES) (Sx.look ([])) 400 := by
  have hre := right_eq hm.1 hm.2
  have hw : rightR m = true → wordsC m = wordsR m := fun h => words_eq hm.2 (by rw [hre]; exact h)
  have hw0 : rightR m = false → wordsC m = [] := fun h => by simp [wordsC, hre, h]
  refine bcase (c := (rightR m)) (fun gg0 => ?_) (fun gg0 => ?_)
  · refine runs_last baseC (Sx.Ends.of (mbShort_p0 t0 t1 t2 t3 t4 t5 t6 t7 t8 t9 t10 t11 t12 t13 t14 t15 N B m) ⟨?oo, ?rr⟩) (by kernel_rfl) rfl (gtL (by decide)) (by decide)
    case oo =>
      refine (okc ?_ (okc ?_ (okc ?_ (okc ?_ (okc gg0 (okc ?_ okn))))))
      all_goals ((try simp (disch := omega) only [SS, bl_len, hre]); first | done | omega | assumption | (simp (disch := omega) only [SS, bl_len, hre] at *; first | done | omega | assumption) | (simp_all; done) | grind)
    case rr =>
      first | trivial | (simp; done) | (refine ⟨?_, trivial⟩; (try simp (disch := omega) only [SS, bl_len, hre]); first | done | omega | assumption | (simp (disch := omega) only [SS, bl_len, hre] at *; first | done | omega | assumption) | (simp_all; done) | grind)
  · refine runs_last baseC (Sx.Ends.of (mbShort_p1 t0 t1 t2 t3 t4 t5 t6 t7 t8 t9 t10 t11 t12 t13 t14 t15 N B m) ⟨?oo, ?rr⟩) (by kernel_rfl) rfl (gtL (by decide)) (by decide)
    case oo =>
      refine (okc ?_ (okc ?_ (okc ?_ (okc ?_ (okc gg0 (okc ?_ okn))))))
      all_goals ((try simp (disch := omega) only [SS, bl_len, hre]); first | done | omega | assumption | (simp (disch := omega) only [SS, bl_len, hre] at *; first | done | omega | assumption) | (simp_all; done) | grind)
    case rr =>
      first | trivial | (simp; done) | (refine ⟨?_, trivial⟩; (try simp (disch := omega) only [SS, bl_len, hre]); first | done | omega | assumption | (simp (disch := omega) only [SS, bl_len, hre] at *; first | done | omega | assumption) | (simp_all; done) | grind)

theorem mbMore_p0 (t0 t1 t2 t3 t4 t5 t6 t7 t8 t9 t10 t11 t12 t13 t14 t15 : List UInt8) (N : Nat) (B : Ix → Int) (m : Int) :
    isEnd (evTill Tryd.prog sumsC 300 (99) 900 5 [.code (bodyOf Tryd.f5)] (envOf [vL 100 1 N, vN m] Tryd.f5.ntmps) (allG t0 t1 t2 t3 t4 t5 t6 t7 t8 t9 t10 t11 t12 t13 t14 t15 ++ [⟨100, false, none, 1, .ta N (.vi .u8 B)⟩]) ⟨[.t, .f, .s false, .s false, .s true, .s true, .s false, .s true, .t, .s false, .t, .t, .t, .t, .t, .s true, .t], 110⟩) (endP ([]) YES [] 400) =
    (OkL [(decide ((↑N : Int) > (50 : Int)), false), (decide ((↑N : Int) < (2 : Int)), false), (decide ((↑N : Int) > (2 : Int)), true), (((0 : Nat) + N).ble N, true), (decide ((↑(bytesOf B [] (0 : Nat) N).length : Int) < (2 : Int)), false), (decide ((↑(bytesOf B [] (0 : Nat) N).length : Int) > (2 : Int)), true), (rightR m, false), (rightC m == rightR m, true)] ∧ true = (wordsC m == []) ∧ True) := by kernel_rfl
theorem mbMore_p1 (t0 t1 t2 t3 t4 t5 t6 t7 t8 t9 t10 t11 t12 t13 t14 t15 : List UInt8) (N : Nat) (B : Ix → Int) (m : Int) :
    isEnd (evTill Tryd.prog sumsC 300 (99) 900 5 [.code (bodyOf Tryd.f5)] (envOf [vL 100 1 N, vN m] Tryd.f5.ntmps) (allG t0 t1 t2 t3 t4 t5 t6 t7 t8 t9 t10 t11 t12 t13 t14 t15 ++ [⟨100, false, none, 1, .ta N (.vi .u8 B)⟩]) ⟨[.t, .f, .s false, .s false, .s true, .s true, .s false, .s true, .t, .s true, .t, .t, .t, .t, .t, .t, .s true, .t], 110⟩) (endP ([]) YES [] 400) =
    (OkL [(decide ((↑N : Int) > (50 : Int)), false), (decide ((↑N : Int) < (2 : Int)), false), (decide ((↑N : Int) > (2 : Int)), true), (((0 : Nat) + N).ble N, true), (decide ((↑(bytesOf B [] (0 : Nat) N).length : Int) < (2 : Int)), false), (decide ((↑(bytesOf B [] (0 : Nat) N).length : Int) > (2 : Int)), true), (rightR m, true), (rightC m == rightR m, true)] ∧ true = (wordsC m == wordsR m) ∧ True) := by kernel_rfl

set_option maxHeartbeats 4000000 in
theorem mbMore (t0 t1 t2 t3 t4 t5 t6 t7 t8 t9 t10 t11 t12 t13 t14 t15 : List UInt8) (N : Nat) (B : Ix → Int) (m : Int) (hB : ∀ i, i < N → 0 ≤ B [i] ∧ B [i] < 256) (hm : -9223372036854775808 ≤ m ∧ m < 9223372036854775808) (hN : 2 < N ∧ N ≤ 50) :
    RunsTo Tryd.prog 5 [.code (bodyOf Tryd.f5)] (envOf [vL 100 1 N, vN m] Tryd.f5.ntmps) (Sx.look (allG t0 t1 t2 t3 t4 t5 t6 t7 t8 t9 t10 t11 t12 t13 t14 t15 ++ [⟨100, false, none, 1, .ta N (.vi .u8 B)⟩])) 110 (YES) (Sx.look ([])) 400 := by
  have hre := right_eq hm.1 hm.2
  have hw : rightR m = true → wordsC m = wordsR m := fun h => words_eq hm.2 (by rw [hre]; exact h)
  have hw0 : rightR m = false → wordsC m = [] := fun h => by simp [wordsC, hre, h]
  refine bcase (c := (rightR m)) (fun gg0 => ?_) (fun gg0 => ?_)
  · refine runs_last baseC (Sx.Ends.of (mbMore_p0 t0 t1 t2 t3 t4 t5 t6 t7 t8 t9 t10 t11 t12 t13 t14 t15 N B m) ⟨?oo, ?rr⟩) (by kernel_rfl) rfl (gtL (by decide)) (by decide)
    case oo =>
      refine (okc ?_ (okc ?_ (okc ?_ (okc ?_ (okc ?_ (okc ?_ (okc gg0 (okc ?_ okn))))))))
      all_goals ((try simp (disch := omega) only [SS, bl_len, hre]); first | done | omega | assumption | (simp (disch := omega) only [SS, bl_len, hre] at *; first | done | omega | assumption) | (simp_all; done) | grind)
    case rr =>
      first | trivial | (simp; done) | (refine ⟨?_, trivial⟩; (try simp (disch := omega) only [SS, bl_len, hre]); first | done | omega | assumption | (simp (disch := omega) only [SS, bl_len, hre] at *; first | done | omega | assumption) | (simp_all; done) | grind)
  · refine runs_last baseC (Sx.Ends.of (mbMore_p1 t0 t1 t2 t3 t4 t5 t6 t7 t8 t9 t10 t11 t12 t13 t14 t15 N B m) ⟨?oo, ?rr⟩) (by kernel_rfl) rfl (gtL (by decide)) (by decide)
    case oo =>
      refine (okc ?_ (okc ?_ (okc ?_ (okc ?_ (okc ?_ (okc ?_ (okc gg0 (okc ?_ okn))))))))
      all_goals ((try simp (disch := omega) only [SS, bl_len, hre]); first | done | omega | assumption | (simp (disch := omega) only [SS, bl_len, hre] at *; first | done | omega | assumption) | (simp_all; done) | grind)
    case rr =>
      first | trivial | (simp; done) | (refine ⟨?_, trivial⟩; (try simp (disch := omega) only [SS, bl_len, hre]); first | done | omega | assumption | (simp (disch := omega) only [SS, bl_len, hre] at *; first | done | omega | assumption) | (simp_all; done) | grind)

theorem mbKind_p0 (t0 t1 t2 t3 t4 t5 t6 t7 t8 t9 t10 t11 t12 t13 t14 t15 : List UInt8) (N : Nat) (B : Ix → Int) (m : Int) :
    isEnd (evTill Tryd.prog sumsC 300 (99) 900 5 [.code (bodyOf Tryd.f5)] (envOf [vL 100 1 N, vN m] Tryd.f5.ntmps) (allG t0 t1 t2 t3 t4 t5 t6 t7 t8 t9 t10 t11 t12 t13 t14 t15 ++ [⟨100, false, none, 1, .ta N (.vi .u8 B)⟩]) ⟨[.t, .f, .s false, .s false, .s false, .s true, .s true, .s true, .s true, .s true, .s false, .s false, .s true, .s true, .t, .s false, .t, .t, .t, .t, .t, .s true, .t], 110⟩) (endP ([]) YES [] 400) =
    (OkL [(decide ((↑N : Int) > (50 : Int)), false), (decide ((↑N : Int) < (2 : Int)), false), (decide ((↑N : Int) > (2 : Int)), false), (decide ((0 : Int) ≤ (0 : Int) ∧ (0 : Int) < (↑N : Int)), true), (Nat.blt (0 : Nat) N, true), (Nat.blt (0 : Nat) N, true), (B [(0 : Nat)] != (1 : Int), true), (((0 : Nat) + N).ble N, true), (decide ((↑(bytesOf B [] (0 : Nat) N).length : Int) < (2 : Int)), false), (decide ((↑(bytesOf B [] (0 : Nat) N).length : Int) > (2 : Int)), false), (decide ((0 : Int) ≤ (0 : Int) ∧ (0 : Int) < (↑(bytesOf B [] (0 : Nat) N).length : Int)), true), ((↑((bytesOf B [] (0 : Nat) N).getD (0 : Nat) (0 : UInt8)).toNat : Int) != (1 : Int), true), (rightR m, false), (rightC m == rightR m, true)] ∧ true = (wordsC m == []) ∧ True) := by kernel_rfl
theorem mbKind_p1 (t0 t1 t2 t3 t4 t5 t6 t7 t8 t9 t10 t11 t12 t13 t14 t15 : List UInt8) (N : Nat) (B : Ix → Int) (m : Int) :
    isEnd (evTill Tryd.prog sumsC 300 (99) 900 5 [.code (bodyOf Tryd.f5)] (envOf [vL 100 1 N, vN m] Tryd.f5.ntmps) (allG t0 t1 t2 t3 t4 t5 t6 t7 t8 t9 t10 t11 t12 t13 t14 t15 ++ [⟨100, false, none, 1, .ta N (.vi .u8 B)⟩]) ⟨[.t, .f, .s false, .s false, .s false, .s true, .s true, .s true, .s true, .s true, .s false, .s false, .s true, .s true, .t, .s true, .t, .t, .t, .t, .t, .t, .s true, .t], 110⟩) (endP ([]) YES [] 400) =
    (OkL [(decide ((↑N : Int) > (50 : Int)), false), (decide ((↑N : Int) < (2 : Int)), false), (decide ((↑N : Int) > (2 : Int)), false), (decide ((0 : Int) ≤ (0 : Int) ∧ (0 : Int) < (↑N : Int)), true), (Nat.blt (0 : Nat) N, true), (Nat.blt (0 : Nat) N, true), (B [(0 : Nat)] != (1 : Int), true), (((0 : Nat) + N).ble N, true), (decide ((↑(bytesOf B [] (0 : Nat) N).length : Int) < (2 : Int)), false), (decide ((↑(bytesOf B [] (0 : Nat) N).length : Int) > (2 : Int)), false), (decide ((0 : Int) ≤ (0 : Int) ∧ (0 : Int) < (↑(bytesOf B [] (0 : Nat) N).length : Int)), true), ((↑((bytesOf B [] (0 : Nat) N).getD (0 : Nat) (0 : UInt8)).toNat : Int) != (1 : Int), true), (rightR m, true), (rightC m == rightR m, true)] ∧ true = (wordsC m == wordsR m) ∧ True) := by kernel_rfl

set_option maxHeartbeats 4000000 in
theorem mbKind (t0 t1 t2 t3 t4 t5 t6 t7 t8 t9 t10 t11 t12 t13 t14 t15 : List UInt8) (N : Nat) (B : Ix → Int) (m : Int) (hB : ∀ i, i < N → 0 ≤ B [i] ∧ B [i] < 256) (hm : -9223372036854775808 ≤ m ∧ m < 9223372036854775808) (hN : N = 2) (hb : B [0] ≠ 1) :
    RunsTo Tryd.prog 5 [.code (bodyOf Tryd.f5)] (envOf [vL 100 1 N, vN m] Tryd.f5.ntmps) (Sx.look (allG t0 t1 t2 t3 t4 t5 t6 t7 t8 t9 t10 t11 t12 t13 t14 t15 ++ [⟨100, false, none, 1, .ta N (.vi .u8 B)⟩])) 110 (YES) (Sx.look ([])) 400 := by
  have hre := right_eq hm.1 hm.2
  have hw : rightR m = true → wordsC m = wordsR m := fun h => words_eq hm.2 (by rw [hre]; exact h)
  have hw0 : rightR m = false → wordsC m = [] := fun h => by simp [wordsC, hre, h]
  have h0 := hB 0 (by omega)
  have h1 := hB 1 (by omega)
  have g0 := by_get (B := B) (n := N) (i := 0) (by omega) h0
  have g1 := by_get (B := B) (n := N) (i := 1) (by omega) h1
  refine bcase (c := (rightR m)) (fun gg0 => ?_) (fun gg0 => ?_)
  · refine runs_last baseC (Sx.Ends.of (mbKind_p0 t0 t1 t2 t3 t4 t5 t6 t7 t8 t9 t10 t11 t12 t13 t14 t15 N B m) ⟨?oo, ?rr⟩) (by kernel_rfl) rfl (gtL (by decide)) (by decide)
    case oo =>
      refine (okc ?_ (okc ?_ (okc ?_ (okc ?_ (okc ?_ (okc ?_ (okc ?_ (okc ?_ (okc ?_ (okc ?_ (okc ?_ (okc ?_ (okc gg0 (okc ?_ okn))))))))))))))
      all_goals ((try simp (disch := omega) only [SS, bl_len, hre, g0, g1]); first | done | omega | assumption | (simp (disch := omega) only [SS, bl_len, hre, g0, g1] at *; first | done | omega | assumption) | (simp_all; done) | grind)
    case rr =>
      first | trivial | (simp; done) | (refine ⟨?_, trivial⟩; (try simp (disch := omega) only [SS, bl_len, hre, g0, g1]); first | done | omega | assumption | (simp (disch := omega) only [SS, bl_len, hre, g0, g1] at *; first | done | omega | assumption) | (simp_all; done) | grind)
  · refine runs_last baseC (Sx.Ends.of (mbKind_p1 t0 t1 t2 t3 t4 t5 t6 t7 t8 t9 t10 t11 t12 t13 t14 t15 N B m) ⟨?oo, ?rr⟩) (by kernel_rfl) rfl (gtL (by decide)) (by decide)
    case oo =>
      refine (okc ?_ (okc ?_ (okc ?_ (okc ?_ (okc ?_ (okc ?_ (okc ?_ (okc ?_ (okc ?_ (okc ?_ (okc ?_ (okc ?_ (okc gg0 (okc ?_ okn))))))))))))))
      all_goals ((try simp (disch := omega) only [SS, bl_len, hre, g0, g1]); first | done | omega | assumption | (simp (disch := omega) only [SS, bl_len, hre, g0, g1] at *; first | done | omega | assumption) | (simp_all; done) | grind)
    case rr =>
      first | trivial | (simp; done) | (refine ⟨?_, trivial⟩; (try simp (disch := omega) only [SS, bl_len, hre, g0, g1]); first | done | omega | assumption | (simp (disch := omega) only [SS, bl_len, hre, g0, g1] at *; first | done | omega | assumption) | (simp_all; done) | grind)

theorem mbForm0_p0 (t0 t1 t2 t3 t4 t5 t6 t7 t8 t9 t10 t11 t12 t13 t14 t15 : List UInt8) (N : Nat) (B : Ix → Int) (m : Int) :
    isEnd (evTill Tryd.prog sumsC 300 (99) 900 5 [.code (bodyOf Tryd.f5)] (envOf [vL 100 1 N, vN m] Tryd.f5.ntmps) (allG t0 t1 t2 t3 t4 t5 t6 t7 t8 t9 t10 t11 t12 t13 t14 t15 ++ [⟨100, false, none, 1, .ta N (.vi .u8 B)⟩]) ⟨[.t, .f, .s false, .s false, .s false, .s true, .s true, .s true, .s false, .s true, .s true, .s true, .t, .s true, .s true, .s false, .s false, .s true, .s false, .s true, .t, .t, .s false, .t, .s true, .t, .s false, .t, .t, .t, .t, .t, .s true, .t], 110⟩) (endP ([]) YES [] 400) =
    (OkL [(decide ((↑N : Int) > (50 : Int)), false), (decide ((↑N : Int) < (2 : Int)), false), (decide ((↑N : Int) > (2 : Int)), false), (decide ((0 : Int) ≤ (0 : Int) ∧ (0 : Int) < (↑N : Int)), true), (Nat.blt (0 : Nat) N, true), (Nat.blt (0 : Nat) N, true), (B [(0 : Nat)] != (1 : Int), false), (decide ((0 : Int) ≤ (1 : Int) ∧ (1 : Int) < (↑N : Int)), true), (Nat.blt (1 : Nat) N, true), (Nat.blt (1 : Nat) N, true), (!rightC (iandn IntKind.i64 (IntKind.i64.wrap (B [(1 : Nat)])) (4 : Int)), true), (((0 : Nat) + N).ble N, true), (decide ((↑(bytesOf B [] (0 : Nat) N).length : Int) < (2 : Int)), false), (decide ((↑(bytesOf B [] (0 : Nat) N).length : Int) > (2 : Int)), false), (decide ((0 : Int) ≤ (0 : Int) ∧ (0 : Int) < (↑(bytesOf B [] (0 : Nat) N).length : Int)), true), ((↑((bytesOf B [] (0 : Nat) N).getD (0 : Nat) (0 : UInt8)).toNat : Int) != (1 : Int), false), (decide ((0 : Int) ≤ (1 : Int) ∧ (1 : Int) < (↑(bytesOf B [] (0 : Nat) N).length : Int)), true), ((IntKind.i64.wrap ((IntKind.i64.wrap (↑((bytesOf B [] (0 : Nat) N).getD (1 : Nat) (0 : UInt8)).toNat : Int)).tdiv (4 : Int))).tmod (2 : Int) == (1 : Int), false), (!rightR (IntKind.i64.wrap (↑((bytesOf B [] (0 : Nat) N).getD (1 : Nat) (0 : UInt8)).toNat : Int)), true), (rightR m, false), (rightC m == rightR m, true)] ∧ true = (wordsC m == []) ∧ True) := by kernel_rfl
theorem mbForm0_p1 (t0 t1 t2 t3 t4 t5 t6 t7 t8 t9 t10 t11 t12 t13 t14 t15 : List UInt8) (N : Nat) (B : Ix → Int) (m : Int) :
    isEnd (evTill Tryd.prog sumsC 300 (99) 900 5 [.code (bodyOf Tryd.f5)] (envOf [vL 100 1 N, vN m] Tryd.f5.ntmps) (allG t0 t1 t2 t3 t4 t5 t6 t7 t8 t9 t10 t11 t12 t13 t14 t15 ++ [⟨100, false, none, 1, .ta N (.vi .u8 B)⟩]) ⟨[.t, .f, .s false, .s false, .s false, .s true, .s true, .s true, .s false, .s true, .s true, .s true, .t, .s true, .s true, .s false, .s false, .s true, .s false, .s true, .t, .t, .s false, .t, .s true, .t, .s true, .t, .t, .t, .t, .t, .t, .s true, .t], 110⟩) (endP ([]) YES [] 400) =
    (OkL [(decide ((↑N : Int) > (50 : Int)), false), (decide ((↑N : Int) < (2 : Int)), false), (decide ((↑N : Int) > (2 : Int)), false), (decide ((0 : Int) ≤ (0 : Int) ∧ (0 : Int) < (↑N : Int)), true), (Nat.blt (0 : Nat) N, true), (Nat.blt (0 : Nat) N, true), (B [(0 : Nat)] != (1 : Int), false), (decide ((0 : Int) ≤ (1 : Int) ∧ (1 : Int) < (↑N : Int)), true), (Nat.blt (1 : Nat) N, true), (Nat.blt (1 : Nat) N, true), (!rightC (iandn IntKind.i64 (IntKind.i64.wrap (B [(1 : Nat)])) (4 : Int)), true), (((0 : Nat) + N).ble N, true), (decide ((↑(bytesOf B [] (0 : Nat) N).length : Int) < (2 : Int)), false), (decide ((↑(bytesOf B [] (0 : Nat) N).length : Int) > (2 : Int)), false), (decide ((0 : Int) ≤ (0 : Int) ∧ (0 : Int) < (↑(bytesOf B [] (0 : Nat) N).length : Int)), true), ((↑((bytesOf B [] (0 : Nat) N).getD (0 : Nat) (0 : UInt8)).toNat : Int) != (1 : Int), false), (decide ((0 : Int) ≤ (1 : Int) ∧ (1 : Int) < (↑(bytesOf B [] (0 : Nat) N).length : Int)), true), ((IntKind.i64.wrap ((IntKind.i64.wrap (↑((bytesOf B [] (0 : Nat) N).getD (1 : Nat) (0 : UInt8)).toNat : Int)).tdiv (4 : Int))).tmod (2 : Int) == (1 : Int), false), (!rightR (IntKind.i64.wrap (↑((bytesOf B [] (0 : Nat) N).getD (1 : Nat) (0 : UInt8)).toNat : Int)), true), (rightR m, true), (rightC m == rightR m, true)] ∧ true = (wordsC m == wordsR m) ∧ True) := by kernel_rfl

set_option maxHeartbeats 4000000 in
theorem mbForm0 (t0 t1 t2 t3 t4 t5 t6 t7 t8 t9 t10 t11 t12 t13 t14 t15 : List UInt8) (N : Nat) (B : Ix → Int) (m : Int) (hB : ∀ i, i < N → 0 ≤ B [i] ∧ B [i] < 256) (hm : -9223372036854775808 ≤ m ∧ m < 9223372036854775808) (hN : N = 2) (hb : B [0] = 1) (ha : ackR (B [1]) = false) (hr : rightR (maskR (B [1])) = false) :
    RunsTo Tryd.prog 5 [.code (bodyOf Tryd.f5)] (envOf [vL 100 1 N, vN m] Tryd.f5.ntmps) (Sx.look (allG t0 t1 t2 t3 t4 t5 t6 t7 t8 t9 t10 t11 t12 t13 t14 t15 ++ [⟨100, false, none, 1, .ta N (.vi .u8 B)⟩])) 110 (YES) (Sx.look ([])) 400 := by
  have hre := right_eq hm.1 hm.2
  have hw : rightR m = true → wordsC m = wordsR m := fun h => words_eq hm.2 (by rw [hre]; exact h)
  have hw0 : rightR m = false → wordsC m = [] := fun h => by simp [wordsC, hre, h]
  have h0 := hB 0 (by omega)
  have h1 := hB 1 (by omega)
  have g0 := by_get (B := B) (n := N) (i := 0) (by omega) h0
  have g1 := by_get (B := B) (n := N) (i := 1) (by omega) h1
  obtain ⟨e1, e2, e3⟩ := byte_eq h1.1 h1.2
  have hak : ((IntKind.i64.wrap ((B [1]).tdiv 4)).tmod 2 == 1) = false := ha
  have hmk : maskR (B [1]) = B [1] := by simp [maskR, ha]
  rw [hr] at e2
  rw [ha] at e3
  rw [hmk] at hr e1 e2
  refine bcase (c := (rightR m)) (fun gg0 => ?_) (fun gg0 => ?_)
  · refine runs_last baseC (Sx.Ends.of (mbForm0_p0 t0 t1 t2 t3 t4 t5 t6 t7 t8 t9 t10 t11 t12 t13 t14 t15 N B m) ⟨?oo, ?rr⟩) (by kernel_rfl) rfl (gtL (by decide)) (by decide)
    case oo =>
      refine (okc ?_ (okc ?_ (okc ?_ (okc ?_ (okc ?_ (okc ?_ (okc ?_ (okc ?_ (okc ?_ (okc ?_ (okc ?_ (okc ?_ (okc ?_ (okc ?_ (okc ?_ (okc ?_ (okc ?_ (okc ?_ (okc ?_ (okc gg0 (okc ?_ okn)))))))))))))))))))))
      all_goals ((try simp (disch := omega) only [SS, bl_len, hre, g0, g1, e1, e2, e3, hak, hr]); first | done | omega | assumption | (simp (disch := omega) only [SS, bl_len, hre, g0, g1, e1, e2, e3, hak, hr] at *; first | done | omega | assumption) | (simp_all; done) | grind)
    case rr =>
      first | trivial | (simp; done) | (refine ⟨?_, trivial⟩; (try simp (disch := omega) only [SS, bl_len, hre, g0, g1, e1, e2, e3, hak, hr]); first | done | omega | assumption | (simp (disch := omega) only [SS, bl_len, hre, g0, g1, e1, e2, e3, hak, hr] at *; first | done | omega | assumption) | (simp_all; done) | grind)
  · refine runs_last baseC (Sx.Ends.of (mbForm0_p1 t0 t1 t2 t3 t4 t5 t6 t7 t8 t9 t10 t11 t12 t13 t14 t15 N B m) ⟨?oo, ?rr⟩) (by kernel_rfl) rfl (gtL (by decide)) (by decide)
    case oo =>
      refine (okc ?_ (okc ?_ (okc ?_ (okc ?_ (okc ?_ (okc ?_ (okc ?_ (okc ?_ (okc ?_ (okc ?_ (okc ?_ (okc ?_ (okc ?_ (okc ?_ (okc ?_ (okc ?_ (okc ?_ (okc ?_ (okc ?_ (okc gg0 (okc ?_ okn)))))))))))))))))))))
      all_goals ((try simp (disch := omega) only [SS, bl_len, hre, g0, g1, e1, e2, e3, hak, hr]); first | done | omega | assumption | (simp (disch := omega) only [SS, bl_len, hre, g0, g1, e1, e2, e3, hak, hr] at *; first | done | omega | assumption) | (simp_all; done) | grind)
    case rr =>
      first | trivial | (simp; done) | (refine ⟨?_, trivial⟩; (try simp (disch := omega) only [SS, bl_len, hre, g0, g1, e1, e2, e3, hak, hr]); first | done | omega | assumption | (simp (disch := omega) only [SS, bl_len, hre, g0, g1, e1, e2, e3, hak, hr] at *; first | done | omega | assumption) | (simp_all; done) | grind)

theorem mbOk0_p0 (t0 t1 t2 t3 t4 t5 t6 t7 t8 t9 t10 t11 t12 t13 t14 t15 : List UInt8) (N : Nat) (B : Ix → Int) (m : Int) :
    isEnd (evTill Tryd.prog sumsC 300 (99) 900 5 [.code (bodyOf Tryd.f5)] (envOf [vL 100 1 N, vN m] Tryd.f5.ntmps) (allG t0 t1 t2 t3 t4 t5 t6 t7 t8 t9 t10 t11 t12 t13 t14 t15 ++ [⟨100, false, none, 1, .ta N (.vi .u8 B)⟩]) ⟨[.t, .f, .s false, .s false, .s false, .s true, .s true, .s true, .s false, .s true, .s true, .s true, .t, .s false, .s true, .s true, .s true, .s true, .s false, .s false, .s true, .s false, .s true, .t, .t, .s false, .t, .s false, .t, .s false, .s true, .s true, .t, .t, .t, .s true, .t], 110⟩) (endP ([]) YES [] 400) =
    (OkL [(decide ((↑N : Int) > (50 : Int)), false), (decide ((↑N : Int) < (2 : Int)), false), (decide ((↑N : Int) > (2 : Int)), false), (decide ((0 : Int) ≤ (0 : Int) ∧ (0 : Int) < (↑N : Int)), true), (Nat.blt (0 : Nat) N, true), (Nat.blt (0 : Nat) N, true), (B [(0 : Nat)] != (1 : Int), false), (decide ((0 : Int) ≤ (1 : Int) ∧ (1 : Int) < (↑N : Int)), true), (Nat.blt (1 : Nat) N, true), (Nat.blt (1 : Nat) N, true), (!rightC (iandn IntKind.i64 (IntKind.i64.wrap (B [(1 : Nat)])) (4 : Int)), false), (decide ((0 : Int) ≤ (1 : Int) ∧ (1 : Int) < (↑N : Int)), true), (Nat.blt (1 : Nat) N, true), (Nat.blt (1 : Nat) N, true), (((0 : Nat) + N).ble N, true), (decide ((↑(bytesOf B [] (0 : Nat) N).length : Int) < (2 : Int)), false), (decide ((↑(bytesOf B [] (0 : Nat) N).length : Int) > (2 : Int)), false), (decide ((0 : Int) ≤ (0 : Int) ∧ (0 : Int) < (↑(bytesOf B [] (0 : Nat) N).length : Int)), true), ((↑((bytesOf B [] (0 : Nat) N).getD (0 : Nat) (0 : UInt8)).toNat : Int) != (1 : Int), false), (decide ((0 : Int) ≤ (1 : Int) ∧ (1 : Int) < (↑(bytesOf B [] (0 : Nat) N).length : Int)), true), ((IntKind.i64.wrap ((IntKind.i64.wrap (↑((bytesOf B [] (0 : Nat) N).getD (1 : Nat) (0 : UInt8)).toNat : Int)).tdiv (4 : Int))).tmod (2 : Int) == (1 : Int), false), (!rightR (IntKind.i64.wrap (↑((bytesOf B [] (0 : Nat) N).getD (1 : Nat) (0 : UInt8)).toNat : Int)), false), (rightR m, false), (iandn IntKind.i64 (IntKind.i64.wrap (B [(1 : Nat)])) (4 : Int) == IntKind.i64.wrap (↑((bytesOf B [] (0 : Nat) N).getD (1 : Nat) (0 : UInt8)).toNat : Int), true), ((iand IntKind.u8 (B [(1 : Nat)]) (4 : Int) != (0 : Int)) == ((IntKind.i64.wrap ((IntKind.i64.wrap (↑((bytesOf B [] (0 : Nat) N).getD (1 : Nat) (0 : UInt8)).toNat : Int)).tdiv (4 : Int))).tmod (2 : Int) == (1 : Int)), true), (rightC m == rightR m, true)] ∧ true = (wordsC m == []) ∧ True) := by kernel_rfl
theorem mbOk0_p1 (t0 t1 t2 t3 t4 t5 t6 t7 t8 t9 t10 t11 t12 t13 t14 t15 : List UInt8) (N : Nat) (B : Ix → Int) (m : Int) :
    isEnd (evTill Tryd.prog sumsC 300 (99) 900 5 [.code (bodyOf Tryd.f5)] (envOf [vL 100 1 N, vN m] Tryd.f5.ntmps) (allG t0 t1 t2 t3 t4 t5 t6 t7 t8 t9 t10 t11 t12 t13 t14 t15 ++ [⟨100, false, none, 1, .ta N (.vi .u8 B)⟩]) ⟨[.t, .f, .s false, .s false, .s false, .s true, .s true, .s true, .s false, .s true, .s true, .s true, .t, .s false, .s true, .s true, .s true, .s true, .s false, .s false, .s true, .s false, .s true, .t, .t, .s false, .t, .s false, .t, .s true, .t, .s true, .s true, .t, .t, .t, .s true, .t], 110⟩) (endP ([]) YES [] 400) =
    (OkL [(decide ((↑N : Int) > (50 : Int)), false), (decide ((↑N : Int) < (2 : Int)), false), (decide ((↑N : Int) > (2 : Int)), false), (decide ((0 : Int) ≤ (0 : Int) ∧ (0 : Int) < (↑N : Int)), true), (Nat.blt (0 : Nat) N, true), (Nat.blt (0 : Nat) N, true), (B [(0 : Nat)] != (1 : Int), false), (decide ((0 : Int) ≤ (1 : Int) ∧ (1 : Int) < (↑N : Int)), true), (Nat.blt (1 : Nat) N, true), (Nat.blt (1 : Nat) N, true), (!rightC (iandn IntKind.i64 (IntKind.i64.wrap (B [(1 : Nat)])) (4 : Int)), false), (decide ((0 : Int) ≤ (1 : Int) ∧ (1 : Int) < (↑N : Int)), true), (Nat.blt (1 : Nat) N, true), (Nat.blt (1 : Nat) N, true), (((0 : Nat) + N).ble N, true), (decide ((↑(bytesOf B [] (0 : Nat) N).length : Int) < (2 : Int)), false), (decide ((↑(bytesOf B [] (0 : Nat) N).length : Int) > (2 : Int)), false), (decide ((0 : Int) ≤ (0 : Int) ∧ (0 : Int) < (↑(bytesOf B [] (0 : Nat) N).length : Int)), true), ((↑((bytesOf B [] (0 : Nat) N).getD (0 : Nat) (0 : UInt8)).toNat : Int) != (1 : Int), false), (decide ((0 : Int) ≤ (1 : Int) ∧ (1 : Int) < (↑(bytesOf B [] (0 : Nat) N).length : Int)), true), ((IntKind.i64.wrap ((IntKind.i64.wrap (↑((bytesOf B [] (0 : Nat) N).getD (1 : Nat) (0 : UInt8)).toNat : Int)).tdiv (4 : Int))).tmod (2 : Int) == (1 : Int), false), (!rightR (IntKind.i64.wrap (↑((bytesOf B [] (0 : Nat) N).getD (1 : Nat) (0 : UInt8)).toNat : Int)), false), (rightR m, true), (iandn IntKind.i64 (IntKind.i64.wrap (B [(1 : Nat)])) (4 : Int) == IntKind.i64.wrap (↑((bytesOf B [] (0 : Nat) N).getD (1 : Nat) (0 : UInt8)).toNat : Int), true), ((iand IntKind.u8 (B [(1 : Nat)]) (4 : Int) != (0 : Int)) == ((IntKind.i64.wrap ((IntKind.i64.wrap (↑((bytesOf B [] (0 : Nat) N).getD (1 : Nat) (0 : UInt8)).toNat : Int)).tdiv (4 : Int))).tmod (2 : Int) == (1 : Int)), true), (rightC m == rightR m, true)] ∧ true = (wordsC m == wordsR m) ∧ True) := by kernel_rfl

set_option maxHeartbeats 4000000 in
theorem mbOk0 (t0 t1 t2 t3 t4 t5 t6 t7 t8 t9 t10 t11 t12 t13 t14 t15 : List UInt8) (N : Nat) (B : Ix → Int) (m : Int) (hB : ∀ i, i < N → 0 ≤ B [i] ∧ B [i] < 256) (hm : -9223372036854775808 ≤ m ∧ m < 9223372036854775808) (hN : N = 2) (hb : B [0] = 1) (ha : ackR (B [1]) = false) (hr : rightR (maskR (B [1])) = true) :
    RunsTo Tryd.prog 5 [.code (bodyOf Tryd.f5)] (envOf [vL 100 1 N, vN m] Tryd.f5.ntmps) (Sx.look (allG t0 t1 t2 t3 t4 t5 t6 t7 t8 t9 t10 t11 t12 t13 t14 t15 ++ [⟨100, false, none, 1, .ta N (.vi .u8 B)⟩])) 110 (YES) (Sx.look ([])) 400 := by
  have hre := right_eq hm.1 hm.2
  have hw : rightR m = true → wordsC m = wordsR m := fun h => words_eq hm.2 (by rw [hre]; exact h)
  have hw0 : rightR m = false → wordsC m = [] := fun h => by simp [wordsC, hre, h]
  have h0 := hB 0 (by omega)
  have h1 := hB 1 (by omega)
  have g0 := by_get (B := B) (n := N) (i := 0) (by omega) h0
  have g1 := by_get (B := B) (n := N) (i := 1) (by omega) h1
  obtain ⟨e1, e2, e3⟩ := byte_eq h1.1 h1.2
  have hak : ((IntKind.i64.wrap ((B [1]).tdiv 4)).tmod 2 == 1) = false := ha
  have hmk : maskR (B [1]) = B [1] := by simp [maskR, ha]
  rw [hr] at e2
  rw [ha] at e3
  rw [hmk] at hr e1 e2
  refine bcase (c := (rightR m)) (fun gg0 => ?_) (fun gg0 => ?_)
  · refine runs_last baseC (Sx.Ends.of (mbOk0_p0 t0 t1 t2 t3 t4 t5 t6 t7 t8 t9 t10 t11 t12 t13 t14 t15 N B m) ⟨?oo, ?rr⟩) (by kernel_rfl) rfl (gtL (by decide)) (by decide)
    case oo =>
      refine (okc ?_ (okc ?_ (okc ?_ (okc ?_ (okc ?_ (okc ?_ (okc ?_ (okc ?_ (okc ?_ (okc ?_ (okc ?_ (okc ?_ (okc ?_ (okc ?_ (okc ?_ (okc ?_ (okc ?_ (okc ?_ (okc ?_ (okc ?_ (okc ?_ (okc ?_ (okc gg0 (okc ?_ (okc ?_ (okc ?_ okn))))))))))))))))))))))))))
      all_goals ((try simp (disch := omega) only [SS, bl_len, hre, g0, g1, e1, e2, e3, hak, hr]); first | done | omega | assumption | (simp (disch := omega) only [SS, bl_len, hre, g0, g1, e1, e2, e3, hak, hr] at *; first | done | omega | assumption) | (simp_all; done) | grind)
    case rr =>
      first | trivial | (simp; done) | (refine ⟨?_, trivial⟩; (try simp (disch := omega) only [SS, bl_len, hre, g0, g1, e1, e2, e3, hak, hr]); first | done | omega | assumption | (simp (disch := omega) only [SS, bl_len, hre, g0, g1, e1, e2, e3, hak, hr] at *; first | done | omega | assumption) | (simp_all; done) | grind)
  · refine runs_last baseC (Sx.Ends.of (mbOk0_p1 t0 t1 t2 t3 t4 t5 t6 t7 t8 t9 t10 t11 t12 t13 t14 t15 N B m) ⟨?oo, ?rr⟩) (by kernel_rfl) rfl (gtL (by decide)) (by decide)
    case oo =>
      refine (okc ?_ (okc ?_ (okc ?_ (okc ?_ (okc ?_ (okc ?_ (okc ?_ (okc ?_ (okc ?_ (okc ?_ (okc ?_ (okc ?_ (okc ?_ (okc ?_ (okc ?_ (okc ?_ (okc ?_ (okc ?_ (okc ?_ (okc ?_ (okc ?_ (okc ?_ (okc gg0 (okc ?_ (okc ?_ (okc ?_ okn))))))))))))))))))))))))))
      all_goals ((try simp (disch := omega) only [SS, bl_len, hre, g0, g1, e1, e2, e3, hak, hr]); first | done | omega | assumption | (simp (disch := omega) only [SS, bl_len, hre, g0, g1, e1, e2, e3, hak, hr] at *; first | done | omega | assumption) | (simp_all; done) | grind)
    case rr =>
      first | trivial | (simp; done) | (refine ⟨?_, trivial⟩; (try simp (disch := omega) only [SS, bl_len, hre, g0, g1, e1, e2, e3, hak, hr]); first | done | omega | assumption | (simp (disch := omega) only [SS, bl_len, hre, g0, g1, e1, e2, e3, hak, hr] at *; first | done | omega | assumption) | (simp_all; done) | grind)

theorem mbForm1_p0 (t0 t1 t2 t3 t4 t5 t6 t7 t8 t9 t10 t11 t12 t13 t14 t15 : List UInt8) (N : Nat) (B : Ix → Int) (m : Int) :
    isEnd (evTill Tryd.prog sumsC 300 (99) 900 5 [.code (bodyOf Tryd.f5)] (envOf [vL 100 1 N, vN m] Tryd.f5.ntmps) (allG t0 t1 t2 t3 t4 t5 t6 t7 t8 t9 t10 t11 t12 t13 t14 t15 ++ [⟨100, false, none, 1, .ta N (.vi .u8 B)⟩]) ⟨[.t, .f, .s false, .s false, .s false, .s true, .s true, .s true, .s false, .s true, .s true, .s true, .t, .s true, .s true, .s false, .s false, .s true, .s false, .s true, .t, .t, .s true, .t, .s true, .t, .s false, .t, .t, .t, .t, .t, .s true, .t], 110⟩) (endP ([]) YES [] 400) =
    (OkL [(decide ((↑N : Int) > (50 : Int)), false), (decide ((↑N : Int) < (2 : Int)), false), (decide ((↑N : Int) > (2 : Int)), false), (decide ((0 : Int) ≤ (0 : Int) ∧ (0 : Int) < (↑N : Int)), true), (Nat.blt (0 : Nat) N, true), (Nat.blt (0 : Nat) N, true), (B [(0 : Nat)] != (1 : Int), false), (decide ((0 : Int) ≤ (1 : Int) ∧ (1 : Int) < (↑N : Int)), true), (Nat.blt (1 : Nat) N, true), (Nat.blt (1 : Nat) N, true), (!rightC (iandn IntKind.i64 (IntKind.i64.wrap (B [(1 : Nat)])) (4 : Int)), true), (((0 : Nat) + N).ble N, true), (decide ((↑(bytesOf B [] (0 : Nat) N).length : Int) < (2 : Int)), false), (decide ((↑(bytesOf B [] (0 : Nat) N).length : Int) > (2 : Int)), false), (decide ((0 : Int) ≤ (0 : Int) ∧ (0 : Int) < (↑(bytesOf B [] (0 : Nat) N).length : Int)), true), ((↑((bytesOf B [] (0 : Nat) N).getD (0 : Nat) (0 : UInt8)).toNat : Int) != (1 : Int), false), (decide ((0 : Int) ≤ (1 : Int) ∧ (1 : Int) < (↑(bytesOf B [] (0 : Nat) N).length : Int)), true), ((IntKind.i64.wrap ((IntKind.i64.wrap (↑((bytesOf B [] (0 : Nat) N).getD (1 : Nat) (0 : UInt8)).toNat : Int)).tdiv (4 : Int))).tmod (2 : Int) == (1 : Int), true), (!rightR (IntKind.i64.wrap (IntKind.i64.wrap (↑((bytesOf B [] (0 : Nat) N).getD (1 : Nat) (0 : UInt8)).toNat : Int) - (4 : Int))), true), (rightR m, false), (rightC m == rightR m, true)] ∧ true = (wordsC m == []) ∧ True) := by kernel_rfl
theorem mbForm1_p1 (t0 t1 t2 t3 t4 t5 t6 t7 t8 t9 t10 t11 t12 t13 t14 t15 : List UInt8) (N : Nat) (B : Ix → Int) (m : Int) :
    isEnd (evTill Tryd.prog sumsC 300 (99) 900 5 [.code (bodyOf Tryd.f5)] (envOf [vL 100 1 N, vN m] Tryd.f5.ntmps) (allG t0 t1 t2 t3 t4 t5 t6 t7 t8 t9 t10 t11 t12 t13 t14 t15 ++ [⟨100, false, none, 1, .ta N (.vi .u8 B)⟩]) ⟨[.t, .f, .s false, .s false, .s false, .s true, .s true, .s true, .s false, .s true, .s true, .s true, .t, .s true, .s true, .s false, .s false, .s true, .s false, .s true, .t, .t, .s true, .t, .s true, .t, .s true, .t, .t, .t, .t, .t, .t, .s true, .t], 110⟩) (endP ([]) YES [] 400) =
    (OkL [(decide ((↑N : Int) > (50 : Int)), false), (decide ((↑N : Int) < (2 : Int)), false), (decide ((↑N : Int) > (2 : Int)), false), (decide ((0 : Int) ≤ (0 : Int) ∧ (0 : Int) < (↑N : Int)), true), (Nat.blt (0 : Nat) N, true), (Nat.blt (0 : Nat) N, true), (B [(0 : Nat)] != (1 : Int), false), (decide ((0 : Int) ≤ (1 : Int) ∧ (1 : Int) < (↑N : Int)), true), (Nat.blt (1 : Nat) N, true), (Nat.blt (1 : Nat) N, true), (!rightC (iandn IntKind.i64 (IntKind.i64.wrap (B [(1 : Nat)])) (4 : Int)), true), (((0 : Nat) + N).ble N, true), (decide ((↑(bytesOf B [] (0 : Nat) N).length : Int) < (2 : Int)), false), (decide ((↑(bytesOf B [] (0 : Nat) N).length : Int) > (2 : Int)), false), (decide ((0 : Int) ≤ (0 : Int) ∧ (0 : Int) < (↑(bytesOf B [] (0 : Nat) N).length : Int)), true), ((↑((bytesOf B [] (0 : Nat) N).getD (0 : Nat) (0 : UInt8)).toNat : Int) != (1 : Int), false), (decide ((0 : Int) ≤ (1 : Int) ∧ (1 : Int) < (↑(bytesOf B [] (0 : Nat) N).length : Int)), true), ((IntKind.i64.wrap ((IntKind.i64.wrap (↑((bytesOf B [] (0 : Nat) N).getD (1 : Nat) (0 : UInt8)).toNat : Int)).tdiv (4 : Int))).tmod (2 : Int) == (1 : Int), true), (!rightR (IntKind.i64.wrap (IntKind.i64.wrap (↑((bytesOf B [] (0 : Nat) N).getD (1 : Nat) (0 : UInt8)).toNat : Int) - (4 : Int))), true), (rightR m, true), (rightC m == rightR m, true)] ∧ true = (wordsC m == wordsR m) ∧ True) := by kernel_rfl

set_option maxHeartbeats 4000000 in
theorem mbForm1 (t0 t1 t2 t3 t4 t5 t6 t7 t8 t9 t10 t11 t12 t13 t14 t15 : List UInt8) (N : Nat) (B : Ix → Int) (m : Int) (hB : ∀ i, i < N → 0 ≤ B [i] ∧ B [i] < 256) (hm : -9223372036854775808 ≤ m ∧ m < 9223372036854775808) (hN : N = 2) (hb : B [0] = 1) (ha : ackR (B [1]) = true) (hr : rightR (maskR (B [1])) = false) :
    RunsTo Tryd.prog 5 [.code (bodyOf Tryd.f5)] (envOf [vL 100 1 N, vN m] Tryd.f5.ntmps) (Sx.look (allG t0 t1 t2 t3 t4 t5 t6 t7 t8 t9 t10 t11 t12 t13 t14 t15 ++ [⟨100, false, none, 1, .ta N (.vi .u8 B)⟩])) 110 (YES) (Sx.look ([])) 400 := by
  have hre := right_eq hm.1 hm.2
  have hw : rightR m = true → wordsC m = wordsR m := fun h => words_eq hm.2 (by rw [hre]; exact h)
  have hw0 : rightR m = false → wordsC m = [] := fun h => by simp [wordsC, hre, h]
  have h0 := hB 0 (by omega)
  have h1 := hB 1 (by omega)
  have g0 := by_get (B := B) (n := N) (i := 0) (by omega) h0
  have g1 := by_get (B := B) (n := N) (i := 1) (by omega) h1
  obtain ⟨e1, e2, e3⟩ := byte_eq h1.1 h1.2
  have hak : ((IntKind.i64.wrap ((B [1]).tdiv 4)).tmod 2 == 1) = true := ha
  have hmk : maskR (B [1]) = B [1] - 4 := by simp [maskR, ha]
  rw [hr] at e2
  rw [ha] at e3
  rw [hmk] at hr e1 e2
  refine bcase (c := (rightR m)) (fun gg0 => ?_) (fun gg0 => ?_)
  · refine runs_last baseC (Sx.Ends.of (mbForm1_p0 t0 t1 t2 t3 t4 t5 t6 t7 t8 t9 t10 t11 t12 t13 t14 t15 N B m) ⟨?oo, ?rr⟩) (by kernel_rfl) rfl (gtL (by decide)) (by decide)
    case oo =>
      refine (okc ?_ (okc ?_ (okc ?_ (okc ?_ (okc ?_ (okc ?_ (okc ?_ (okc ?_ (okc ?_ (okc ?_ (okc ?_ (okc ?_ (okc ?_ (okc ?_ (okc ?_ (okc ?_ (okc ?_ (okc ?_ (okc ?_ (okc gg0 (okc ?_ okn)))))))))))))))))))))
      all_goals ((try simp (disch := omega) only [SS, bl_len, hre, g0, g1, e1, e2, e3, hak, hr]); first | done | omega | assumption | (simp (disch := omega) only [SS, bl_len, hre, g0, g1, e1, e2, e3, hak, hr] at *; first | done | omega | assumption) | (simp_all; done) | grind)
    case rr =>
      first | trivial | (simp; done) | (refine ⟨?_, trivial⟩; (try simp (disch := omega) only [SS, bl_len, hre, g0, g1, e1, e2, e3, hak, hr]); first | done | omega | assumption | (simp (disch := omega) only [SS, bl_len, hre, g0, g1, e1, e2, e3, hak, hr] at *; first | done | omega | assumption) | (simp_all; done) | grind)
  · refine runs_last baseC (Sx.Ends.of (mbForm1_p1 t0 t1 t2 t3 t4 t5 t6 t7 t8 t9 t10 t11 t12 t13 t14 t15 N B m) ⟨?oo, ?rr⟩) (by kernel_rfl) rfl (gtL (by decide)) (by decide)
    case oo =>
      refine (okc ?_ (okc ?_ (okc ?_ (okc ?_ (okc ?_ (okc ?_ (okc ?_ (okc ?_ (okc ?_ (okc ?_ (okc ?_ (okc ?_ (okc ?_ (okc ?_ (okc ?_ (okc ?_ (okc ?_ (okc ?_ (okc ?_ (okc gg0 (okc ?_ okn)))))))))))))))))))))
      all_goals ((try simp (disch := omega) only [SS, bl_len, hre, g0, g1, e1, e2, e3, hak, hr]); first | done | omega | assumption | (simp (disch := omega) only [SS, bl_len, hre, g0, g1, e1, e2, e3, hak, hr] at *; first | done | omega | assumption) | (simp_all; done) | grind)
    case rr =>
      first | trivial | (simp; done) | (refine ⟨?_, trivial⟩; (try simp (disch := omega) only [SS, bl_len, hre, g0, g1, e1, e2, e3, hak, hr]); first | done | omega | assumption | (simp (disch := omega) only [SS, bl_len, hre, g0, g1, e1, e2, e3, hak, hr] at *; first | done | omega | assumption) | (simp_all; done) | grind)

theorem mbOk1_p0 (t0 t1 t2 t3 t4 t5 t6 t7 t8 t9 t10 t11 t12 t13 t14 t15 : List UInt8) (N : Nat) (B : Ix → Int) (m : Int) :
    isEnd (evTill Tryd.prog sumsC 300 (99) 900 5 [.code (bodyOf Tryd.f5)] (envOf [vL 100 1 N, vN m] Tryd.f5.ntmps) (allG t0 t1 t2 t3 t4 t5 t6 t7 t8 t9 t10 t11 t12 t13 t14 t15 ++ [⟨100, false, none, 1, .ta N (.vi .u8 B)⟩]) ⟨[.t, .f, .s false, .s false, .s false, .s true, .s true, .s true, .s false, .s true, .s true, .s true, .t, .s false, .s true, .s true, .s true, .s true, .s false, .s false, .s true, .s false, .s true, .t, .t, .s true, .t, .s false, .t, .s false, .s true, .s true, .t, .t, .t, .s true, .t], 110⟩) (endP ([]) YES [] 400) =
    (OkL [(decide ((↑N : Int) > (50 : Int)), false), (decide ((↑N : Int) < (2 : Int)), false), (decide ((↑N : Int) > (2 : Int)), false), (decide ((0 : Int) ≤ (0 : Int) ∧ (0 : Int) < (↑N : Int)), true), (Nat.blt (0 : Nat) N, true), (Nat.blt (0 : Nat) N, true), (B [(0 : Nat)] != (1 : Int), false), (decide ((0 : Int) ≤ (1 : Int) ∧ (1 : Int) < (↑N : Int)), true), (Nat.blt (1 : Nat) N, true), (Nat.blt (1 : Nat) N, true), (!rightC (iandn IntKind.i64 (IntKind.i64.wrap (B [(1 : Nat)])) (4 : Int)), false), (decide ((0 : Int) ≤ (1 : Int) ∧ (1 : Int) < (↑N : Int)), true), (Nat.blt (1 : Nat) N, true), (Nat.blt (1 : Nat) N, true), (((0 : Nat) + N).ble N, true), (decide ((↑(bytesOf B [] (0 : Nat) N).length : Int) < (2 : Int)), false), (decide ((↑(bytesOf B [] (0 : Nat) N).length : Int) > (2 : Int)), false), (decide ((0 : Int) ≤ (0 : Int) ∧ (0 : Int) < (↑(bytesOf B [] (0 : Nat) N).length : Int)), true), ((↑((bytesOf B [] (0 : Nat) N).getD (0 : Nat) (0 : UInt8)).toNat : Int) != (1 : Int), false), (decide ((0 : Int) ≤ (1 : Int) ∧ (1 : Int) < (↑(bytesOf B [] (0 : Nat) N).length : Int)), true), ((IntKind.i64.wrap ((IntKind.i64.wrap (↑((bytesOf B [] (0 : Nat) N).getD (1 : Nat) (0 : UInt8)).toNat : Int)).tdiv (4 : Int))).tmod (2 : Int) == (1 : Int), true), (!rightR (IntKind.i64.wrap (IntKind.i64.wrap (↑((bytesOf B [] (0 : Nat) N).getD (1 : Nat) (0 : UInt8)).toNat : Int) - (4 : Int))), false), (rightR m, false), (iandn IntKind.i64 (IntKind.i64.wrap (B [(1 : Nat)])) (4 : Int) == IntKind.i64.wrap (IntKind.i64.wrap (↑((bytesOf B [] (0 : Nat) N).getD (1 : Nat) (0 : UInt8)).toNat : Int) - (4 : Int)), true), ((iand IntKind.u8 (B [(1 : Nat)]) (4 : Int) != (0 : Int)) == ((IntKind.i64.wrap ((IntKind.i64.wrap (↑((bytesOf B [] (0 : Nat) N).getD (1 : Nat) (0 : UInt8)).toNat : Int)).tdiv (4 : Int))).tmod (2 : Int) == (1 : Int)), true), (rightC m == rightR m, true)] ∧ true = (wordsC m == []) ∧ True) := by kernel_rfl
theorem mbOk1_p1 (t0 t1 t2 t3 t4 t5 t6 t7 t8 t9 t10 t11 t12 t13 t14 t15 : List UInt8) (N : Nat) (B : Ix → Int) (m : Int) :
    isEnd (evTill Tryd.prog sumsC 300 (99) 900 5 [.code (bodyOf Tryd.f5)] (envOf [vL 100 1 N, vN m] Tryd.f5.ntmps) (allG t0 t1 t2 t3 t4 t5 t6 t7 t8 t9 t10 t11 t12 t13 t14 t15 ++ [⟨100, false, none, 1, .ta N (.vi .u8 B)⟩]) ⟨[.t, .f, .s false, .s false, .s false, .s true, .s true, .s true, .s false, .s true, .s true, .s true, .t, .s false, .s true, .s true, .s true, .s true, .s false, .s false, .s true, .s false, .s true, .t, .t, .s true, .t, .s false, .t, .s true, .t, .s true, .s true, .t, .t, .t, .s true, .t], 110⟩) (endP ([]) YES [] 400) =
    (OkL [(decide ((↑N : Int) > (50 : Int)), false), (decide ((↑N : Int) < (2 : Int)), false), (decide ((↑N : Int) > (2 : Int)), false), (decide ((0 : Int) ≤ (0 : Int) ∧ (0 : Int) < (↑N : Int)), true), (Nat.blt (0 : Nat) N, true), (Nat.blt (0 : Nat) N, true), (B [(0 : Nat)] != (1 : Int), false), (decide ((0 : Int) ≤ (1 : Int) ∧ (1 : Int) < (↑N : Int)), true), (Nat.blt (1 : Nat) N, true), (Nat.blt (1 : Nat) N, true), (!rightC (iandn IntKind.i64 (IntKind.i64.wrap (B [(1 : Nat)])) (4 : Int)), false), (decide ((0 : Int) ≤ (1 : Int) ∧ (1 : Int) < (↑N : Int)), true), (Nat.blt (1 : Nat) N, true), (Nat.blt (1 : Nat) N, true), (((0 : Nat) + N).ble N, true), (decide ((↑(bytesOf B [] (0 : Nat) N).length : Int) < (2 : Int)), false), (decide ((↑(bytesOf B [] (0 : Nat) N).length : Int) > (2 : Int)), false), (decide ((0 : Int) ≤ (0 : Int) ∧ (0 : Int) < (↑(bytesOf B [] (0 : Nat) N).length : Int)), true), ((↑((bytesOf B [] (0 : Nat) N).getD (0 : Nat) (0 : UInt8)).toNat : Int) != (1 : Int), false), (decide ((0 : Int) ≤ (1 : Int) ∧ (1 : Int) < (↑(bytesOf B [] (0 : Nat) N).length : Int)), true), ((IntKind.i64.wrap ((IntKind.i64.wrap (↑((bytesOf B [] (0 : Nat) N).getD (1 : Nat) (0 : UInt8)).toNat : Int)).tdiv (4 : Int))).tmod (2 : Int) == (1 : Int), true), (!rightR (IntKind.i64.wrap (IntKind.i64.wrap (↑((bytesOf B [] (0 : Nat) N).getD (1 : Nat) (0 : UInt8)).toNat : Int) - (4 : Int))), false), (rightR m, true), (iandn IntKind.i64 (IntKind.i64.wrap (B [(1 : Nat)])) (4 : Int) == IntKind.i64.wrap (IntKind.i64.wrap (↑((bytesOf B [] (0 : Nat) N).getD (1 : Nat) (0 : UInt8)).toNat : Int) - (4 : Int)), true), ((iand IntKind.u8 (B [(1 : Nat)]) (4 : Int) != (0 : Int)) == ((IntKind.i64.wrap ((IntKind.i64.wrap (↑((bytesOf B [] (0 : Nat) N).getD (1 : Nat) (0 : UInt8)).toNat : Int)).tdiv (4 : Int))).tmod (2 : Int) == (1 : Int)), true), (rightC m == rightR m, true)] ∧ true = (wordsC m == wordsR m) ∧ True) := by kernel_rfl

set_option maxHeartbeats 4000000 in
theorem mbOk1 (t0 t1 t2 t3 t4 t5 t6 t7 t8 t9 t10 t11 t12 t13 t14 t15 : List UInt8) (N : Nat) (B : Ix → Int) (m : Int) (hB : ∀ i, i < N → 0 ≤ B [i] ∧ B [i] < 256) (hm : -9223372036854775808 ≤ m ∧ m < 9223372036854775808) (hN : N = 2) (hb : B [0] = 1) (ha : ackR (B [1]) = true) (hr : rightR (maskR (B [1])) = true) :
    RunsTo Tryd.prog 5 [.code (bodyOf Tryd.f5)] (envOf [vL 100 1 N, vN m] Tryd.f5.ntmps) (Sx.look (allG t0 t1 t2 t3 t4 t5 t6 t7 t8 t9 t10 t11 t12 t13 t14 t15 ++ [⟨100, false, none, 1, .ta N (.vi .u8 B)⟩])) 110 (YES) (Sx.look ([])) 400 := by
  have hre := right_eq hm.1 hm.2
  have hw : rightR m = true → wordsC m = wordsR m := fun h => words_eq hm.2 (by rw [hre]; exact h)
  have hw0 : rightR m = false → wordsC m = [] := fun h => by simp [wordsC, hre, h]
  have h0 := hB 0 (by omega)
  have h1 := hB 1 (by omega)
  have g0 := by_get (B := B) (n := N) (i := 0) (by omega) h0
  have g1 := by_get (B := B) (n := N) (i := 1) (by omega) h1
  obtain ⟨e1, e2, e3⟩ := byte_eq h1.1 h1.2
  have hak : ((IntKind.i64.wrap ((B [1]).tdiv 4)).tmod 2 == 1) = true := ha
  have hmk : maskR (B [1]) = B [1] - 4 := by simp [maskR, ha]
  rw [hr] at e2
  rw [ha] at e3
  rw [hmk] at hr e1 e2
  refine bcase (c := (rightR m)) (fun gg0 => ?_) (fun gg0 => ?_)
  · refine runs_last baseC (Sx.Ends.of (mbOk1_p0 t0 t1 t2 t3 t4 t5 t6 t7 t8 t9 t10 t11 t12 t13 t14 t15 N B m) ⟨?oo, ?rr⟩) (by kernel_rfl) rfl (gtL (by decide)) (by decide)
    case oo =>
      refine (okc ?_ (okc ?_ (okc ?_ (okc ?_ (okc ?_ (okc ?_ (okc ?_ (okc ?_ (okc ?_ (okc ?_ (okc ?_ (okc ?_ (okc ?_ (okc ?_ (okc ?_ (okc ?_ (okc ?_ (okc ?_ (okc ?_ (okc ?_ (okc ?_ (okc ?_ (okc gg0 (okc ?_ (okc ?_ (okc ?_ okn))))))))))))))))))))))))))
      all_goals ((try simp (disch := omega) only [SS, bl_len, hre, g0, g1, e1, e2, e3, hak, hr]); first | done | omega | assumption | (simp (disch := omega) only [SS, bl_len, hre, g0, g1, e1, e2, e3, hak, hr] at *; first | done | omega | assumption) | (simp_all; done) | grind)
    case rr =>
      first | trivial | (simp; done) | (refine ⟨?_, trivial⟩; (try simp (disch := omega) only [SS, bl_len, hre, g0, g1, e1, e2, e3, hak, hr]); first | done | omega | assumption | (simp (disch := omega) only [SS, bl_len, hre, g0, g1, e1, e2, e3, hak, hr] at *; first | done | omega | assumption) | (simp_all; done) | grind)
  · refine runs_last baseC (Sx.Ends.of (mbOk1_p1 t0 t1 t2 t3 t4 t5 t6 t7 t8 t9 t10 t11 t12 t13 t14 t15 N B m) ⟨?oo, ?rr⟩) (by kernel_rfl) rfl (gtL (by decide)) (by decide)
    case oo =>
      refine (okc ?_ (okc ?_ (okc ?_ (okc ?_ (okc ?_ (okc ?_ (okc ?_ (okc ?_ (okc ?_ (okc ?_ (okc ?_ (okc ?_ (okc ?_ (okc ?_ (okc ?_ (okc ?_ (okc ?_ (okc ?_ (okc ?_ (okc ?_ (okc ?_ (okc ?_ (okc gg0 (okc ?_ (okc ?_ (okc ?_ okn))))))))))))))))))))))))))
      all_goals ((try simp (disch := omega) only [SS, bl_len, hre, g0, g1, e1, e2, e3, hak, hr]); first | done | omega | assumption | (simp (disch := omega) only [SS, bl_len, hre, g0, g1, e1, e2, e3, hak, hr] at *; first | done | omega | assumption) | (simp_all; done) | grind)
    case rr =>
      first | trivial | (simp; done) | (refine ⟨?_, trivial⟩; (try simp (disch := omega) only [SS, bl_len, hre, g0, g1, e1, e2, e3, hak, hr]); first | done | omega | assumption | (simp (disch := omega) only [SS, bl_len, hre, g0, g1, e1, e2, e3, hak, hr] at *; first | done | omega | assumption) | (simp_all; done) | grind)

end Go.Proofs.YtealbjkhjpmilaaDoor
