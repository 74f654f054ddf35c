/- Tables, act by act: the law's steps. -/
import Derived.Test.YtgbgfekfcjphnaaDoorUhC
set_option linter.unusedSimpArgs false
set_option linter.unusedVariables false
set_option maxRecDepth 100000
namespace Go.Proofs.YtgbgfekfcjphnaaDoor
open Go.Sx


def nwL (l : List Rw) (sd op k : Int) (o : Bool) : List Rw := nwG (rS l) (rO l) (rK l) (rB l) l.length sd op k o
def kRef (l : List Rw) (sd op : Int) : Int := kG (rS l) (rO l) (rK l) l.length sd op
def bRef (l : List Rw) (sd op : Int) : Bool := bG (rS l) (rO l) (rB l) l.length sd op
def lowL (l : List Rw) : Bool := lowB (rK l) l.length 0
def onLR (l : List Rw) (sd : Int) : List Int := onR (rS l) (rO l) (rK l) l.length sd 256
theorem nwG_le (RS RO RK : Ix → Int) (RB : Ix → Bool) (R : Nat) (sd op k : Int) (o : Bool) : (nwG RS RO RK RB R sd op k o).length ≤ R + 1 := by
  have := keep_len (RS := RS) (RO := RO) (RK := RK) (RB := RB) (sd := sd) (op := op) R
  simp only [nwG, List.length_append, List.length_cons, List.length_nil]; omega
def allG (t0 t1 t2 t3 t4 t5 t6 t7 t8 t9 t10 t11 t12 t13 t14 t15 : List UInt8) : List Ent := sentEnts 16 131 [(3, t3), (4, t4), (5, t5), (6, t6), (0, t0), (7, t7), (8, t8), (9, t9), (2, t2), (1, t1), (10, t10), (11, t11), (12, t12), (13, t13), (14, t14), (15, t15)]
def tactE (l N : Nat) (KD CD OP : Ix → Int) : List Ent := [⟨l, false, none, 3, .ta N (.tc (.vi .i64 KD) (.tc (.vi .i64 CD) (.tc (.vi .i64 OP) .t0)))⟩]
def XU (t0 t1 t2 t3 t4 t5 t6 t7 t8 t9 t10 t11 t12 t13 t14 t15 : List UInt8) (N M L : Nat) (U V KD CD OP : Ix → Int) : List Ent := allG t0 t1 t2 t3 t4 t5 t6 t7 t8 t9 t10 t11 t12 t13 t14 t15 ++ (polE 100 N M U V ++ tactE 102 L KD CD OP)
def taE (L i : Nat) : List (Nat × SV) := [(5, vP 120), (6, vP 121), (50, vL 102 3 L), (51, vN L), (52, vN i)]
def bo (N M q : Nat) (K : Ix → Int) (O A : Ix → Bool) (h a s : Int) (l : List Rw) : List Ent := tabE 120 K O A h a s ++ mdW 121 100 N M q h a s l
def sumsC : List (FuncId × Summ) := [(22, aliveC.summ 32), (23, newPC.summ 32), (30, calmPC.summ 32), (35, stcPC.summ 32), (34, lowPC.summ 32), (38, liPC.summ 32), (39, lrPC.summ 32), (37, siPC.summ 32), (20, numS)]
theorem baseC : Base0 Tryd.prog sumsC := (((((((((baseO.cons Tryd.func20 (by kernel_rfl) numS_ok).cons Tryd.func37 (by kernel_rfl) (PC.summ_ok si_pc gtop32)).cons Tryd.func39 (by kernel_rfl) (PC.summ_ok lr_pc gtop32)).cons Tryd.func38 (by kernel_rfl) (PC.summ_ok li_pc gtop32)).cons Tryd.func34 (by kernel_rfl) (PC.summ_ok low_pc gtop32)).cons Tryd.func35 (by kernel_rfl) (PC.summ_ok stc_pc gtop32)).cons Tryd.func30 (by kernel_rfl) (PC.summ_ok calm_pc gtop32)).cons Tryd.func23 (by kernel_rfl) (PC.summ_ok new_pc gtop32)).cons Tryd.func22 (by kernel_rfl) (PC.summ_ok alive_pc gtop32))
def sumsOk : List (FuncId × Summ) := (31, thearPC.summ 32) :: (28, taskPC.summ 32) :: (32, mhPC.summ 32) :: (33, maPC.summ 32) :: sumsC
theorem baseOk : Base0 Tryd.prog sumsOk := ((((baseC.cons Tryd.func33 (by kernel_rfl) (PC.summ_ok ma_pc gtop32)).cons Tryd.func32 (by kernel_rfl) (PC.summ_ok mh_pc gtop32)).cons Tryd.func28 (by kernel_rfl) (PC.summ_ok task_pc gtop32)).cons Tryd.func31 (by kernel_rfl) (PC.summ_ok thear_pc gtop32))
def sumsX : List (FuncId × Summ) := (31, thearPC.summ 32) :: (28, taskXPC.summ 32) :: (33, mxPC.summ 32) :: sumsC
theorem baseX : Base0 Tryd.prog sumsX := (((baseC.cons Tryd.func33 (by kernel_rfl) (PC.summ_ok mx_pc gtop32)).cons Tryd.func28 (by kernel_rfl) (PC.summ_ok taskX_pc gtop32)).cons Tryd.func31 (by kernel_rfl) (PC.summ_ok thear_pc gtop32))
def sumsK : List (FuncId × Summ) := (31, hearKPC.summ 32) :: (28, askKPC.summ 32) :: sumsC
theorem baseK : Base0 Tryd.prog sumsK := ((baseC.cons Tryd.func28 (by kernel_rfl) (PC.summ_ok askK_pc gtop32)).cons Tryd.func31 (by kernel_rfl) (PC.summ_ok hearK_pc gtop32))
def sumsR : List (FuncId × Summ) := (31, hearRPC.summ 32) :: (28, askRPC.summ 32) :: sumsC
theorem baseR : Base0 Tryd.prog sumsR := ((baseC.cons Tryd.func28 (by kernel_rfl) (PC.summ_ok askR_pc gtop32)).cons Tryd.func31 (by kernel_rfl) (PC.summ_ok hearR_pc gtop32))

theorem inO_no {n : Int} (h : inO n = false) : n < 0 ∨ 255 < n := by
  simp only [inO, Bool.and_eq_false_iff, decide_eq_false_iff_not] at h; omega
theorem vrb_of {n : Int} (h : vrb n = true) : 251 ≤ n ∧ n ≤ 254 := by simpa [vrb] using h
theorem vrb_no {n : Int} (h : vrb n = false) : n < 251 ∨ 254 < n := by
  simp only [vrb, Bool.and_eq_false_iff, decide_eq_false_iff_not] at h; omega
theorem rt_on {k : Int} {o : Bool} (h : rtB k o = true) (hk : k = 1) : o = false := by
  obtain ⟨h1, h2, h3⟩ := rtB_ok h
  cases o with
  | false => rfl
  | true => have := h3 rfl; omega

theorem ulong_p0 (t0 t1 t2 t3 t4 t5 t6 t7 t8 t9 t10 t11 t12 t13 t14 t15 : List UInt8) (N M L : Nat) (U V KD CD OP : Ix → Int) :
    isEnd (evTill Tryd.prog sumsOk 400 (behind Tryd.f8 0) 900 8 [.code (bodyOf Tryd.f8)] (envOf [.agg (polT 100 N M), vL 102 3 L] Tryd.f8.ntmps) (XU t0 t1 t2 t3 t4 t5 t6 t7 t8 t9 t10 t11 t12 t13 t14 t15 N M L U V KD CD OP ++ []) ⟨[.t, .f, .s false, .s false, .s true], 110⟩) (endP ([]) YES [] 2500) =
    (OkL [(decide ((↑L : Int) > (40 : Int)), false), (decide ((↑N : Int) > (40 : Int)), false), (decide ((↑M : Int) > (40 : Int)), true)] ∧ true = true ∧ True) := by kernel_rfl
theorem ulong_p1 (t0 t1 t2 t3 t4 t5 t6 t7 t8 t9 t10 t11 t12 t13 t14 t15 : List UInt8) (N M L : Nat) (U V KD CD OP : Ix → Int) :
    isEnd (evTill Tryd.prog sumsOk 400 (behind Tryd.f8 0) 900 8 [.code (bodyOf Tryd.f8)] (envOf [.agg (polT 100 N M), vL 102 3 L] Tryd.f8.ntmps) (XU t0 t1 t2 t3 t4 t5 t6 t7 t8 t9 t10 t11 t12 t13 t14 t15 N M L U V KD CD OP ++ []) ⟨[.t, .f, .s false, .s true], 110⟩) (endP ([]) YES [] 2500) =
    (OkL [(decide ((↑L : Int) > (40 : Int)), false), (decide ((↑N : Int) > (40 : Int)), true)] ∧ true = true ∧ True) := by kernel_rfl
theorem ulong_p2 (t0 t1 t2 t3 t4 t5 t6 t7 t8 t9 t10 t11 t12 t13 t14 t15 : List UInt8) (N M L : Nat) (U V KD CD OP : Ix → Int) :
    isEnd (evTill Tryd.prog sumsOk 400 (behind Tryd.f8 0) 900 8 [.code (bodyOf Tryd.f8)] (envOf [.agg (polT 100 N M), vL 102 3 L] Tryd.f8.ntmps) (XU t0 t1 t2 t3 t4 t5 t6 t7 t8 t9 t10 t11 t12 t13 t14 t15 N M L U V KD CD OP ++ []) ⟨[.t, .f, .s true], 110⟩) (endP ([]) YES [] 2500) =
    (OkL [(decide ((↑L : Int) > (40 : Int)), true)] ∧ true = true ∧ True) := by kernel_rfl

set_option maxHeartbeats 4000000 in
theorem ulong (t0 t1 t2 t3 t4 t5 t6 t7 t8 t9 t10 t11 t12 t13 t14 t15 : List UInt8) (N M L : Nat) (U V KD CD OP : Ix → Int) (hb : 40 < L ∨ 40 < N ∨ 40 < M) :
    RunsTo Tryd.prog 8 [.code (bodyOf Tryd.f8)] (envOf [.agg (polT 100 N M), vL 102 3 L] Tryd.f8.ntmps) (Sx.look (XU t0 t1 t2 t3 t4 t5 t6 t7 t8 t9 t10 t11 t12 t13 t14 t15 N M L U V KD CD OP ++ [])) 110 YES (Sx.look []) 2500 := by
  refine bcase (c := (decide ((↑L : Int) > (40 : Int)))) (fun gg0 => ?_) (fun gg0 => ?_)
  · refine bcase (c := (decide ((↑N : Int) > (40 : Int)))) (fun gg1 => ?_) (fun gg1 => ?_)
    · have gg2 : (decide ((↑M : Int) > (40 : Int))) = true := by first | (simp (disch := omega) only [SS, List.nil_append, List.cons_append, Go.Sx.sum, Int.toNat_zero, Int.toNat_one, Int.zero_add] at *; omega) | (simp (disch := omega) only [SS, List.nil_append, List.cons_append, Go.Sx.sum, Int.toNat_zero, Int.toNat_one, Int.zero_add] at *; done) | (simp_all; done)
      exact runs_last baseOk (Sx.Ends.of (ulong_p0 t0 t1 t2 t3 t4 t5 t6 t7 t8 t9 t10 t11 t12 t13 t14 t15 N M L U V KD CD OP) ⟨(okc gg0 (okc gg1 (okc gg2 okn))), by first | rfl | simp_all, trivial⟩) (by kernel_rfl) rfl (gtL (by decide)) (by decide)
    · exact runs_last baseOk (Sx.Ends.of (ulong_p1 t0 t1 t2 t3 t4 t5 t6 t7 t8 t9 t10 t11 t12 t13 t14 t15 N M L U V KD CD OP) ⟨(okc gg0 (okc gg1 okn)), by first | rfl | simp_all, trivial⟩) (by kernel_rfl) rfl (gtL (by decide)) (by decide)
  · exact runs_last baseOk (Sx.Ends.of (ulong_p2 t0 t1 t2 t3 t4 t5 t6 t7 t8 t9 t10 t11 t12 t13 t14 t15 N M L U V KD CD OP) ⟨(okc gg0 okn), by first | rfl | simp_all, trivial⟩) (by kernel_rfl) rfl (gtL (by decide)) (by decide)

theorem ugo_p0 (t0 t1 t2 t3 t4 t5 t6 t7 t8 t9 t10 t11 t12 t13 t14 t15 : List UInt8) (N M L : Nat) (U V KD CD OP : Ix → Int) :
    isMore (evTill Tryd.prog sumsOk 400 (behind Tryd.f8 0) 900 8 [.code (bodyOf Tryd.f8)] (envOf [.agg (polT 100 N M), vL 102 3 L] Tryd.f8.ntmps) (XU t0 t1 t2 t3 t4 t5 t6 t7 t8 t9 t10 t11 t12 t13 t14 t15 N M L U V KD CD OP ++ []) ⟨[.t, .f, .s false, .s false, .s false, .s true, .s true, .s true, .f], 110⟩) (moreP (headOf Tryd.f8 0) ([((120 : Nat), Rn.to (452 : Nat)), ((121 : Nat), Rn.to (471 : Nat)), ((122 : Nat), Rn.nil (4 : Nat))]) Tryd.f8.ntmps (taE L 0) (bo N M 122 zI zB (agF U V N M) 0 0 0 []) 2500) =
    (OkL [(decide ((↑L : Int) > (40 : Int)), false), (decide ((↑N : Int) > (40 : Int)), false), (decide ((↑M : Int) > (40 : Int)), false), (M.beq M, true), (N.beq N, true), (decide (N ≤ (100 : Nat)) && decide (M ≤ (100 : Nat)), true)] ∧ headOf Tryd.f8 (0 : Nat) = headOf Tryd.f8 (0 : Nat) ∧ ((0 : Nat) = (0 : Nat) ∧ (0 : Nat) = (0 : Nat) ∧ ((0 : Nat) = (0 : Nat) ∧ L = L) ∧ (↑L : Int) = (↑L : Int) ∧ (↑(0 : Nat) : Int) = (0 : Int)) ∧ (((2 : Nat) = (2 : Nat) ∧ (256 : Nat) = (256 : Nat) ∧ ((∀ (i : Nat), i < (2 : Nat) → ∀ (i_1 : Nat), i_1 < (256 : Nat) → zI [i, i_1] = zI [i, i_1]) ∧ ∀ (i : Nat), i < (2 : Nat) → ∀ (i_1 : Nat), i_1 < (256 : Nat) → zB [i, i_1] = zB [i, i_1]) ∧ ∀ (i : Nat), i < (2 : Nat) → ∀ (i_1 : Nat), i_1 < (256 : Nat) → agF U V N M [i, i_1] = agF U V N M [i, i_1]) ∧ (0 : Int) = (0 : Int) ∧ (0 : Int) = (0 : Int) ∧ (0 : Int) = (0 : Int)) ∧ (((0 : Nat) = (0 : Nat) ∧ N = N) ∧ ((0 : Nat) = (0 : Nat) ∧ M = M) ∧ (0 : Nat) = (0 : Nat) ∧ (0 : Int) = (0 : Int) ∧ (0 : Int) = (0 : Int) ∧ (0 : Int) = (0 : Int)) ∧ (0 : Nat) = (0 : Nat)) := by kernel_rfl

set_option maxHeartbeats 4000000 in
theorem ugo (t0 t1 t2 t3 t4 t5 t6 t7 t8 t9 t10 t11 t12 t13 t14 t15 : List UInt8) (N M L : Nat) (U V KD CD OP : Ix → Int) (hL : L ≤ 40) (hN : N ≤ 40) (hM : M ≤ 40) (next : RunsTo Tryd.prog 8 (headOf Tryd.f8 0) (envAt Tryd.f8.ntmps (taE L 0)) (Sx.look (XU t0 t1 t2 t3 t4 t5 t6 t7 t8 t9 t10 t11 t12 t13 t14 t15 N M L U V KD CD OP ++ bo N M 122 zI zB (agF U V N M) 0 0 0 [])) 110 YES (Sx.look []) 2500) :
    RunsTo Tryd.prog 8 [.code (bodyOf Tryd.f8)] (envOf [.agg (polT 100 N M), vL 102 3 L] Tryd.f8.ntmps) (Sx.look (XU t0 t1 t2 t3 t4 t5 t6 t7 t8 t9 t10 t11 t12 t13 t14 t15 N M L U V KD CD OP ++ [])) 110 YES (Sx.look []) 2500 := by
  have gg0 : (decide ((↑L : Int) > (40 : Int))) = false := by clear next; first | (simp (disch := omega) only [SS, List.nil_append, List.cons_append, Go.Sx.sum, Int.toNat_zero, Int.toNat_one, Int.zero_add] at *; omega) | (simp (disch := omega) only [SS, List.nil_append, List.cons_append, Go.Sx.sum, Int.toNat_zero, Int.toNat_one, Int.zero_add] at *; done) | (simp_all; done)
  have gg1 : (decide ((↑N : Int) > (40 : Int))) = false := by clear next; first | (simp (disch := omega) only [SS, List.nil_append, List.cons_append, Go.Sx.sum, Int.toNat_zero, Int.toNat_one, Int.zero_add] at *; omega) | (simp (disch := omega) only [SS, List.nil_append, List.cons_append, Go.Sx.sum, Int.toNat_zero, Int.toNat_one, Int.zero_add] at *; done) | (simp_all; done)
  have gg2 : (decide ((↑M : Int) > (40 : Int))) = false := by clear next; first | (simp (disch := omega) only [SS, List.nil_append, List.cons_append, Go.Sx.sum, Int.toNat_zero, Int.toNat_one, Int.zero_add] at *; omega) | (simp (disch := omega) only [SS, List.nil_append, List.cons_append, Go.Sx.sum, Int.toNat_zero, Int.toNat_one, Int.zero_add] at *; done) | (simp_all; done)
  have gg3 : (M.beq M) = true := by clear next; first | (simp (disch := omega) only [SS, List.nil_append, List.cons_append, Go.Sx.sum, Int.toNat_zero, Int.toNat_one, Int.zero_add] at *; omega) | (simp (disch := omega) only [SS, List.nil_append, List.cons_append, Go.Sx.sum, Int.toNat_zero, Int.toNat_one, Int.zero_add] at *; done) | (simp_all; done)
  have gg4 : (N.beq N) = true := by clear next; first | (simp (disch := omega) only [SS, List.nil_append, List.cons_append, Go.Sx.sum, Int.toNat_zero, Int.toNat_one, Int.zero_add] at *; omega) | (simp (disch := omega) only [SS, List.nil_append, List.cons_append, Go.Sx.sum, Int.toNat_zero, Int.toNat_one, Int.zero_add] at *; done) | (simp_all; done)
  have gg5 : (decide (N ≤ (100 : Nat)) && decide (M ≤ (100 : Nat))) = true := by clear next; first | (simp (disch := omega) only [SS, List.nil_append, List.cons_append, Go.Sx.sum, Int.toNat_zero, Int.toNat_one, Int.zero_add] at *; omega) | (simp (disch := omega) only [SS, List.nil_append, List.cons_append, Go.Sx.sum, Int.toNat_zero, Int.toNat_one, Int.zero_add] at *; done) | (simp_all; done)
  refine runs_more baseOk (More.of (ugo_p0 t0 t1 t2 t3 t4 t5 t6 t7 t8 t9 t10 t11 t12 t13 t14 t15 N M L U V KD CD OP) ⟨(okc gg0 (okc gg1 (okc gg2 (okc gg3 (okc gg4 (okc gg5 okn)))))), rfl, ?_⟩) (by kernel_rfl) (by kernel_rfl) rfl (gtL (by decide)) (by decide) next
  clear next
  simp [zI, zB]

theorem udone_p0 (t0 t1 t2 t3 t4 t5 t6 t7 t8 t9 t10 t11 t12 t13 t14 t15 : List UInt8) (N M L : Nat) (U V KD CD OP : Ix → Int) (i : Nat) (K : Ix → Int) (O A : Ix → Bool) (h a s : Int) (l : List Rw) :
    isEnd (evTill Tryd.prog sumsOk 400 (behind Tryd.f8 0) 900 8 (headOf Tryd.f8 0) (envAt Tryd.f8.ntmps (taE L i)) (XU t0 t1 t2 t3 t4 t5 t6 t7 t8 t9 t10 t11 t12 t13 t14 t15 N M L U V KD CD OP ++ bo N M 122 K O A h a s l) ⟨[.s false, .t, .s true, .s true, .s true, .s true, .s true, .t, .t, .s true, .s true, .s true, .s true, .s true, .t, .t], 130⟩) (endP ([]) YES [] 2500) =
    (OkL [(decide ((↑i : Int) < (↑L : Int)), false), (l.length.beq l.length, true), (decide (l.length ≤ (100 : Nat)), true), ((onR (rS l) (rO l) (rK l) l.length (0 : Int) (256 : Nat)).length.beq (onR (rS l) (rO l) (rK l) l.length (0 : Int) (256 : Nat)).length, true), ((onM K O (0 : Int) (256 : Nat)).length.beq (onM K O (0 : Int) (256 : Nat)).length, true), (decide ((onM K O (0 : Int) (256 : Nat)).length = (onR (rS l) (rO l) (rK l) l.length (0 : Int) (256 : Nat)).length) && (decide ((onM K O (0 : Int) (256 : Nat)).length ≤ (1000 : Nat)) && eqF (liI (onM K O (0 : Int) (256 : Nat))) (liI (onR (rS l) (rO l) (rK l) l.length (0 : Int) (256 : Nat))) (onM K O (0 : Int) (256 : Nat)).length), true), (l.length.beq l.length, true), (decide (l.length ≤ (100 : Nat)), true), ((onR (rS l) (rO l) (rK l) l.length (1 : Int) (256 : Nat)).length.beq (onR (rS l) (rO l) (rK l) l.length (1 : Int) (256 : Nat)).length, true), ((onM K O (1 : Int) (256 : Nat)).length.beq (onM K O (1 : Int) (256 : Nat)).length, true), (decide ((onM K O (1 : Int) (256 : Nat)).length = (onR (rS l) (rO l) (rK l) l.length (1 : Int) (256 : Nat)).length) && (decide ((onM K O (1 : Int) (256 : Nat)).length ≤ (1000 : Nat)) && eqF (liI (onM K O (1 : Int) (256 : Nat))) (liI (onR (rS l) (rO l) (rK l) l.length (1 : Int) (256 : Nat))) (onM K O (1 : Int) (256 : Nat)).length), true)] ∧ true = ((↑(onM K O (2 : Int) (256 : Nat)).length : Int) == (0 : Int)) ∧ True) := by kernel_rfl

set_option maxHeartbeats 4000000 in
theorem udone (t0 t1 t2 t3 t4 t5 t6 t7 t8 t9 t10 t11 t12 t13 t14 t15 : List UInt8) (N M L : Nat) (U V KD CD OP : Ix → Int) (i : Nat) (K : Ix → Int) (O A : Ix → Bool) (h a s : Int) (l : List Rw) (hi : L ≤ i) (hl : l.length ≤ 90) (h0 : onLR l 0 = onM K O 0 256) (h1 : onLR l 1 = onM K O 1 256) (h2 : onM K O 2 256 = []) :
    RunsTo Tryd.prog 8 (headOf Tryd.f8 0) (envAt Tryd.f8.ntmps (taE L i)) (Sx.look (XU t0 t1 t2 t3 t4 t5 t6 t7 t8 t9 t10 t11 t12 t13 t14 t15 N M L U V KD CD OP ++ bo N M 122 K O A h a s l)) 110 YES (Sx.look []) 2500 := by
  have hm0 := onM_len (K := K) (O := O) (sd := 0) 256
  have hm1 := onM_len (K := K) (O := O) (sd := 1) 256
  simp only [onLR] at h0 h1
  have gg0 : (decide ((↑i : Int) < (↑L : Int))) = false := by (try simp (disch := omega) only [SS, List.nil_append, List.cons_append, Go.Sx.sum, Int.toNat_zero, Int.toNat_one, Int.zero_add, h0, h1, h2]); first | done | omega | assumption | (simp only [eqF_same, Bool.and_true]; simp; omega) | (simp [eqF_same]; done) | (simp [eqF_same]; omega)
  have gg1 : (l.length.beq l.length) = true := by (try simp (disch := omega) only [SS, List.nil_append, List.cons_append, Go.Sx.sum, Int.toNat_zero, Int.toNat_one, Int.zero_add, h0, h1, h2]); first | done | omega | assumption | (simp only [eqF_same, Bool.and_true]; simp; omega) | (simp [eqF_same]; done) | (simp [eqF_same]; omega)
  have gg2 : (decide (l.length ≤ (100 : Nat))) = true := by (try simp (disch := omega) only [SS, List.nil_append, List.cons_append, Go.Sx.sum, Int.toNat_zero, Int.toNat_one, Int.zero_add, h0, h1, h2]); first | done | omega | assumption | (simp only [eqF_same, Bool.and_true]; simp; omega) | (simp [eqF_same]; done) | (simp [eqF_same]; omega)
  have gg3 : ((onR (rS l) (rO l) (rK l) l.length (0 : Int) (256 : Nat)).length.beq (onR (rS l) (rO l) (rK l) l.length (0 : Int) (256 : Nat)).length) = true := by (try simp (disch := omega) only [SS, List.nil_append, List.cons_append, Go.Sx.sum, Int.toNat_zero, Int.toNat_one, Int.zero_add, h0, h1, h2]); first | done | omega | assumption | (simp only [eqF_same, Bool.and_true]; simp; omega) | (simp [eqF_same]; done) | (simp [eqF_same]; omega)
  have gg4 : ((onM K O (0 : Int) (256 : Nat)).length.beq (onM K O (0 : Int) (256 : Nat)).length) = true := by (try simp (disch := omega) only [SS, List.nil_append, List.cons_append, Go.Sx.sum, Int.toNat_zero, Int.toNat_one, Int.zero_add, h0, h1, h2]); first | done | omega | assumption | (simp only [eqF_same, Bool.and_true]; simp; omega) | (simp [eqF_same]; done) | (simp [eqF_same]; omega)
  have gg5 : (decide ((onM K O (0 : Int) (256 : Nat)).length = (onR (rS l) (rO l) (rK l) l.length (0 : Int) (256 : Nat)).length) && (decide ((onM K O (0 : Int) (256 : Nat)).length ≤ (1000 : Nat)) && eqF (liI (onM K O (0 : Int) (256 : Nat))) (liI (onR (rS l) (rO l) (rK l) l.length (0 : Int) (256 : Nat))) (onM K O (0 : Int) (256 : Nat)).length)) = true := by (try simp (disch := omega) only [SS, List.nil_append, List.cons_append, Go.Sx.sum, Int.toNat_zero, Int.toNat_one, Int.zero_add, h0, h1, h2]); first | done | omega | assumption | (simp only [eqF_same, Bool.and_true]; simp; omega) | (simp [eqF_same]; done) | (simp [eqF_same]; omega)
  have gg6 : ((onR (rS l) (rO l) (rK l) l.length (1 : Int) (256 : Nat)).length.beq (onR (rS l) (rO l) (rK l) l.length (1 : Int) (256 : Nat)).length) = true := by (try simp (disch := omega) only [SS, List.nil_append, List.cons_append, Go.Sx.sum, Int.toNat_zero, Int.toNat_one, Int.zero_add, h0, h1, h2]); first | done | omega | assumption | (simp only [eqF_same, Bool.and_true]; simp; omega) | (simp [eqF_same]; done) | (simp [eqF_same]; omega)
  have gg7 : ((onM K O (1 : Int) (256 : Nat)).length.beq (onM K O (1 : Int) (256 : Nat)).length) = true := by (try simp (disch := omega) only [SS, List.nil_append, List.cons_append, Go.Sx.sum, Int.toNat_zero, Int.toNat_one, Int.zero_add, h0, h1, h2]); first | done | omega | assumption | (simp only [eqF_same, Bool.and_true]; simp; omega) | (simp [eqF_same]; done) | (simp [eqF_same]; omega)
  have gg8 : (decide ((onM K O (1 : Int) (256 : Nat)).length = (onR (rS l) (rO l) (rK l) l.length (1 : Int) (256 : Nat)).length) && (decide ((onM K O (1 : Int) (256 : Nat)).length ≤ (1000 : Nat)) && eqF (liI (onM K O (1 : Int) (256 : Nat))) (liI (onR (rS l) (rO l) (rK l) l.length (1 : Int) (256 : Nat))) (onM K O (1 : Int) (256 : Nat)).length)) = true := by (try simp (disch := omega) only [SS, List.nil_append, List.cons_append, Go.Sx.sum, Int.toNat_zero, Int.toNat_one, Int.zero_add, h0, h1, h2]); first | done | omega | assumption | (simp only [eqF_same, Bool.and_true]; simp; omega) | (simp [eqF_same]; done) | (simp [eqF_same]; omega)
  exact runs_last baseOk (Sx.Ends.of (udone_p0 t0 t1 t2 t3 t4 t5 t6 t7 t8 t9 t10 t11 t12 t13 t14 t15 N M L U V KD CD OP i K O A h a s l) ⟨(okc gg0 (okc gg1 (okc gg2 (okc gg3 (okc gg4 (okc gg5 (okc gg1 (okc gg2 (okc gg6 (okc gg7 (okc gg8 okn))))))))))), by first | rfl | simp_all, trivial⟩) (by kernel_rfl) rfl (gtL (by decide)) (by decide)

end Go.Proofs.YtgbgfekfcjphnaaDoor
