/- Telling: the law EmitParts, its steps. -/
import Derived.Test.YtcphocfnhekdaaaDoorUdC
import Derived.Test.YtcphocfnhekdaaaDoorSyY
import Derived.Test.YtcphocfnhekdaaaDoorSyPl
import Derived.Lay
import Derived.Test.YtcphocfnhekdaaaDoorTie
import Derived.Test.YtcphocfnhekdaaaDoorCards
set_option linter.unusedSimpArgs false
set_option linter.unusedVariables false
set_option maxRecDepth 100000
namespace Go.Proofs.YtcphocfnhekdaaaDoor
open Go.Sx

open GramR
theorem bytes_in (B : Ix → Int) (N : Nat) : bytesOf (inG B N 5) [] 0 N = bytesOf B [] 0 N := by
  apply List.ext_getElem?
  intro i
  by_cases h : i < N
  · have e1 := bytesOf_get (B := inG B N 5) (is := []) (st := 0) (n := N) h
    have e2 := bytesOf_get (B := B) (is := []) (st := 0) (n := N) h
    rw [List.getElem?_eq_getElem (by rw [bytesOf_len]; exact h), List.getElem?_eq_getElem (by rw [bytesOf_len]; exact h)]
    rw [List.getD_eq_getElem?_getD, List.getElem?_eq_getElem (by rw [bytesOf_len]; exact h)] at e1 e2
    simp only [Option.getD_some] at e1 e2
    rw [e1, e2]
    simp only [List.nil_append, Nat.zero_add]
    rw [inG_at, if_pos h]
  · rw [List.getElem?_eq_none (by rw [bytesOf_len]; omega), List.getElem?_eq_none (by rw [bytesOf_len]; omega)]
def sumsEOk : List (FuncId × Summ) := [(27, suOkP.summ 38), (22, a6P.summ 38), (23, dtP.summ 38), (24, rdP.summ 38), (28, rtP.summ 38), (14, byP.summ 38), (19, keP.summ 38), (20, numS)]
theorem baseEOk : Base0 Tryd.prog sumsEOk := ((((((((baseO.cons Tryd.func20 (by kernel_rfl) numS_ok).cons Tryd.func19 (by kernel_rfl) (PC.summ_ok keP_pc gtopG)).cons Tryd.func14 (by kernel_rfl) (PC.summ_ok byP_pc gtopG)).cons Tryd.func28 (by kernel_rfl) (PC.summ_ok rtP_pc gtopG)).cons Tryd.func24 (by kernel_rfl) (PC.summ_ok rdP_pc gtopG)).cons Tryd.func23 (by kernel_rfl) (PC.summ_ok dtP_pc gtopG)).cons Tryd.func22 (by kernel_rfl) (PC.summ_ok a6P_pc gtopG)).cons Tryd.func27 (by kernel_rfl) (PC.summ_ok suOkP_pc gtopG))
def sumsERa : List (FuncId × Summ) := [(27, suRaP.summ 38), (22, a6P.summ 38), (23, dtP.summ 38), (24, rdP.summ 38), (28, rtP.summ 38), (14, byP.summ 38), (19, keP.summ 38), (20, numS)]
theorem baseERa : Base0 Tryd.prog sumsERa := ((((((((baseO.cons Tryd.func20 (by kernel_rfl) numS_ok).cons Tryd.func19 (by kernel_rfl) (PC.summ_ok keP_pc gtopG)).cons Tryd.func14 (by kernel_rfl) (PC.summ_ok byP_pc gtopG)).cons Tryd.func28 (by kernel_rfl) (PC.summ_ok rtP_pc gtopG)).cons Tryd.func24 (by kernel_rfl) (PC.summ_ok rdP_pc gtopG)).cons Tryd.func23 (by kernel_rfl) (PC.summ_ok dtP_pc gtopG)).cons Tryd.func22 (by kernel_rfl) (PC.summ_ok a6P_pc gtopG)).cons Tryd.func27 (by kernel_rfl) (PC.summ_ok suRaP_pc gtopG))
def sumsELo : List (FuncId × Summ) := [(27, suLoP.summ 38), (22, a6P.summ 38), (23, dtP.summ 38), (24, rdP.summ 38), (28, rtP.summ 38), (14, byP.summ 38), (19, keP.summ 38), (20, numS)]
theorem baseELo : Base0 Tryd.prog sumsELo := ((((((((baseO.cons Tryd.func20 (by kernel_rfl) numS_ok).cons Tryd.func19 (by kernel_rfl) (PC.summ_ok keP_pc gtopG)).cons Tryd.func14 (by kernel_rfl) (PC.summ_ok byP_pc gtopG)).cons Tryd.func28 (by kernel_rfl) (PC.summ_ok rtP_pc gtopG)).cons Tryd.func24 (by kernel_rfl) (PC.summ_ok rdP_pc gtopG)).cons Tryd.func23 (by kernel_rfl) (PC.summ_ok dtP_pc gtopG)).cons Tryd.func22 (by kernel_rfl) (PC.summ_ok a6P_pc gtopG)).cons Tryd.func27 (by kernel_rfl) (PC.summ_ok suLoP_pc gtopG))
def allS (t0 t1 t2 t3 t4 t5 t6 t7 t8 t9 t10 t11 t12 t13 t14 t15 : List UInt8) : List Ent := sentEnts 19 144 [(2, t0), (5, t1), (4, t2), (3, t3), (0, t4), (6, t5), (7, t6), (8, t7), (1, t8), (9, t9), (10, t10), (11, t11), (12, t12), (13, t13), (14, t14), (15, t15)]
theorem epLong_p0 (t0 t1 t2 t3 t4 t5 t6 t7 t8 t9 t10 t11 t12 t13 t14 t15 : List UInt8) (N : Nat) (B : Ix → Int) (c o : Int) :
    isEnd (evTill Tryd.prog sumsEOk 700 (99) 900 6 [.code (bodyOf Tryd.f6)] (envOf [vL 100 1 N, vN c, vN o] Tryd.f6.ntmps) (allS t0 t1 t2 t3 t4 t5 t6 t7 t8 t9 t10 t11 t12 t13 t14 t15 ++ rB 100 N B ++ ([])) ⟨[.t, .f, .s true], 110⟩) (endP ([]) (YES) ([]) 6000) =
    (OkL [(decide ((↑N : Int) > (400 : Int)), true)] ∧ true = true ∧ True) := by kernel_rfl

set_option maxHeartbeats 4000000 in
theorem epLong (t0 t1 t2 t3 t4 t5 t6 t7 t8 t9 t10 t11 t12 t13 t14 t15 : List UInt8) (N : Nat) (B : Ix → Int) (c o : Int) (h : 400 < N)  :
    RunsTo Tryd.prog 6 [.code (bodyOf Tryd.f6)] (envOf [vL 100 1 N, vN c, vN o] Tryd.f6.ntmps) (Sx.look (allS t0 t1 t2 t3 t4 t5 t6 t7 t8 t9 t10 t11 t12 t13 t14 t15 ++ rB 100 N B ++ ([]))) 110 (YES) (Sx.look ([])) 6000 := by
  refine runs_last baseEOk (Sx.Ends.of (epLong_p0 t0 t1 t2 t3 t4 t5 t6 t7 t8 t9 t10 t11 t12 t13 t14 t15 N B c o) ⟨?oo, ?rr⟩) (by kernel_rfl) rfl (gtL (by decide)) (by decide)
  case oo =>
    refine (okc ?_ okn)
    all_goals ((try simp (disch := omega) only [SS]); first | done | omega | assumption | (simp (disch := omega) only [SS] at *; first | done | omega | assumption) | (simp_all; done))
  case rr =>
    try simp (disch := omega) only [SS]
    repeat' apply And.intro
    all_goals first | exact True.intro | with_reducible rfl | omega | (intros; first | exact True.intro | with_reducible rfl | omega | (simp_all; done)) | (simp_all; done) | rfl

theorem epOkp_p0 (t0 t1 t2 t3 t4 t5 t6 t7 t8 t9 t10 t11 t12 t13 t14 t15 : List UInt8) (N : Nat) (B : Ix → Int) (c o : Int) :
    isEnd (evTill Tryd.prog sumsEOk 700 (99) 900 6 [.code (bodyOf Tryd.f6)] (envOf [vL 100 1 N, vN c, vN o] Tryd.f6.ntmps) (allS t0 t1 t2 t3 t4 t5 t6 t7 t8 t9 t10 t11 t12 t13 t14 t15 ++ rB 100 N B ++ ([])) ⟨[.t, .f, .s false, .s true, .s true, .s true, .s true, .s true, .s true, .s false, .s true, .s false, .s false, .t, .s true, .t, .t, .s true, .s true, .t, .s true, .s true, .s true, .s true, .s true, .s true, .s true, .s true, .s true, .s true], 110⟩) (endP ([]) (YES) ([]) 6000) =
    (OkL [(decide ((↑N : Int) > (400 : Int)), false), (N.beq N, true), (decide (N ≤ (1000 : Nat)), true), (decide (N ≤ (100000 : Nat)) && (decide (N ≤ N + (5 : Nat)) && bndB (inG B N (5 : Nat)) N), true), (((0 : Nat) + (dbs N (inG B N (5 : Nat))).length).ble (dbs N (inG B N (5 : Nat))).length, true), (((0 : Nat) + N).ble N, true), (decide ((bytesOf B [] (0 : Nat) N).length ≤ (100000 : Nat)), true), (!bytesOf (fun is => (↑((dbs N (inG B N (5 : Nat))).getD (List.headD is (0 : Nat)) (0 : UInt8)).toNat : Int)) [] (0 : Nat) (dbs N (inG B N (5 : Nat))).length == dbl (bytesOf B [] (0 : Nat) N), false), (decide (c ≥ (241 : Int)), true), (!decide (c ≤ (249 : Int)), false), (decide (c ≥ (251 : Int)), false), (byN o && (decide (N ≤ (256 : Nat)) && (decide (N ≤ N + (5 : Nat)) && bndB (inG B N (5 : Nat)) N)), true), (((0 : Nat) + N).ble N, true), (decide ((bytesOf B [] (0 : Nat) N).length ≤ (10000 : Nat)), true), (bytesOf (upd (upd (fun is => (0 : Int)) [(0 : Nat)] (255 : Int)) [(1 : Nat)] (IntKind.u8.wrap c)) [] (0 : Nat) (2 : Nat) == tkrS (2 : Int) c (0 : Int) [] false, true), ((0 : Int) == tkrN (2 : Int) c (0 : Int) [] false, true), ([] == tkrS (3 : Int) c o [] false, true), (numOf (20 : Nat) == tkrN (3 : Int) c o [] false, true), (((0 : Nat) + (subL o (dbs N (inG B N (5 : Nat)))).length).ble (subL o (dbs N (inG B N (5 : Nat)))).length, true), (bytesOf (fun is => (↑((subL o (dbs N (inG B N (5 : Nat)))).getD (List.headD is (0 : Nat)) (0 : UInt8)).toNat : Int)) [] (0 : Nat) (subL o (dbs N (inG B N (5 : Nat)))).length == tkrS (4 : Int) (0 : Int) o (bytesOf B [] (0 : Nat) N) false, true), ((0 : Int) == tkrN (4 : Int) (0 : Int) o (bytesOf B [] (0 : Nat) N) false, true), (N.beq N, true), (N.beq N, true), (decide (N ≤ (1000 : Nat)) && decide (N + (5 : Nat) ≤ N + (5 : Nat)) && allEq (inG B N (5 : Nat)) (inG B N (5 : Nat)) (N + (5 : Nat)), true)] ∧ true = true ∧ True) := by kernel_rfl

set_option maxHeartbeats 4000000 in
theorem epOkp (t0 t1 t2 t3 t4 t5 t6 t7 t8 t9 t10 t11 t12 t13 t14 t15 : List UInt8) (N : Nat) (B : Ix → Int) (c o : Int) (hN : N ≤ 400) (hB : bndB B N = true) (ho : byN o = true) (hs : N ≤ 256) (hc : 241 ≤ c ∧ c ≤ 249) (z2 : tkrS 2 c 0 [] false = [255, u8o c]) (n2 : tkrN 2 c 0 [] false = 0) (z3 : tkrS 3 c o [] false = []) (n3 : tkrN 3 c o [] false = 9) (z4 : tkrS 4 0 o (bytesOf B [] 0 N) false = subL o (dbs N B)) (n4 : tkrN 4 0 o (bytesOf B [] 0 N) false = 0)  :
    RunsTo Tryd.prog 6 [.code (bodyOf Tryd.f6)] (envOf [vL 100 1 N, vN c, vN o] Tryd.f6.ntmps) (Sx.look (allS t0 t1 t2 t3 t4 t5 t6 t7 t8 t9 t10 t11 t12 t13 t14 t15 ++ rB 100 N B ++ ([]))) 110 (YES) (Sx.look ([])) 6000 := by
  have hbi : bndB (inG B N 5) N = true := bndB_of fun i hi => by rw [inG_at, if_pos hi]; exact bndB_ok hB hi
  have hlen := bytesOf_len B [] 0 N
  have hall : allEq (inG B N 5) (inG B N 5) (N + 5) = true := allEq_of (fun _ _ => rfl)
  have hk1 : numOf 20 = 9 := rfl
  have hk2 : numOf 21 = 1 := rfl
  have hk3 : numOf 22 = 4 := rfl
  have hdi : dbs N (inG B N 5) = dbs N B := by unfold dbs; rw [bytes_in]
  have hdf : dbl (bytesOf B [] 0 N) = dbs N B := rfl
  have hby := bytesOf_full (dbs N B)
  have hsb := bytesOf_full (subL o (dbs N B))
  have hu : IntKind.u8.wrap c = ((u8o c).toNat : Int) := u8o_wr (by rw [byN_T]; omega)
  have hu2 : UInt8.ofNat (IntKind.u8.wrap c).toNat = u8o c := by rw [hu, Int.toNat_natCast, UInt8.ofNat_toNat]
  have hv : IntKind.u8.wrap o = ((u8o o).toNat : Int) := u8o_wr ho
  have hv2 : UInt8.ofNat (IntKind.u8.wrap o).toNat = u8o o := by rw [hv, Int.toNat_natCast, UInt8.ofNat_toNat]
  have hq2 : bytesOf (upd (upd (fun is => 0) [0] 255) [1] (IntKind.u8.wrap c)) [] 0 2 = [255, u8o c] := by rw [← hu2]; rfl
  have ho' := ho
  rw [byN_T] at ho'
  refine runs_last baseEOk (Sx.Ends.of (epOkp_p0 t0 t1 t2 t3 t4 t5 t6 t7 t8 t9 t10 t11 t12 t13 t14 t15 N B c o) ⟨?oo, ?rr⟩) (by kernel_rfl) rfl (gtL (by decide)) (by decide)
  case oo =>
    refine (okc ?_ (okc ?_ (okc ?_ (okc ?_ (okc ?_ (okc ?_ (okc ?_ (okc ?_ (okc ?_ (okc ?_ (okc ?_ (okc ?_ (okc ?_ (okc ?_ (okc ?_ (okc ?_ (okc ?_ (okc ?_ (okc ?_ (okc ?_ (okc ?_ (okc ?_ (okc ?_ (okc ?_ okn))))))))))))))))))))))))
    all_goals first | omega | exact hall | exact hbi | (simp (disch := omega) only [SS, hlen, hk1, hk2, hk3, hdi, hdf, hby, z2, n2, z3, n3, z4, n4, hsb, hq2]; first | done | omega | exact ⟨by omega, by omega, hbi⟩ | exact ⟨ho, by omega, by omega, hbi⟩ | exact ⟨⟨by omega, by omega⟩, hall⟩) | (simp_all; done) | (simp_all; omega)
  case rr =>
    try simp (disch := omega) only [SS, hlen, hk1, hk2, hk3, hdi, hdf, hby, z2, n2, z3, n3, z4, n4, hsb, hq2]
    repeat' apply And.intro
    all_goals first | exact True.intro | with_reducible rfl | omega | (intros; first | exact True.intro | with_reducible rfl | omega | (simp_all; done)) | (simp_all; done) | rfl

theorem epOkv_p0 (t0 t1 t2 t3 t4 t5 t6 t7 t8 t9 t10 t11 t12 t13 t14 t15 : List UInt8) (N : Nat) (B : Ix → Int) (c o : Int) :
    isEnd (evTill Tryd.prog sumsEOk 700 (99) 900 6 [.code (bodyOf Tryd.f6)] (envOf [vL 100 1 N, vN c, vN o] Tryd.f6.ntmps) (allS t0 t1 t2 t3 t4 t5 t6 t7 t8 t9 t10 t11 t12 t13 t14 t15 ++ rB 100 N B ++ ([])) ⟨[.t, .f, .s false, .s true, .s true, .s true, .s true, .s true, .s true, .s false, .s true, .s true, .s true, .s false, .s true, .s false, .s true, .t, .t, .s true, .s true, .s true, .s true, .t, .s true, .s true, .s true, .s true, .s true, .s true, .s true, .s true], 110⟩) (endP ([]) (YES) ([]) 6000) =
    (OkL [(decide ((↑N : Int) > (400 : Int)), false), (N.beq N, true), (decide (N ≤ (1000 : Nat)), true), (decide (N ≤ (100000 : Nat)) && (decide (N ≤ N + (5 : Nat)) && bndB (inG B N (5 : Nat)) N), true), (((0 : Nat) + (dbs N (inG B N (5 : Nat))).length).ble (dbs N (inG B N (5 : Nat))).length, true), (((0 : Nat) + N).ble N, true), (decide ((bytesOf B [] (0 : Nat) N).length ≤ (100000 : Nat)), true), (!bytesOf (fun is => (↑((dbs N (inG B N (5 : Nat))).getD (List.headD is (0 : Nat)) (0 : UInt8)).toNat : Int)) [] (0 : Nat) (dbs N (inG B N (5 : Nat))).length == dbl (bytesOf B [] (0 : Nat) N), false), (decide (c ≥ (241 : Int)), true), (!decide (c ≤ (249 : Int)), true), (decide (c ≥ (251 : Int)), true), (!decide (c ≤ (254 : Int)), false), (decide (o ≥ (0 : Int)), true), (!decide (o ≤ (255 : Int)), false), (byN o && (decide (N ≤ (256 : Nat)) && (decide (N ≤ N + (5 : Nat)) && bndB (inG B N (5 : Nat)) N)), true), (((0 : Nat) + N).ble N, true), (decide ((bytesOf B [] (0 : Nat) N).length ≤ (10000 : Nat)), true), ([] == tkrS (2 : Int) c (0 : Int) [] false, true), (numOf (20 : Nat) == tkrN (2 : Int) c (0 : Int) [] false, true), (bytesOf (upd (upd (upd (fun is => (0 : Int)) [(0 : Nat)] (255 : Int)) [(1 : Nat)] (IntKind.u8.wrap c)) [(2 : Nat)] (IntKind.u8.wrap o)) [] (0 : Nat) (3 : Nat) == tkrS (3 : Int) c o [] false, true), ((0 : Int) == tkrN (3 : Int) c o [] false, true), (((0 : Nat) + (subL o (dbs N (inG B N (5 : Nat)))).length).ble (subL o (dbs N (inG B N (5 : Nat)))).length, true), (bytesOf (fun is => (↑((subL o (dbs N (inG B N (5 : Nat)))).getD (List.headD is (0 : Nat)) (0 : UInt8)).toNat : Int)) [] (0 : Nat) (subL o (dbs N (inG B N (5 : Nat)))).length == tkrS (4 : Int) (0 : Int) o (bytesOf B [] (0 : Nat) N) false, true), ((0 : Int) == tkrN (4 : Int) (0 : Int) o (bytesOf B [] (0 : Nat) N) false, true), (N.beq N, true), (N.beq N, true), (decide (N ≤ (1000 : Nat)) && decide (N + (5 : Nat) ≤ N + (5 : Nat)) && allEq (inG B N (5 : Nat)) (inG B N (5 : Nat)) (N + (5 : Nat)), true)] ∧ true = true ∧ True) := by kernel_rfl

set_option maxHeartbeats 4000000 in
theorem epOkv (t0 t1 t2 t3 t4 t5 t6 t7 t8 t9 t10 t11 t12 t13 t14 t15 : List UInt8) (N : Nat) (B : Ix → Int) (c o : Int) (hN : N ≤ 400) (hB : bndB B N = true) (ho : byN o = true) (hs : N ≤ 256) (hc : 251 ≤ c ∧ c ≤ 254) (z2 : tkrS 2 c 0 [] false = []) (n2 : tkrN 2 c 0 [] false = 9) (z3 : tkrS 3 c o [] false = [255, u8o c, u8o o]) (n3 : tkrN 3 c o [] false = 0) (z4 : tkrS 4 0 o (bytesOf B [] 0 N) false = subL o (dbs N B)) (n4 : tkrN 4 0 o (bytesOf B [] 0 N) false = 0)  :
    RunsTo Tryd.prog 6 [.code (bodyOf Tryd.f6)] (envOf [vL 100 1 N, vN c, vN o] Tryd.f6.ntmps) (Sx.look (allS t0 t1 t2 t3 t4 t5 t6 t7 t8 t9 t10 t11 t12 t13 t14 t15 ++ rB 100 N B ++ ([]))) 110 (YES) (Sx.look ([])) 6000 := by
  have hbi : bndB (inG B N 5) N = true := bndB_of fun i hi => by rw [inG_at, if_pos hi]; exact bndB_ok hB hi
  have hlen := bytesOf_len B [] 0 N
  have hall : allEq (inG B N 5) (inG B N 5) (N + 5) = true := allEq_of (fun _ _ => rfl)
  have hk1 : numOf 20 = 9 := rfl
  have hk2 : numOf 21 = 1 := rfl
  have hk3 : numOf 22 = 4 := rfl
  have hdi : dbs N (inG B N 5) = dbs N B := by unfold dbs; rw [bytes_in]
  have hdf : dbl (bytesOf B [] 0 N) = dbs N B := rfl
  have hby := bytesOf_full (dbs N B)
  have hsb := bytesOf_full (subL o (dbs N B))
  have hu : IntKind.u8.wrap c = ((u8o c).toNat : Int) := u8o_wr (by rw [byN_T]; omega)
  have hu2 : UInt8.ofNat (IntKind.u8.wrap c).toNat = u8o c := by rw [hu, Int.toNat_natCast, UInt8.ofNat_toNat]
  have hv : IntKind.u8.wrap o = ((u8o o).toNat : Int) := u8o_wr ho
  have hv2 : UInt8.ofNat (IntKind.u8.wrap o).toNat = u8o o := by rw [hv, Int.toNat_natCast, UInt8.ofNat_toNat]
  have hq3 : bytesOf (upd (upd (upd (fun is => 0) [0] 255) [1] (IntKind.u8.wrap c)) [2] (IntKind.u8.wrap o)) [] 0 3 = [255, u8o c, u8o o] := by rw [← hu2, ← hv2]; rfl
  have ho' := ho
  rw [byN_T] at ho'
  refine runs_last baseEOk (Sx.Ends.of (epOkv_p0 t0 t1 t2 t3 t4 t5 t6 t7 t8 t9 t10 t11 t12 t13 t14 t15 N B c o) ⟨?oo, ?rr⟩) (by kernel_rfl) rfl (gtL (by decide)) (by decide)
  case oo =>
    refine (okc ?_ (okc ?_ (okc ?_ (okc ?_ (okc ?_ (okc ?_ (okc ?_ (okc ?_ (okc ?_ (okc ?_ (okc ?_ (okc ?_ (okc ?_ (okc ?_ (okc ?_ (okc ?_ (okc ?_ (okc ?_ (okc ?_ (okc ?_ (okc ?_ (okc ?_ (okc ?_ (okc ?_ (okc ?_ (okc ?_ (okc ?_ okn)))))))))))))))))))))))))))
    all_goals first | omega | exact hall | exact hbi | (simp (disch := omega) only [SS, hlen, hk1, hk2, hk3, hdi, hdf, hby, z2, n2, z3, n3, z4, n4, hsb, hq3]; first | done | omega | exact ⟨by omega, by omega, hbi⟩ | exact ⟨ho, by omega, by omega, hbi⟩ | exact ⟨⟨by omega, by omega⟩, hall⟩) | (simp_all; done) | (simp_all; omega)
  case rr =>
    try simp (disch := omega) only [SS, hlen, hk1, hk2, hk3, hdi, hdf, hby, z2, n2, z3, n3, z4, n4, hsb, hq3]
    repeat' apply And.intro
    all_goals first | exact True.intro | with_reducible rfl | omega | (intros; first | exact True.intro | with_reducible rfl | omega | (simp_all; done)) | (simp_all; done) | rfl

theorem epOkx_p0 (t0 t1 t2 t3 t4 t5 t6 t7 t8 t9 t10 t11 t12 t13 t14 t15 : List UInt8) (N : Nat) (B : Ix → Int) (c o : Int) :
    isEnd (evTill Tryd.prog sumsEOk 700 (99) 900 6 [.code (bodyOf Tryd.f6)] (envOf [vL 100 1 N, vN c, vN o] Tryd.f6.ntmps) (allS t0 t1 t2 t3 t4 t5 t6 t7 t8 t9 t10 t11 t12 t13 t14 t15 ++ rB 100 N B ++ ([])) ⟨[.t, .f, .s false, .s true, .s true, .s true, .s true, .s true, .s true, .s false, .s false, .t, .s false, .t, .s true, .t, .t, .s true, .s true, .s true, .s true, .s true, .s true, .s true, .s true, .s true, .s true, .s true, .s true], 110⟩) (endP ([]) (YES) ([]) 6000) =
    (OkL [(decide ((↑N : Int) > (400 : Int)), false), (N.beq N, true), (decide (N ≤ (1000 : Nat)), true), (decide (N ≤ (100000 : Nat)) && (decide (N ≤ N + (5 : Nat)) && bndB (inG B N (5 : Nat)) N), true), (((0 : Nat) + (dbs N (inG B N (5 : Nat))).length).ble (dbs N (inG B N (5 : Nat))).length, true), (((0 : Nat) + N).ble N, true), (decide ((bytesOf B [] (0 : Nat) N).length ≤ (100000 : Nat)), true), (!bytesOf (fun is => (↑((dbs N (inG B N (5 : Nat))).getD (List.headD is (0 : Nat)) (0 : UInt8)).toNat : Int)) [] (0 : Nat) (dbs N (inG B N (5 : Nat))).length == dbl (bytesOf B [] (0 : Nat) N), false), (decide (c ≥ (241 : Int)), false), (decide (c ≥ (251 : Int)), false), (byN o && (decide (N ≤ (256 : Nat)) && (decide (N ≤ N + (5 : Nat)) && bndB (inG B N (5 : Nat)) N)), true), (((0 : Nat) + N).ble N, true), (decide ((bytesOf B [] (0 : Nat) N).length ≤ (10000 : Nat)), true), ([] == tkrS (2 : Int) c (0 : Int) [] false, true), (numOf (20 : Nat) == tkrN (2 : Int) c (0 : Int) [] false, true), ([] == tkrS (3 : Int) c o [] false, true), (numOf (20 : Nat) == tkrN (3 : Int) c o [] false, true), (((0 : Nat) + (subL o (dbs N (inG B N (5 : Nat)))).length).ble (subL o (dbs N (inG B N (5 : Nat)))).length, true), (bytesOf (fun is => (↑((subL o (dbs N (inG B N (5 : Nat)))).getD (List.headD is (0 : Nat)) (0 : UInt8)).toNat : Int)) [] (0 : Nat) (subL o (dbs N (inG B N (5 : Nat)))).length == tkrS (4 : Int) (0 : Int) o (bytesOf B [] (0 : Nat) N) false, true), ((0 : Int) == tkrN (4 : Int) (0 : Int) o (bytesOf B [] (0 : Nat) N) false, true), (N.beq N, true), (N.beq N, true), (decide (N ≤ (1000 : Nat)) && decide (N + (5 : Nat) ≤ N + (5 : Nat)) && allEq (inG B N (5 : Nat)) (inG B N (5 : Nat)) (N + (5 : Nat)), true)] ∧ true = true ∧ True) := by kernel_rfl
theorem epOkx_p1 (t0 t1 t2 t3 t4 t5 t6 t7 t8 t9 t10 t11 t12 t13 t14 t15 : List UInt8) (N : Nat) (B : Ix → Int) (c o : Int) :
    isEnd (evTill Tryd.prog sumsEOk 700 (99) 900 6 [.code (bodyOf Tryd.f6)] (envOf [vL 100 1 N, vN c, vN o] Tryd.f6.ntmps) (allS t0 t1 t2 t3 t4 t5 t6 t7 t8 t9 t10 t11 t12 t13 t14 t15 ++ rB 100 N B ++ ([])) ⟨[.t, .f, .s false, .s true, .s true, .s true, .s true, .s true, .s true, .s false, .s true, .s true, .s false, .t, .s true, .t, .t, .s true, .s true, .s true, .s true, .s true, .s true, .s true, .s true, .s true, .s true, .s true, .s true], 110⟩) (endP ([]) (YES) ([]) 6000) =
    (OkL [(decide ((↑N : Int) > (400 : Int)), false), (N.beq N, true), (decide (N ≤ (1000 : Nat)), true), (decide (N ≤ (100000 : Nat)) && (decide (N ≤ N + (5 : Nat)) && bndB (inG B N (5 : Nat)) N), true), (((0 : Nat) + (dbs N (inG B N (5 : Nat))).length).ble (dbs N (inG B N (5 : Nat))).length, true), (((0 : Nat) + N).ble N, true), (decide ((bytesOf B [] (0 : Nat) N).length ≤ (100000 : Nat)), true), (!bytesOf (fun is => (↑((dbs N (inG B N (5 : Nat))).getD (List.headD is (0 : Nat)) (0 : UInt8)).toNat : Int)) [] (0 : Nat) (dbs N (inG B N (5 : Nat))).length == dbl (bytesOf B [] (0 : Nat) N), false), (decide (c ≥ (241 : Int)), true), (!decide (c ≤ (249 : Int)), true), (decide (c ≥ (251 : Int)), false), (byN o && (decide (N ≤ (256 : Nat)) && (decide (N ≤ N + (5 : Nat)) && bndB (inG B N (5 : Nat)) N)), true), (((0 : Nat) + N).ble N, true), (decide ((bytesOf B [] (0 : Nat) N).length ≤ (10000 : Nat)), true), ([] == tkrS (2 : Int) c (0 : Int) [] false, true), (numOf (20 : Nat) == tkrN (2 : Int) c (0 : Int) [] false, true), ([] == tkrS (3 : Int) c o [] false, true), (numOf (20 : Nat) == tkrN (3 : Int) c o [] false, true), (((0 : Nat) + (subL o (dbs N (inG B N (5 : Nat)))).length).ble (subL o (dbs N (inG B N (5 : Nat)))).length, true), (bytesOf (fun is => (↑((subL o (dbs N (inG B N (5 : Nat)))).getD (List.headD is (0 : Nat)) (0 : UInt8)).toNat : Int)) [] (0 : Nat) (subL o (dbs N (inG B N (5 : Nat)))).length == tkrS (4 : Int) (0 : Int) o (bytesOf B [] (0 : Nat) N) false, true), ((0 : Int) == tkrN (4 : Int) (0 : Int) o (bytesOf B [] (0 : Nat) N) false, true), (N.beq N, true), (N.beq N, true), (decide (N ≤ (1000 : Nat)) && decide (N + (5 : Nat) ≤ N + (5 : Nat)) && allEq (inG B N (5 : Nat)) (inG B N (5 : Nat)) (N + (5 : Nat)), true)] ∧ true = true ∧ True) := by kernel_rfl
theorem epOkx_p2 (t0 t1 t2 t3 t4 t5 t6 t7 t8 t9 t10 t11 t12 t13 t14 t15 : List UInt8) (N : Nat) (B : Ix → Int) (c o : Int) :
    isEnd (evTill Tryd.prog sumsEOk 700 (99) 900 6 [.code (bodyOf Tryd.f6)] (envOf [vL 100 1 N, vN c, vN o] Tryd.f6.ntmps) (allS t0 t1 t2 t3 t4 t5 t6 t7 t8 t9 t10 t11 t12 t13 t14 t15 ++ rB 100 N B ++ ([])) ⟨[.t, .f, .s false, .s true, .s true, .s true, .s true, .s true, .s true, .s false, .s true, .s true, .s true, .s true, .s true, .t, .t, .s true, .s true, .s true, .s true, .s true, .s true, .s true, .s true, .s true, .s true, .s true, .s true], 110⟩) (endP ([]) (YES) ([]) 6000) =
    (OkL [(decide ((↑N : Int) > (400 : Int)), false), (N.beq N, true), (decide (N ≤ (1000 : Nat)), true), (decide (N ≤ (100000 : Nat)) && (decide (N ≤ N + (5 : Nat)) && bndB (inG B N (5 : Nat)) N), true), (((0 : Nat) + (dbs N (inG B N (5 : Nat))).length).ble (dbs N (inG B N (5 : Nat))).length, true), (((0 : Nat) + N).ble N, true), (decide ((bytesOf B [] (0 : Nat) N).length ≤ (100000 : Nat)), true), (!bytesOf (fun is => (↑((dbs N (inG B N (5 : Nat))).getD (List.headD is (0 : Nat)) (0 : UInt8)).toNat : Int)) [] (0 : Nat) (dbs N (inG B N (5 : Nat))).length == dbl (bytesOf B [] (0 : Nat) N), false), (decide (c ≥ (241 : Int)), true), (!decide (c ≤ (249 : Int)), true), (decide (c ≥ (251 : Int)), true), (!decide (c ≤ (254 : Int)), true), (byN o && (decide (N ≤ (256 : Nat)) && (decide (N ≤ N + (5 : Nat)) && bndB (inG B N (5 : Nat)) N)), true), (((0 : Nat) + N).ble N, true), (decide ((bytesOf B [] (0 : Nat) N).length ≤ (10000 : Nat)), true), ([] == tkrS (2 : Int) c (0 : Int) [] false, true), (numOf (20 : Nat) == tkrN (2 : Int) c (0 : Int) [] false, true), ([] == tkrS (3 : Int) c o [] false, true), (numOf (20 : Nat) == tkrN (3 : Int) c o [] false, true), (((0 : Nat) + (subL o (dbs N (inG B N (5 : Nat)))).length).ble (subL o (dbs N (inG B N (5 : Nat)))).length, true), (bytesOf (fun is => (↑((subL o (dbs N (inG B N (5 : Nat)))).getD (List.headD is (0 : Nat)) (0 : UInt8)).toNat : Int)) [] (0 : Nat) (subL o (dbs N (inG B N (5 : Nat)))).length == tkrS (4 : Int) (0 : Int) o (bytesOf B [] (0 : Nat) N) false, true), ((0 : Int) == tkrN (4 : Int) (0 : Int) o (bytesOf B [] (0 : Nat) N) false, true), (N.beq N, true), (N.beq N, true), (decide (N ≤ (1000 : Nat)) && decide (N + (5 : Nat) ≤ N + (5 : Nat)) && allEq (inG B N (5 : Nat)) (inG B N (5 : Nat)) (N + (5 : Nat)), true)] ∧ true = true ∧ True) := by kernel_rfl

set_option maxHeartbeats 4000000 in
theorem epOkx (t0 t1 t2 t3 t4 t5 t6 t7 t8 t9 t10 t11 t12 t13 t14 t15 : List UInt8) (N : Nat) (B : Ix → Int) (c o : Int) (hN : N ≤ 400) (hB : bndB B N = true) (ho : byN o = true) (hs : N ≤ 256) (h2 : ¬ (241 ≤ c ∧ c ≤ 249)) (hc : ¬ (251 ≤ c ∧ c ≤ 254)) (z2 : tkrS 2 c 0 [] false = []) (n2 : tkrN 2 c 0 [] false = 9) (z3 : tkrS 3 c o [] false = []) (n3 : tkrN 3 c o [] false = 9) (z4 : tkrS 4 0 o (bytesOf B [] 0 N) false = subL o (dbs N B)) (n4 : tkrN 4 0 o (bytesOf B [] 0 N) false = 0)  :
    RunsTo Tryd.prog 6 [.code (bodyOf Tryd.f6)] (envOf [vL 100 1 N, vN c, vN o] Tryd.f6.ntmps) (Sx.look (allS t0 t1 t2 t3 t4 t5 t6 t7 t8 t9 t10 t11 t12 t13 t14 t15 ++ rB 100 N B ++ ([]))) 110 (YES) (Sx.look ([])) 6000 := by
  have hbi : bndB (inG B N 5) N = true := bndB_of fun i hi => by rw [inG_at, if_pos hi]; exact bndB_ok hB hi
  have hlen := bytesOf_len B [] 0 N
  have hall : allEq (inG B N 5) (inG B N 5) (N + 5) = true := allEq_of (fun _ _ => rfl)
  have hk1 : numOf 20 = 9 := rfl
  have hk2 : numOf 21 = 1 := rfl
  have hk3 : numOf 22 = 4 := rfl
  have hdi : dbs N (inG B N 5) = dbs N B := by unfold dbs; rw [bytes_in]
  have hdf : dbl (bytesOf B [] 0 N) = dbs N B := rfl
  have hby := bytesOf_full (dbs N B)
  have hsb := bytesOf_full (subL o (dbs N B))
  have hv : IntKind.u8.wrap o = ((u8o o).toNat : Int) := u8o_wr ho
  have hv2 : UInt8.ofNat (IntKind.u8.wrap o).toNat = u8o o := by rw [hv, Int.toNat_natCast, UInt8.ofNat_toNat]
  have ho' := ho
  rw [byN_T] at ho'
  refine bcase (c := (decide (c ≥ (241 : Int)))) (fun gg0 => ?_) (fun gg0 => ?_)
  · refine runs_last baseEOk (Sx.Ends.of (epOkx_p0 t0 t1 t2 t3 t4 t5 t6 t7 t8 t9 t10 t11 t12 t13 t14 t15 N B c o) ⟨?oo, ?rr⟩) (by kernel_rfl) rfl (gtL (by decide)) (by decide)
    case oo =>
      refine (okc ?_ (okc ?_ (okc ?_ (okc ?_ (okc ?_ (okc ?_ (okc ?_ (okc ?_ (okc gg0 (okc ?_ (okc ?_ (okc ?_ (okc ?_ (okc ?_ (okc ?_ (okc ?_ (okc ?_ (okc ?_ (okc ?_ (okc ?_ (okc ?_ (okc ?_ (okc ?_ okn)))))))))))))))))))))))
      all_goals first | omega | exact hall | exact hbi | (simp (disch := omega) only [SS, hlen, hk1, hk2, hk3, hdi, hdf, hby, z2, n2, z3, n3, z4, n4, hsb]; first | done | omega | exact ⟨by omega, by omega, hbi⟩ | exact ⟨ho, by omega, by omega, hbi⟩ | exact ⟨⟨by omega, by omega⟩, hall⟩) | (simp_all; done) | (simp_all; omega)
    case rr =>
      try simp (disch := omega) only [SS, hlen, hk1, hk2, hk3, hdi, hdf, hby, z2, n2, z3, n3, z4, n4, hsb]
      repeat' apply And.intro
      all_goals first | exact True.intro | with_reducible rfl | omega | (intros; first | exact True.intro | with_reducible rfl | omega | (simp_all; done)) | (simp_all; done) | rfl
  · refine bcase (c := (decide (c ≥ (251 : Int)))) (fun gg1 => ?_) (fun gg1 => ?_)
    · refine runs_last baseEOk (Sx.Ends.of (epOkx_p1 t0 t1 t2 t3 t4 t5 t6 t7 t8 t9 t10 t11 t12 t13 t14 t15 N B c o) ⟨?oo, ?rr⟩) (by kernel_rfl) rfl (gtL (by decide)) (by decide)
      case oo =>
        refine (okc ?_ (okc ?_ (okc ?_ (okc ?_ (okc ?_ (okc ?_ (okc ?_ (okc ?_ (okc gg0 (okc ?_ (okc gg1 (okc ?_ (okc ?_ (okc ?_ (okc ?_ (okc ?_ (okc ?_ (okc ?_ (okc ?_ (okc ?_ (okc ?_ (okc ?_ (okc ?_ (okc ?_ okn))))))))))))))))))))))))
        all_goals first | omega | exact hall | exact hbi | (simp (disch := omega) only [SS, hlen, hk1, hk2, hk3, hdi, hdf, hby, z2, n2, z3, n3, z4, n4, hsb]; first | done | omega | exact ⟨by omega, by omega, hbi⟩ | exact ⟨ho, by omega, by omega, hbi⟩ | exact ⟨⟨by omega, by omega⟩, hall⟩) | (simp_all; done) | (simp_all; omega)
      case rr =>
        try simp (disch := omega) only [SS, hlen, hk1, hk2, hk3, hdi, hdf, hby, z2, n2, z3, n3, z4, n4, hsb]
        repeat' apply And.intro
        all_goals first | exact True.intro | with_reducible rfl | omega | (intros; first | exact True.intro | with_reducible rfl | omega | (simp_all; done)) | (simp_all; done) | rfl
    · refine runs_last baseEOk (Sx.Ends.of (epOkx_p2 t0 t1 t2 t3 t4 t5 t6 t7 t8 t9 t10 t11 t12 t13 t14 t15 N B c o) ⟨?oo, ?rr⟩) (by kernel_rfl) rfl (gtL (by decide)) (by decide)
      case oo =>
        refine (okc ?_ (okc ?_ (okc ?_ (okc ?_ (okc ?_ (okc ?_ (okc ?_ (okc ?_ (okc gg0 (okc ?_ (okc gg1 (okc ?_ (okc ?_ (okc ?_ (okc ?_ (okc ?_ (okc ?_ (okc ?_ (okc ?_ (okc ?_ (okc ?_ (okc ?_ (okc ?_ (okc ?_ (okc ?_ okn)))))))))))))))))))))))))
        all_goals first | omega | exact hall | exact hbi | (simp (disch := omega) only [SS, hlen, hk1, hk2, hk3, hdi, hdf, hby, z2, n2, z3, n3, z4, n4, hsb]; first | done | omega | exact ⟨by omega, by omega, hbi⟩ | exact ⟨ho, by omega, by omega, hbi⟩ | exact ⟨⟨by omega, by omega⟩, hall⟩) | (simp_all; done) | (simp_all; omega)
      case rr =>
        try simp (disch := omega) only [SS, hlen, hk1, hk2, hk3, hdi, hdf, hby, z2, n2, z3, n3, z4, n4, hsb]
        repeat' apply And.intro
        all_goals first | exact True.intro | with_reducible rfl | omega | (intros; first | exact True.intro | with_reducible rfl | omega | (simp_all; done)) | (simp_all; done) | rfl

theorem epRap_p0 (t0 t1 t2 t3 t4 t5 t6 t7 t8 t9 t10 t11 t12 t13 t14 t15 : List UInt8) (N : Nat) (B : Ix → Int) (c o : Int) :
    isEnd (evTill Tryd.prog sumsERa 700 (99) 900 6 [.code (bodyOf Tryd.f6)] (envOf [vL 100 1 N, vN c, vN o] Tryd.f6.ntmps) (allS t0 t1 t2 t3 t4 t5 t6 t7 t8 t9 t10 t11 t12 t13 t14 t15 ++ rB 100 N B ++ ([])) ⟨[.t, .f, .s false, .s true, .s true, .s true, .s true, .s true, .s true, .s false, .s true, .s false, .s false, .t, .s true, .t, .t, .s true, .s true, .t, .s true, .s true, .s true, .s true, .s true, .s true, .s true, .s true, .s true], 110⟩) (endP ([]) (YES) ([]) 6000) =
    (OkL [(decide ((↑N : Int) > (400 : Int)), false), (N.beq N, true), (decide (N ≤ (1000 : Nat)), true), (decide (N ≤ (100000 : Nat)) && (decide (N ≤ N + (5 : Nat)) && bndB (inG B N (5 : Nat)) N), true), (((0 : Nat) + (dbs N (inG B N (5 : Nat))).length).ble (dbs N (inG B N (5 : Nat))).length, true), (((0 : Nat) + N).ble N, true), (decide ((bytesOf B [] (0 : Nat) N).length ≤ (100000 : Nat)), true), (!bytesOf (fun is => (↑((dbs N (inG B N (5 : Nat))).getD (List.headD is (0 : Nat)) (0 : UInt8)).toNat : Int)) [] (0 : Nat) (dbs N (inG B N (5 : Nat))).length == dbl (bytesOf B [] (0 : Nat) N), false), (decide (c ≥ (241 : Int)), true), (!decide (c ≤ (249 : Int)), false), (decide (c ≥ (251 : Int)), false), (!byN o, true), (((0 : Nat) + N).ble N, true), (decide ((bytesOf B [] (0 : Nat) N).length ≤ (10000 : Nat)), true), (bytesOf (upd (upd (fun is => (0 : Int)) [(0 : Nat)] (255 : Int)) [(1 : Nat)] (IntKind.u8.wrap c)) [] (0 : Nat) (2 : Nat) == tkrS (2 : Int) c (0 : Int) [] false, true), ((0 : Int) == tkrN (2 : Int) c (0 : Int) [] false, true), ([] == tkrS (3 : Int) c o [] false, true), (numOf (20 : Nat) == tkrN (3 : Int) c o [] false, true), ([] == tkrS (4 : Int) (0 : Int) o (bytesOf B [] (0 : Nat) N) false, true), (numOf (if true = true then (21 : Nat) else (951 : Nat)) == tkrN (4 : Int) (0 : Int) o (bytesOf B [] (0 : Nat) N) false, true), (N.beq N, true), (N.beq N, true), (decide (N ≤ (1000 : Nat)) && decide (N + (5 : Nat) ≤ N + (5 : Nat)) && allEq (inG B N (5 : Nat)) (inG B N (5 : Nat)) (N + (5 : Nat)), true)] ∧ true = true ∧ True) := by kernel_rfl

set_option maxHeartbeats 4000000 in
theorem epRap (t0 t1 t2 t3 t4 t5 t6 t7 t8 t9 t10 t11 t12 t13 t14 t15 : List UInt8) (N : Nat) (B : Ix → Int) (c o : Int) (hN : N ≤ 400) (hB : bndB B N = true) (ho : byN o = false) (hc : 241 ≤ c ∧ c ≤ 249) (z2 : tkrS 2 c 0 [] false = [255, u8o c]) (n2 : tkrN 2 c 0 [] false = 0) (z3 : tkrS 3 c o [] false = []) (n3 : tkrN 3 c o [] false = 9) (z4 : tkrS 4 0 o (bytesOf B [] 0 N) false = []) (n4 : tkrN 4 0 o (bytesOf B [] 0 N) false = 1)  :
    RunsTo Tryd.prog 6 [.code (bodyOf Tryd.f6)] (envOf [vL 100 1 N, vN c, vN o] Tryd.f6.ntmps) (Sx.look (allS t0 t1 t2 t3 t4 t5 t6 t7 t8 t9 t10 t11 t12 t13 t14 t15 ++ rB 100 N B ++ ([]))) 110 (YES) (Sx.look ([])) 6000 := by
  have hbi : bndB (inG B N 5) N = true := bndB_of fun i hi => by rw [inG_at, if_pos hi]; exact bndB_ok hB hi
  have hlen := bytesOf_len B [] 0 N
  have hall : allEq (inG B N 5) (inG B N 5) (N + 5) = true := allEq_of (fun _ _ => rfl)
  have hk1 : numOf 20 = 9 := rfl
  have hk2 : numOf 21 = 1 := rfl
  have hk3 : numOf 22 = 4 := rfl
  have hdi : dbs N (inG B N 5) = dbs N B := by unfold dbs; rw [bytes_in]
  have hdf : dbl (bytesOf B [] 0 N) = dbs N B := rfl
  have hby := bytesOf_full (dbs N B)
  have hu : IntKind.u8.wrap c = ((u8o c).toNat : Int) := u8o_wr (by rw [byN_T]; omega)
  have hu2 : UInt8.ofNat (IntKind.u8.wrap c).toNat = u8o c := by rw [hu, Int.toNat_natCast, UInt8.ofNat_toNat]
  have hq2 : bytesOf (upd (upd (fun is => 0) [0] 255) [1] (IntKind.u8.wrap c)) [] 0 2 = [255, u8o c] := by rw [← hu2]; rfl
  have ho' := ho
  rw [byN_F] at ho'
  refine runs_last baseERa (Sx.Ends.of (epRap_p0 t0 t1 t2 t3 t4 t5 t6 t7 t8 t9 t10 t11 t12 t13 t14 t15 N B c o) ⟨?oo, ?rr⟩) (by kernel_rfl) rfl (gtL (by decide)) (by decide)
  case oo =>
    refine (okc ?_ (okc ?_ (okc ?_ (okc ?_ (okc ?_ (okc ?_ (okc ?_ (okc ?_ (okc ?_ (okc ?_ (okc ?_ (okc ?_ (okc ?_ (okc ?_ (okc ?_ (okc ?_ (okc ?_ (okc ?_ (okc ?_ (okc ?_ (okc ?_ (okc ?_ (okc ?_ okn)))))))))))))))))))))))
    all_goals first | omega | exact hall | exact hbi | (simp (disch := omega) only [SS, hlen, hk1, hk2, hk3, hdi, hdf, hby, z2, n2, z3, n3, z4, n4, hq2]; first | done | omega | exact ⟨by omega, by omega, hbi⟩ | exact ⟨ho, by omega, by omega, hbi⟩ | exact ⟨⟨by omega, by omega⟩, hall⟩) | (simp_all; done) | (simp_all; omega)
  case rr =>
    try simp (disch := omega) only [SS, hlen, hk1, hk2, hk3, hdi, hdf, hby, z2, n2, z3, n3, z4, n4, hq2]
    repeat' apply And.intro
    all_goals first | exact True.intro | with_reducible rfl | omega | (intros; first | exact True.intro | with_reducible rfl | omega | (simp_all; done)) | (simp_all; done) | rfl

theorem epRav_p0 (t0 t1 t2 t3 t4 t5 t6 t7 t8 t9 t10 t11 t12 t13 t14 t15 : List UInt8) (N : Nat) (B : Ix → Int) (c o : Int) :
    isEnd (evTill Tryd.prog sumsERa 700 (99) 900 6 [.code (bodyOf Tryd.f6)] (envOf [vL 100 1 N, vN c, vN o] Tryd.f6.ntmps) (allS t0 t1 t2 t3 t4 t5 t6 t7 t8 t9 t10 t11 t12 t13 t14 t15 ++ rB 100 N B ++ ([])) ⟨[.t, .f, .s false, .s true, .s true, .s true, .s true, .s true, .s true, .s false, .s true, .s true, .s true, .s false, .s false, .t, .s true, .t, .t, .s true, .s true, .s true, .s true, .s true, .s true, .s true, .s true, .s true, .s true, .s true], 110⟩) (endP ([]) (YES) ([]) 6000) =
    (OkL [(decide ((↑N : Int) > (400 : Int)), false), (N.beq N, true), (decide (N ≤ (1000 : Nat)), true), (decide (N ≤ (100000 : Nat)) && (decide (N ≤ N + (5 : Nat)) && bndB (inG B N (5 : Nat)) N), true), (((0 : Nat) + (dbs N (inG B N (5 : Nat))).length).ble (dbs N (inG B N (5 : Nat))).length, true), (((0 : Nat) + N).ble N, true), (decide ((bytesOf B [] (0 : Nat) N).length ≤ (100000 : Nat)), true), (!bytesOf (fun is => (↑((dbs N (inG B N (5 : Nat))).getD (List.headD is (0 : Nat)) (0 : UInt8)).toNat : Int)) [] (0 : Nat) (dbs N (inG B N (5 : Nat))).length == dbl (bytesOf B [] (0 : Nat) N), false), (decide (c ≥ (241 : Int)), true), (!decide (c ≤ (249 : Int)), true), (decide (c ≥ (251 : Int)), true), (!decide (c ≤ (254 : Int)), false), (decide (o ≥ (0 : Int)), false), (!byN o, true), (((0 : Nat) + N).ble N, true), (decide ((bytesOf B [] (0 : Nat) N).length ≤ (10000 : Nat)), true), ([] == tkrS (2 : Int) c (0 : Int) [] false, true), (numOf (20 : Nat) == tkrN (2 : Int) c (0 : Int) [] false, true), ([] == tkrS (3 : Int) c o [] false, true), (numOf (21 : Nat) == tkrN (3 : Int) c o [] false, true), ([] == tkrS (4 : Int) (0 : Int) o (bytesOf B [] (0 : Nat) N) false, true), (numOf (if true = true then (21 : Nat) else (950 : Nat)) == tkrN (4 : Int) (0 : Int) o (bytesOf B [] (0 : Nat) N) false, true), (N.beq N, true), (N.beq N, true), (decide (N ≤ (1000 : Nat)) && decide (N + (5 : Nat) ≤ N + (5 : Nat)) && allEq (inG B N (5 : Nat)) (inG B N (5 : Nat)) (N + (5 : Nat)), true)] ∧ true = true ∧ True) := by kernel_rfl
theorem epRav_p1 (t0 t1 t2 t3 t4 t5 t6 t7 t8 t9 t10 t11 t12 t13 t14 t15 : List UInt8) (N : Nat) (B : Ix → Int) (c o : Int) :
    isEnd (evTill Tryd.prog sumsERa 700 (99) 900 6 [.code (bodyOf Tryd.f6)] (envOf [vL 100 1 N, vN c, vN o] Tryd.f6.ntmps) (allS t0 t1 t2 t3 t4 t5 t6 t7 t8 t9 t10 t11 t12 t13 t14 t15 ++ rB 100 N B ++ ([])) ⟨[.t, .f, .s false, .s true, .s true, .s true, .s true, .s true, .s true, .s false, .s true, .s true, .s true, .s false, .s true, .s true, .s true, .t, .t, .s true, .s true, .s true, .s true, .s true, .s true, .s true, .s true, .s true, .s true, .s true], 110⟩) (endP ([]) (YES) ([]) 6000) =
    (OkL [(decide ((↑N : Int) > (400 : Int)), false), (N.beq N, true), (decide (N ≤ (1000 : Nat)), true), (decide (N ≤ (100000 : Nat)) && (decide (N ≤ N + (5 : Nat)) && bndB (inG B N (5 : Nat)) N), true), (((0 : Nat) + (dbs N (inG B N (5 : Nat))).length).ble (dbs N (inG B N (5 : Nat))).length, true), (((0 : Nat) + N).ble N, true), (decide ((bytesOf B [] (0 : Nat) N).length ≤ (100000 : Nat)), true), (!bytesOf (fun is => (↑((dbs N (inG B N (5 : Nat))).getD (List.headD is (0 : Nat)) (0 : UInt8)).toNat : Int)) [] (0 : Nat) (dbs N (inG B N (5 : Nat))).length == dbl (bytesOf B [] (0 : Nat) N), false), (decide (c ≥ (241 : Int)), true), (!decide (c ≤ (249 : Int)), true), (decide (c ≥ (251 : Int)), true), (!decide (c ≤ (254 : Int)), false), (decide (o ≥ (0 : Int)), true), (!decide (o ≤ (255 : Int)), true), (!byN o, true), (((0 : Nat) + N).ble N, true), (decide ((bytesOf B [] (0 : Nat) N).length ≤ (10000 : Nat)), true), ([] == tkrS (2 : Int) c (0 : Int) [] false, true), (numOf (20 : Nat) == tkrN (2 : Int) c (0 : Int) [] false, true), ([] == tkrS (3 : Int) c o [] false, true), (numOf (21 : Nat) == tkrN (3 : Int) c o [] false, true), ([] == tkrS (4 : Int) (0 : Int) o (bytesOf B [] (0 : Nat) N) false, true), (numOf (if true = true then (21 : Nat) else (950 : Nat)) == tkrN (4 : Int) (0 : Int) o (bytesOf B [] (0 : Nat) N) false, true), (N.beq N, true), (N.beq N, true), (decide (N ≤ (1000 : Nat)) && decide (N + (5 : Nat) ≤ N + (5 : Nat)) && allEq (inG B N (5 : Nat)) (inG B N (5 : Nat)) (N + (5 : Nat)), true)] ∧ true = true ∧ True) := by kernel_rfl

set_option maxHeartbeats 4000000 in
theorem epRav (t0 t1 t2 t3 t4 t5 t6 t7 t8 t9 t10 t11 t12 t13 t14 t15 : List UInt8) (N : Nat) (B : Ix → Int) (c o : Int) (hN : N ≤ 400) (hB : bndB B N = true) (ho : byN o = false) (hc : 251 ≤ c ∧ c ≤ 254) (z2 : tkrS 2 c 0 [] false = []) (n2 : tkrN 2 c 0 [] false = 9) (z3 : tkrS 3 c o [] false = []) (n3 : tkrN 3 c o [] false = 1) (z4 : tkrS 4 0 o (bytesOf B [] 0 N) false = []) (n4 : tkrN 4 0 o (bytesOf B [] 0 N) false = 1)  :
    RunsTo Tryd.prog 6 [.code (bodyOf Tryd.f6)] (envOf [vL 100 1 N, vN c, vN o] Tryd.f6.ntmps) (Sx.look (allS t0 t1 t2 t3 t4 t5 t6 t7 t8 t9 t10 t11 t12 t13 t14 t15 ++ rB 100 N B ++ ([]))) 110 (YES) (Sx.look ([])) 6000 := by
  have hbi : bndB (inG B N 5) N = true := bndB_of fun i hi => by rw [inG_at, if_pos hi]; exact bndB_ok hB hi
  have hlen := bytesOf_len B [] 0 N
  have hall : allEq (inG B N 5) (inG B N 5) (N + 5) = true := allEq_of (fun _ _ => rfl)
  have hk1 : numOf 20 = 9 := rfl
  have hk2 : numOf 21 = 1 := rfl
  have hk3 : numOf 22 = 4 := rfl
  have hdi : dbs N (inG B N 5) = dbs N B := by unfold dbs; rw [bytes_in]
  have hdf : dbl (bytesOf B [] 0 N) = dbs N B := rfl
  have hby := bytesOf_full (dbs N B)
  have hu : IntKind.u8.wrap c = ((u8o c).toNat : Int) := u8o_wr (by rw [byN_T]; omega)
  have hu2 : UInt8.ofNat (IntKind.u8.wrap c).toNat = u8o c := by rw [hu, Int.toNat_natCast, UInt8.ofNat_toNat]
  have ho' := ho
  rw [byN_F] at ho'
  refine bcase (c := (decide (o ≥ (0 : Int)))) (fun gg0 => ?_) (fun gg0 => ?_)
  · refine runs_last baseERa (Sx.Ends.of (epRav_p0 t0 t1 t2 t3 t4 t5 t6 t7 t8 t9 t10 t11 t12 t13 t14 t15 N B c o) ⟨?oo, ?rr⟩) (by kernel_rfl) rfl (gtL (by decide)) (by decide)
    case oo =>
      refine (okc ?_ (okc ?_ (okc ?_ (okc ?_ (okc ?_ (okc ?_ (okc ?_ (okc ?_ (okc ?_ (okc ?_ (okc ?_ (okc ?_ (okc gg0 (okc ?_ (okc ?_ (okc ?_ (okc ?_ (okc ?_ (okc ?_ (okc ?_ (okc ?_ (okc ?_ (okc ?_ (okc ?_ (okc ?_ okn)))))))))))))))))))))))))
      all_goals first | omega | exact hall | exact hbi | (simp (disch := omega) only [SS, hlen, hk1, hk2, hk3, hdi, hdf, hby, z2, n2, z3, n3, z4, n4]; first | done | omega | exact ⟨by omega, by omega, hbi⟩ | exact ⟨ho, by omega, by omega, hbi⟩ | exact ⟨⟨by omega, by omega⟩, hall⟩) | (simp_all; done) | (simp_all; omega)
    case rr =>
      try simp (disch := omega) only [SS, hlen, hk1, hk2, hk3, hdi, hdf, hby, z2, n2, z3, n3, z4, n4]
      repeat' apply And.intro
      all_goals first | exact True.intro | with_reducible rfl | omega | (intros; first | exact True.intro | with_reducible rfl | omega | (simp_all; done)) | (simp_all; done) | rfl
  · refine runs_last baseERa (Sx.Ends.of (epRav_p1 t0 t1 t2 t3 t4 t5 t6 t7 t8 t9 t10 t11 t12 t13 t14 t15 N B c o) ⟨?oo, ?rr⟩) (by kernel_rfl) rfl (gtL (by decide)) (by decide)
    case oo =>
      refine (okc ?_ (okc ?_ (okc ?_ (okc ?_ (okc ?_ (okc ?_ (okc ?_ (okc ?_ (okc ?_ (okc ?_ (okc ?_ (okc ?_ (okc gg0 (okc ?_ (okc ?_ (okc ?_ (okc ?_ (okc ?_ (okc ?_ (okc ?_ (okc ?_ (okc ?_ (okc ?_ (okc ?_ (okc ?_ (okc ?_ okn))))))))))))))))))))))))))
      all_goals first | omega | exact hall | exact hbi | (simp (disch := omega) only [SS, hlen, hk1, hk2, hk3, hdi, hdf, hby, z2, n2, z3, n3, z4, n4]; first | done | omega | exact ⟨by omega, by omega, hbi⟩ | exact ⟨ho, by omega, by omega, hbi⟩ | exact ⟨⟨by omega, by omega⟩, hall⟩) | (simp_all; done) | (simp_all; omega)
    case rr =>
      try simp (disch := omega) only [SS, hlen, hk1, hk2, hk3, hdi, hdf, hby, z2, n2, z3, n3, z4, n4]
      repeat' apply And.intro
      all_goals first | exact True.intro | with_reducible rfl | omega | (intros; first | exact True.intro | with_reducible rfl | omega | (simp_all; done)) | (simp_all; done) | rfl

theorem epRax_p0 (t0 t1 t2 t3 t4 t5 t6 t7 t8 t9 t10 t11 t12 t13 t14 t15 : List UInt8) (N : Nat) (B : Ix → Int) (c o : Int) :
    isEnd (evTill Tryd.prog sumsERa 700 (99) 900 6 [.code (bodyOf Tryd.f6)] (envOf [vL 100 1 N, vN c, vN o] Tryd.f6.ntmps) (allS t0 t1 t2 t3 t4 t5 t6 t7 t8 t9 t10 t11 t12 t13 t14 t15 ++ rB 100 N B ++ ([])) ⟨[.t, .f, .s false, .s true, .s true, .s true, .s true, .s true, .s true, .s false, .s false, .t, .s false, .t, .s true, .t, .t, .s true, .s true, .s true, .s true, .s true, .s true, .s true, .s true, .s true, .s true, .s true], 110⟩) (endP ([]) (YES) ([]) 6000) =
    (OkL [(decide ((↑N : Int) > (400 : Int)), false), (N.beq N, true), (decide (N ≤ (1000 : Nat)), true), (decide (N ≤ (100000 : Nat)) && (decide (N ≤ N + (5 : Nat)) && bndB (inG B N (5 : Nat)) N), true), (((0 : Nat) + (dbs N (inG B N (5 : Nat))).length).ble (dbs N (inG B N (5 : Nat))).length, true), (((0 : Nat) + N).ble N, true), (decide ((bytesOf B [] (0 : Nat) N).length ≤ (100000 : Nat)), true), (!bytesOf (fun is => (↑((dbs N (inG B N (5 : Nat))).getD (List.headD is (0 : Nat)) (0 : UInt8)).toNat : Int)) [] (0 : Nat) (dbs N (inG B N (5 : Nat))).length == dbl (bytesOf B [] (0 : Nat) N), false), (decide (c ≥ (241 : Int)), false), (decide (c ≥ (251 : Int)), false), (!byN o, true), (((0 : Nat) + N).ble N, true), (decide ((bytesOf B [] (0 : Nat) N).length ≤ (10000 : Nat)), true), ([] == tkrS (2 : Int) c (0 : Int) [] false, true), (numOf (20 : Nat) == tkrN (2 : Int) c (0 : Int) [] false, true), ([] == tkrS (3 : Int) c o [] false, true), (numOf (20 : Nat) == tkrN (3 : Int) c o [] false, true), ([] == tkrS (4 : Int) (0 : Int) o (bytesOf B [] (0 : Nat) N) false, true), (numOf (if true = true then (21 : Nat) else (950 : Nat)) == tkrN (4 : Int) (0 : Int) o (bytesOf B [] (0 : Nat) N) false, true), (N.beq N, true), (N.beq N, true), (decide (N ≤ (1000 : Nat)) && decide (N + (5 : Nat) ≤ N + (5 : Nat)) && allEq (inG B N (5 : Nat)) (inG B N (5 : Nat)) (N + (5 : Nat)), true)] ∧ true = true ∧ True) := by kernel_rfl
theorem epRax_p1 (t0 t1 t2 t3 t4 t5 t6 t7 t8 t9 t10 t11 t12 t13 t14 t15 : List UInt8) (N : Nat) (B : Ix → Int) (c o : Int) :
    isEnd (evTill Tryd.prog sumsERa 700 (99) 900 6 [.code (bodyOf Tryd.f6)] (envOf [vL 100 1 N, vN c, vN o] Tryd.f6.ntmps) (allS t0 t1 t2 t3 t4 t5 t6 t7 t8 t9 t10 t11 t12 t13 t14 t15 ++ rB 100 N B ++ ([])) ⟨[.t, .f, .s false, .s true, .s true, .s true, .s true, .s true, .s true, .s false, .s true, .s true, .s false, .t, .s true, .t, .t, .s true, .s true, .s true, .s true, .s true, .s true, .s true, .s true, .s true, .s true, .s true], 110⟩) (endP ([]) (YES) ([]) 6000) =
    (OkL [(decide ((↑N : Int) > (400 : Int)), false), (N.beq N, true), (decide (N ≤ (1000 : Nat)), true), (decide (N ≤ (100000 : Nat)) && (decide (N ≤ N + (5 : Nat)) && bndB (inG B N (5 : Nat)) N), true), (((0 : Nat) + (dbs N (inG B N (5 : Nat))).length).ble (dbs N (inG B N (5 : Nat))).length, true), (((0 : Nat) + N).ble N, true), (decide ((bytesOf B [] (0 : Nat) N).length ≤ (100000 : Nat)), true), (!bytesOf (fun is => (↑((dbs N (inG B N (5 : Nat))).getD (List.headD is (0 : Nat)) (0 : UInt8)).toNat : Int)) [] (0 : Nat) (dbs N (inG B N (5 : Nat))).length == dbl (bytesOf B [] (0 : Nat) N), false), (decide (c ≥ (241 : Int)), true), (!decide (c ≤ (249 : Int)), true), (decide (c ≥ (251 : Int)), false), (!byN o, true), (((0 : Nat) + N).ble N, true), (decide ((bytesOf B [] (0 : Nat) N).length ≤ (10000 : Nat)), true), ([] == tkrS (2 : Int) c (0 : Int) [] false, true), (numOf (20 : Nat) == tkrN (2 : Int) c (0 : Int) [] false, true), ([] == tkrS (3 : Int) c o [] false, true), (numOf (20 : Nat) == tkrN (3 : Int) c o [] false, true), ([] == tkrS (4 : Int) (0 : Int) o (bytesOf B [] (0 : Nat) N) false, true), (numOf (if true = true then (21 : Nat) else (950 : Nat)) == tkrN (4 : Int) (0 : Int) o (bytesOf B [] (0 : Nat) N) false, true), (N.beq N, true), (N.beq N, true), (decide (N ≤ (1000 : Nat)) && decide (N + (5 : Nat) ≤ N + (5 : Nat)) && allEq (inG B N (5 : Nat)) (inG B N (5 : Nat)) (N + (5 : Nat)), true)] ∧ true = true ∧ True) := by kernel_rfl
theorem epRax_p2 (t0 t1 t2 t3 t4 t5 t6 t7 t8 t9 t10 t11 t12 t13 t14 t15 : List UInt8) (N : Nat) (B : Ix → Int) (c o : Int) :
    isEnd (evTill Tryd.prog sumsERa 700 (99) 900 6 [.code (bodyOf Tryd.f6)] (envOf [vL 100 1 N, vN c, vN o] Tryd.f6.ntmps) (allS t0 t1 t2 t3 t4 t5 t6 t7 t8 t9 t10 t11 t12 t13 t14 t15 ++ rB 100 N B ++ ([])) ⟨[.t, .f, .s false, .s true, .s true, .s true, .s true, .s true, .s true, .s false, .s true, .s true, .s true, .s true, .s true, .t, .t, .s true, .s true, .s true, .s true, .s true, .s true, .s true, .s true, .s true, .s true, .s true], 110⟩) (endP ([]) (YES) ([]) 6000) =
    (OkL [(decide ((↑N : Int) > (400 : Int)), false), (N.beq N, true), (decide (N ≤ (1000 : Nat)), true), (decide (N ≤ (100000 : Nat)) && (decide (N ≤ N + (5 : Nat)) && bndB (inG B N (5 : Nat)) N), true), (((0 : Nat) + (dbs N (inG B N (5 : Nat))).length).ble (dbs N (inG B N (5 : Nat))).length, true), (((0 : Nat) + N).ble N, true), (decide ((bytesOf B [] (0 : Nat) N).length ≤ (100000 : Nat)), true), (!bytesOf (fun is => (↑((dbs N (inG B N (5 : Nat))).getD (List.headD is (0 : Nat)) (0 : UInt8)).toNat : Int)) [] (0 : Nat) (dbs N (inG B N (5 : Nat))).length == dbl (bytesOf B [] (0 : Nat) N), false), (decide (c ≥ (241 : Int)), true), (!decide (c ≤ (249 : Int)), true), (decide (c ≥ (251 : Int)), true), (!decide (c ≤ (254 : Int)), true), (!byN o, true), (((0 : Nat) + N).ble N, true), (decide ((bytesOf B [] (0 : Nat) N).length ≤ (10000 : Nat)), true), ([] == tkrS (2 : Int) c (0 : Int) [] false, true), (numOf (20 : Nat) == tkrN (2 : Int) c (0 : Int) [] false, true), ([] == tkrS (3 : Int) c o [] false, true), (numOf (20 : Nat) == tkrN (3 : Int) c o [] false, true), ([] == tkrS (4 : Int) (0 : Int) o (bytesOf B [] (0 : Nat) N) false, true), (numOf (if true = true then (21 : Nat) else (950 : Nat)) == tkrN (4 : Int) (0 : Int) o (bytesOf B [] (0 : Nat) N) false, true), (N.beq N, true), (N.beq N, true), (decide (N ≤ (1000 : Nat)) && decide (N + (5 : Nat) ≤ N + (5 : Nat)) && allEq (inG B N (5 : Nat)) (inG B N (5 : Nat)) (N + (5 : Nat)), true)] ∧ true = true ∧ True) := by kernel_rfl

set_option maxHeartbeats 4000000 in
theorem epRax (t0 t1 t2 t3 t4 t5 t6 t7 t8 t9 t10 t11 t12 t13 t14 t15 : List UInt8) (N : Nat) (B : Ix → Int) (c o : Int) (hN : N ≤ 400) (hB : bndB B N = true) (ho : byN o = false) (h2 : ¬ (241 ≤ c ∧ c ≤ 249)) (hc : ¬ (251 ≤ c ∧ c ≤ 254)) (z2 : tkrS 2 c 0 [] false = []) (n2 : tkrN 2 c 0 [] false = 9) (z3 : tkrS 3 c o [] false = []) (n3 : tkrN 3 c o [] false = 9) (z4 : tkrS 4 0 o (bytesOf B [] 0 N) false = []) (n4 : tkrN 4 0 o (bytesOf B [] 0 N) false = 1)  :
    RunsTo Tryd.prog 6 [.code (bodyOf Tryd.f6)] (envOf [vL 100 1 N, vN c, vN o] Tryd.f6.ntmps) (Sx.look (allS t0 t1 t2 t3 t4 t5 t6 t7 t8 t9 t10 t11 t12 t13 t14 t15 ++ rB 100 N B ++ ([]))) 110 (YES) (Sx.look ([])) 6000 := by
  have hbi : bndB (inG B N 5) N = true := bndB_of fun i hi => by rw [inG_at, if_pos hi]; exact bndB_ok hB hi
  have hlen := bytesOf_len B [] 0 N
  have hall : allEq (inG B N 5) (inG B N 5) (N + 5) = true := allEq_of (fun _ _ => rfl)
  have hk1 : numOf 20 = 9 := rfl
  have hk2 : numOf 21 = 1 := rfl
  have hk3 : numOf 22 = 4 := rfl
  have hdi : dbs N (inG B N 5) = dbs N B := by unfold dbs; rw [bytes_in]
  have hdf : dbl (bytesOf B [] 0 N) = dbs N B := rfl
  have hby := bytesOf_full (dbs N B)
  have ho' := ho
  rw [byN_F] at ho'
  refine bcase (c := (decide (c ≥ (241 : Int)))) (fun gg0 => ?_) (fun gg0 => ?_)
  · refine runs_last baseERa (Sx.Ends.of (epRax_p0 t0 t1 t2 t3 t4 t5 t6 t7 t8 t9 t10 t11 t12 t13 t14 t15 N B c o) ⟨?oo, ?rr⟩) (by kernel_rfl) rfl (gtL (by decide)) (by decide)
    case oo =>
      refine (okc ?_ (okc ?_ (okc ?_ (okc ?_ (okc ?_ (okc ?_ (okc ?_ (okc ?_ (okc gg0 (okc ?_ (okc ?_ (okc ?_ (okc ?_ (okc ?_ (okc ?_ (okc ?_ (okc ?_ (okc ?_ (okc ?_ (okc ?_ (okc ?_ (okc ?_ okn))))))))))))))))))))))
      all_goals first | omega | exact hall | exact hbi | (simp (disch := omega) only [SS, hlen, hk1, hk2, hk3, hdi, hdf, hby, z2, n2, z3, n3, z4, n4]; first | done | omega | exact ⟨by omega, by omega, hbi⟩ | exact ⟨ho, by omega, by omega, hbi⟩ | exact ⟨⟨by omega, by omega⟩, hall⟩) | (simp_all; done) | (simp_all; omega)
    case rr =>
      try simp (disch := omega) only [SS, hlen, hk1, hk2, hk3, hdi, hdf, hby, z2, n2, z3, n3, z4, n4]
      repeat' apply And.intro
      all_goals first | exact True.intro | with_reducible rfl | omega | (intros; first | exact True.intro | with_reducible rfl | omega | (simp_all; done)) | (simp_all; done) | rfl
  · refine bcase (c := (decide (c ≥ (251 : Int)))) (fun gg1 => ?_) (fun gg1 => ?_)
    · refine runs_last baseERa (Sx.Ends.of (epRax_p1 t0 t1 t2 t3 t4 t5 t6 t7 t8 t9 t10 t11 t12 t13 t14 t15 N B c o) ⟨?oo, ?rr⟩) (by kernel_rfl) rfl (gtL (by decide)) (by decide)
      case oo =>
        refine (okc ?_ (okc ?_ (okc ?_ (okc ?_ (okc ?_ (okc ?_ (okc ?_ (okc ?_ (okc gg0 (okc ?_ (okc gg1 (okc ?_ (okc ?_ (okc ?_ (okc ?_ (okc ?_ (okc ?_ (okc ?_ (okc ?_ (okc ?_ (okc ?_ (okc ?_ (okc ?_ okn)))))))))))))))))))))))
        all_goals first | omega | exact hall | exact hbi | (simp (disch := omega) only [SS, hlen, hk1, hk2, hk3, hdi, hdf, hby, z2, n2, z3, n3, z4, n4]; first | done | omega | exact ⟨by omega, by omega, hbi⟩ | exact ⟨ho, by omega, by omega, hbi⟩ | exact ⟨⟨by omega, by omega⟩, hall⟩) | (simp_all; done) | (simp_all; omega)
      case rr =>
        try simp (disch := omega) only [SS, hlen, hk1, hk2, hk3, hdi, hdf, hby, z2, n2, z3, n3, z4, n4]
        repeat' apply And.intro
        all_goals first | exact True.intro | with_reducible rfl | omega | (intros; first | exact True.intro | with_reducible rfl | omega | (simp_all; done)) | (simp_all; done) | rfl
    · refine runs_last baseERa (Sx.Ends.of (epRax_p2 t0 t1 t2 t3 t4 t5 t6 t7 t8 t9 t10 t11 t12 t13 t14 t15 N B c o) ⟨?oo, ?rr⟩) (by kernel_rfl) rfl (gtL (by decide)) (by decide)
      case oo =>
        refine (okc ?_ (okc ?_ (okc ?_ (okc ?_ (okc ?_ (okc ?_ (okc ?_ (okc ?_ (okc gg0 (okc ?_ (okc gg1 (okc ?_ (okc ?_ (okc ?_ (okc ?_ (okc ?_ (okc ?_ (okc ?_ (okc ?_ (okc ?_ (okc ?_ (okc ?_ (okc ?_ (okc ?_ okn))))))))))))))))))))))))
        all_goals first | omega | exact hall | exact hbi | (simp (disch := omega) only [SS, hlen, hk1, hk2, hk3, hdi, hdf, hby, z2, n2, z3, n3, z4, n4]; first | done | omega | exact ⟨by omega, by omega, hbi⟩ | exact ⟨ho, by omega, by omega, hbi⟩ | exact ⟨⟨by omega, by omega⟩, hall⟩) | (simp_all; done) | (simp_all; omega)
      case rr =>
        try simp (disch := omega) only [SS, hlen, hk1, hk2, hk3, hdi, hdf, hby, z2, n2, z3, n3, z4, n4]
        repeat' apply And.intro
        all_goals first | exact True.intro | with_reducible rfl | omega | (intros; first | exact True.intro | with_reducible rfl | omega | (simp_all; done)) | (simp_all; done) | rfl

theorem epLop_p0 (t0 t1 t2 t3 t4 t5 t6 t7 t8 t9 t10 t11 t12 t13 t14 t15 : List UInt8) (N : Nat) (B : Ix → Int) (c o : Int) :
    isEnd (evTill Tryd.prog sumsELo 700 (99) 900 6 [.code (bodyOf Tryd.f6)] (envOf [vL 100 1 N, vN c, vN o] Tryd.f6.ntmps) (allS t0 t1 t2 t3 t4 t5 t6 t7 t8 t9 t10 t11 t12 t13 t14 t15 ++ rB 100 N B ++ ([])) ⟨[.t, .f, .s false, .s true, .s true, .s true, .s true, .s true, .s true, .s false, .s true, .s false, .s false, .t, .s true, .t, .t, .s true, .s true, .t, .s true, .s true, .s true, .s true, .s true, .s true, .s true, .s true, .s true], 110⟩) (endP ([]) (YES) ([]) 6000) =
    (OkL [(decide ((↑N : Int) > (400 : Int)), false), (N.beq N, true), (decide (N ≤ (1000 : Nat)), true), (decide (N ≤ (100000 : Nat)) && (decide (N ≤ N + (5 : Nat)) && bndB (inG B N (5 : Nat)) N), true), (((0 : Nat) + (dbs N (inG B N (5 : Nat))).length).ble (dbs N (inG B N (5 : Nat))).length, true), (((0 : Nat) + N).ble N, true), (decide ((bytesOf B [] (0 : Nat) N).length ≤ (100000 : Nat)), true), (!bytesOf (fun is => (↑((dbs N (inG B N (5 : Nat))).getD (List.headD is (0 : Nat)) (0 : UInt8)).toNat : Int)) [] (0 : Nat) (dbs N (inG B N (5 : Nat))).length == dbl (bytesOf B [] (0 : Nat) N), false), (decide (c ≥ (241 : Int)), true), (!decide (c ≤ (249 : Int)), false), (decide (c ≥ (251 : Int)), false), (byN o && decide ((256 : Nat) < N), true), (((0 : Nat) + N).ble N, true), (decide ((bytesOf B [] (0 : Nat) N).length ≤ (10000 : Nat)), true), (bytesOf (upd (upd (fun is => (0 : Int)) [(0 : Nat)] (255 : Int)) [(1 : Nat)] (IntKind.u8.wrap c)) [] (0 : Nat) (2 : Nat) == tkrS (2 : Int) c (0 : Int) [] false, true), ((0 : Int) == tkrN (2 : Int) c (0 : Int) [] false, true), ([] == tkrS (3 : Int) c o [] false, true), (numOf (20 : Nat) == tkrN (3 : Int) c o [] false, true), ([] == tkrS (4 : Int) (0 : Int) o (bytesOf B [] (0 : Nat) N) false, true), (numOf (if true = true then (22 : Nat) else (951 : Nat)) == tkrN (4 : Int) (0 : Int) o (bytesOf B [] (0 : Nat) N) false, true), (N.beq N, true), (N.beq N, true), (decide (N ≤ (1000 : Nat)) && decide (N + (5 : Nat) ≤ N + (5 : Nat)) && allEq (inG B N (5 : Nat)) (inG B N (5 : Nat)) (N + (5 : Nat)), true)] ∧ true = true ∧ True) := by kernel_rfl

set_option maxHeartbeats 4000000 in
theorem epLop (t0 t1 t2 t3 t4 t5 t6 t7 t8 t9 t10 t11 t12 t13 t14 t15 : List UInt8) (N : Nat) (B : Ix → Int) (c o : Int) (hN : N ≤ 400) (hB : bndB B N = true) (ho : byN o = true) (hs : 256 < N) (hc : 241 ≤ c ∧ c ≤ 249) (z2 : tkrS 2 c 0 [] false = [255, u8o c]) (n2 : tkrN 2 c 0 [] false = 0) (z3 : tkrS 3 c o [] false = []) (n3 : tkrN 3 c o [] false = 9) (z4 : tkrS 4 0 o (bytesOf B [] 0 N) false = []) (n4 : tkrN 4 0 o (bytesOf B [] 0 N) false = 4)  :
    RunsTo Tryd.prog 6 [.code (bodyOf Tryd.f6)] (envOf [vL 100 1 N, vN c, vN o] Tryd.f6.ntmps) (Sx.look (allS t0 t1 t2 t3 t4 t5 t6 t7 t8 t9 t10 t11 t12 t13 t14 t15 ++ rB 100 N B ++ ([]))) 110 (YES) (Sx.look ([])) 6000 := by
  have hbi : bndB (inG B N 5) N = true := bndB_of fun i hi => by rw [inG_at, if_pos hi]; exact bndB_ok hB hi
  have hlen := bytesOf_len B [] 0 N
  have hall : allEq (inG B N 5) (inG B N 5) (N + 5) = true := allEq_of (fun _ _ => rfl)
  have hk1 : numOf 20 = 9 := rfl
  have hk2 : numOf 21 = 1 := rfl
  have hk3 : numOf 22 = 4 := rfl
  have hdi : dbs N (inG B N 5) = dbs N B := by unfold dbs; rw [bytes_in]
  have hdf : dbl (bytesOf B [] 0 N) = dbs N B := rfl
  have hby := bytesOf_full (dbs N B)
  have hu : IntKind.u8.wrap c = ((u8o c).toNat : Int) := u8o_wr (by rw [byN_T]; omega)
  have hu2 : UInt8.ofNat (IntKind.u8.wrap c).toNat = u8o c := by rw [hu, Int.toNat_natCast, UInt8.ofNat_toNat]
  have hv : IntKind.u8.wrap o = ((u8o o).toNat : Int) := u8o_wr ho
  have hv2 : UInt8.ofNat (IntKind.u8.wrap o).toNat = u8o o := by rw [hv, Int.toNat_natCast, UInt8.ofNat_toNat]
  have hq2 : bytesOf (upd (upd (fun is => 0) [0] 255) [1] (IntKind.u8.wrap c)) [] 0 2 = [255, u8o c] := by rw [← hu2]; rfl
  have ho' := ho
  rw [byN_T] at ho'
  refine runs_last baseELo (Sx.Ends.of (epLop_p0 t0 t1 t2 t3 t4 t5 t6 t7 t8 t9 t10 t11 t12 t13 t14 t15 N B c o) ⟨?oo, ?rr⟩) (by kernel_rfl) rfl (gtL (by decide)) (by decide)
  case oo =>
    refine (okc ?_ (okc ?_ (okc ?_ (okc ?_ (okc ?_ (okc ?_ (okc ?_ (okc ?_ (okc ?_ (okc ?_ (okc ?_ (okc ?_ (okc ?_ (okc ?_ (okc ?_ (okc ?_ (okc ?_ (okc ?_ (okc ?_ (okc ?_ (okc ?_ (okc ?_ (okc ?_ okn)))))))))))))))))))))))
    all_goals first | omega | exact hall | exact hbi | (simp (disch := omega) only [SS, hlen, hk1, hk2, hk3, hdi, hdf, hby, z2, n2, z3, n3, z4, n4, hq2]; first | done | omega | exact ⟨by omega, by omega, hbi⟩ | exact ⟨ho, by omega, by omega, hbi⟩ | exact ⟨⟨by omega, by omega⟩, hall⟩) | (simp_all; done) | (simp_all; omega)
  case rr =>
    try simp (disch := omega) only [SS, hlen, hk1, hk2, hk3, hdi, hdf, hby, z2, n2, z3, n3, z4, n4, hq2]
    repeat' apply And.intro
    all_goals first | exact True.intro | with_reducible rfl | omega | (intros; first | exact True.intro | with_reducible rfl | omega | (simp_all; done)) | (simp_all; done) | rfl

theorem epLov_p0 (t0 t1 t2 t3 t4 t5 t6 t7 t8 t9 t10 t11 t12 t13 t14 t15 : List UInt8) (N : Nat) (B : Ix → Int) (c o : Int) :
    isEnd (evTill Tryd.prog sumsELo 700 (99) 900 6 [.code (bodyOf Tryd.f6)] (envOf [vL 100 1 N, vN c, vN o] Tryd.f6.ntmps) (allS t0 t1 t2 t3 t4 t5 t6 t7 t8 t9 t10 t11 t12 t13 t14 t15 ++ rB 100 N B ++ ([])) ⟨[.t, .f, .s false, .s true, .s true, .s true, .s true, .s true, .s true, .s false, .s true, .s true, .s true, .s false, .s true, .s false, .s true, .t, .t, .s true, .s true, .s true, .s true, .t, .s true, .s true, .s true, .s true, .s true, .s true, .s true], 110⟩) (endP ([]) (YES) ([]) 6000) =
    (OkL [(decide ((↑N : Int) > (400 : Int)), false), (N.beq N, true), (decide (N ≤ (1000 : Nat)), true), (decide (N ≤ (100000 : Nat)) && (decide (N ≤ N + (5 : Nat)) && bndB (inG B N (5 : Nat)) N), true), (((0 : Nat) + (dbs N (inG B N (5 : Nat))).length).ble (dbs N (inG B N (5 : Nat))).length, true), (((0 : Nat) + N).ble N, true), (decide ((bytesOf B [] (0 : Nat) N).length ≤ (100000 : Nat)), true), (!bytesOf (fun is => (↑((dbs N (inG B N (5 : Nat))).getD (List.headD is (0 : Nat)) (0 : UInt8)).toNat : Int)) [] (0 : Nat) (dbs N (inG B N (5 : Nat))).length == dbl (bytesOf B [] (0 : Nat) N), false), (decide (c ≥ (241 : Int)), true), (!decide (c ≤ (249 : Int)), true), (decide (c ≥ (251 : Int)), true), (!decide (c ≤ (254 : Int)), false), (decide (o ≥ (0 : Int)), true), (!decide (o ≤ (255 : Int)), false), (byN o && decide ((256 : Nat) < N), true), (((0 : Nat) + N).ble N, true), (decide ((bytesOf B [] (0 : Nat) N).length ≤ (10000 : Nat)), true), ([] == tkrS (2 : Int) c (0 : Int) [] false, true), (numOf (20 : Nat) == tkrN (2 : Int) c (0 : Int) [] false, true), (bytesOf (upd (upd (upd (fun is => (0 : Int)) [(0 : Nat)] (255 : Int)) [(1 : Nat)] (IntKind.u8.wrap c)) [(2 : Nat)] (IntKind.u8.wrap o)) [] (0 : Nat) (3 : Nat) == tkrS (3 : Int) c o [] false, true), ((0 : Int) == tkrN (3 : Int) c o [] false, true), ([] == tkrS (4 : Int) (0 : Int) o (bytesOf B [] (0 : Nat) N) false, true), (numOf (if true = true then (22 : Nat) else (951 : Nat)) == tkrN (4 : Int) (0 : Int) o (bytesOf B [] (0 : Nat) N) false, true), (N.beq N, true), (N.beq N, true), (decide (N ≤ (1000 : Nat)) && decide (N + (5 : Nat) ≤ N + (5 : Nat)) && allEq (inG B N (5 : Nat)) (inG B N (5 : Nat)) (N + (5 : Nat)), true)] ∧ true = true ∧ True) := by kernel_rfl

set_option maxHeartbeats 4000000 in
theorem epLov (t0 t1 t2 t3 t4 t5 t6 t7 t8 t9 t10 t11 t12 t13 t14 t15 : List UInt8) (N : Nat) (B : Ix → Int) (c o : Int) (hN : N ≤ 400) (hB : bndB B N = true) (ho : byN o = true) (hs : 256 < N) (hc : 251 ≤ c ∧ c ≤ 254) (z2 : tkrS 2 c 0 [] false = []) (n2 : tkrN 2 c 0 [] false = 9) (z3 : tkrS 3 c o [] false = [255, u8o c, u8o o]) (n3 : tkrN 3 c o [] false = 0) (z4 : tkrS 4 0 o (bytesOf B [] 0 N) false = []) (n4 : tkrN 4 0 o (bytesOf B [] 0 N) false = 4)  :
    RunsTo Tryd.prog 6 [.code (bodyOf Tryd.f6)] (envOf [vL 100 1 N, vN c, vN o] Tryd.f6.ntmps) (Sx.look (allS t0 t1 t2 t3 t4 t5 t6 t7 t8 t9 t10 t11 t12 t13 t14 t15 ++ rB 100 N B ++ ([]))) 110 (YES) (Sx.look ([])) 6000 := by
  have hbi : bndB (inG B N 5) N = true := bndB_of fun i hi => by rw [inG_at, if_pos hi]; exact bndB_ok hB hi
  have hlen := bytesOf_len B [] 0 N
  have hall : allEq (inG B N 5) (inG B N 5) (N + 5) = true := allEq_of (fun _ _ => rfl)
  have hk1 : numOf 20 = 9 := rfl
  have hk2 : numOf 21 = 1 := rfl
  have hk3 : numOf 22 = 4 := rfl
  have hdi : dbs N (inG B N 5) = dbs N B := by unfold dbs; rw [bytes_in]
  have hdf : dbl (bytesOf B [] 0 N) = dbs N B := rfl
  have hby := bytesOf_full (dbs N B)
  have hu : IntKind.u8.wrap c = ((u8o c).toNat : Int) := u8o_wr (by rw [byN_T]; omega)
  have hu2 : UInt8.ofNat (IntKind.u8.wrap c).toNat = u8o c := by rw [hu, Int.toNat_natCast, UInt8.ofNat_toNat]
  have hv : IntKind.u8.wrap o = ((u8o o).toNat : Int) := u8o_wr ho
  have hv2 : UInt8.ofNat (IntKind.u8.wrap o).toNat = u8o o := by rw [hv, Int.toNat_natCast, UInt8.ofNat_toNat]
  have hq3 : bytesOf (upd (upd (upd (fun is => 0) [0] 255) [1] (IntKind.u8.wrap c)) [2] (IntKind.u8.wrap o)) [] 0 3 = [255, u8o c, u8o o] := by rw [← hu2, ← hv2]; rfl
  have ho' := ho
  rw [byN_T] at ho'
  refine runs_last baseELo (Sx.Ends.of (epLov_p0 t0 t1 t2 t3 t4 t5 t6 t7 t8 t9 t10 t11 t12 t13 t14 t15 N B c o) ⟨?oo, ?rr⟩) (by kernel_rfl) rfl (gtL (by decide)) (by decide)
  case oo =>
    refine (okc ?_ (okc ?_ (okc ?_ (okc ?_ (okc ?_ (okc ?_ (okc ?_ (okc ?_ (okc ?_ (okc ?_ (okc ?_ (okc ?_ (okc ?_ (okc ?_ (okc ?_ (okc ?_ (okc ?_ (okc ?_ (okc ?_ (okc ?_ (okc ?_ (okc ?_ (okc ?_ (okc ?_ (okc ?_ (okc ?_ okn))))))))))))))))))))))))))
    all_goals first | omega | exact hall | exact hbi | (simp (disch := omega) only [SS, hlen, hk1, hk2, hk3, hdi, hdf, hby, z2, n2, z3, n3, z4, n4, hq3]; first | done | omega | exact ⟨by omega, by omega, hbi⟩ | exact ⟨ho, by omega, by omega, hbi⟩ | exact ⟨⟨by omega, by omega⟩, hall⟩) | (simp_all; done) | (simp_all; omega)
  case rr =>
    try simp (disch := omega) only [SS, hlen, hk1, hk2, hk3, hdi, hdf, hby, z2, n2, z3, n3, z4, n4, hq3]
    repeat' apply And.intro
    all_goals first | exact True.intro | with_reducible rfl | omega | (intros; first | exact True.intro | with_reducible rfl | omega | (simp_all; done)) | (simp_all; done) | rfl

theorem epLox_p0 (t0 t1 t2 t3 t4 t5 t6 t7 t8 t9 t10 t11 t12 t13 t14 t15 : List UInt8) (N : Nat) (B : Ix → Int) (c o : Int) :
    isEnd (evTill Tryd.prog sumsELo 700 (99) 900 6 [.code (bodyOf Tryd.f6)] (envOf [vL 100 1 N, vN c, vN o] Tryd.f6.ntmps) (allS t0 t1 t2 t3 t4 t5 t6 t7 t8 t9 t10 t11 t12 t13 t14 t15 ++ rB 100 N B ++ ([])) ⟨[.t, .f, .s false, .s true, .s true, .s true, .s true, .s true, .s true, .s false, .s false, .t, .s false, .t, .s true, .t, .t, .s true, .s true, .s true, .s true, .s true, .s true, .s true, .s true, .s true, .s true, .s true], 110⟩) (endP ([]) (YES) ([]) 6000) =
    (OkL [(decide ((↑N : Int) > (400 : Int)), false), (N.beq N, true), (decide (N ≤ (1000 : Nat)), true), (decide (N ≤ (100000 : Nat)) && (decide (N ≤ N + (5 : Nat)) && bndB (inG B N (5 : Nat)) N), true), (((0 : Nat) + (dbs N (inG B N (5 : Nat))).length).ble (dbs N (inG B N (5 : Nat))).length, true), (((0 : Nat) + N).ble N, true), (decide ((bytesOf B [] (0 : Nat) N).length ≤ (100000 : Nat)), true), (!bytesOf (fun is => (↑((dbs N (inG B N (5 : Nat))).getD (List.headD is (0 : Nat)) (0 : UInt8)).toNat : Int)) [] (0 : Nat) (dbs N (inG B N (5 : Nat))).length == dbl (bytesOf B [] (0 : Nat) N), false), (decide (c ≥ (241 : Int)), false), (decide (c ≥ (251 : Int)), false), (byN o && decide ((256 : Nat) < N), true), (((0 : Nat) + N).ble N, true), (decide ((bytesOf B [] (0 : Nat) N).length ≤ (10000 : Nat)), true), ([] == tkrS (2 : Int) c (0 : Int) [] false, true), (numOf (20 : Nat) == tkrN (2 : Int) c (0 : Int) [] false, true), ([] == tkrS (3 : Int) c o [] false, true), (numOf (20 : Nat) == tkrN (3 : Int) c o [] false, true), ([] == tkrS (4 : Int) (0 : Int) o (bytesOf B [] (0 : Nat) N) false, true), (numOf (if true = true then (22 : Nat) else (950 : Nat)) == tkrN (4 : Int) (0 : Int) o (bytesOf B [] (0 : Nat) N) false, true), (N.beq N, true), (N.beq N, true), (decide (N ≤ (1000 : Nat)) && decide (N + (5 : Nat) ≤ N + (5 : Nat)) && allEq (inG B N (5 : Nat)) (inG B N (5 : Nat)) (N + (5 : Nat)), true)] ∧ true = true ∧ True) := by kernel_rfl
theorem epLox_p1 (t0 t1 t2 t3 t4 t5 t6 t7 t8 t9 t10 t11 t12 t13 t14 t15 : List UInt8) (N : Nat) (B : Ix → Int) (c o : Int) :
    isEnd (evTill Tryd.prog sumsELo 700 (99) 900 6 [.code (bodyOf Tryd.f6)] (envOf [vL 100 1 N, vN c, vN o] Tryd.f6.ntmps) (allS t0 t1 t2 t3 t4 t5 t6 t7 t8 t9 t10 t11 t12 t13 t14 t15 ++ rB 100 N B ++ ([])) ⟨[.t, .f, .s false, .s true, .s true, .s true, .s true, .s true, .s true, .s false, .s true, .s true, .s false, .t, .s true, .t, .t, .s true, .s true, .s true, .s true, .s true, .s true, .s true, .s true, .s true, .s true, .s true], 110⟩) (endP ([]) (YES) ([]) 6000) =
    (OkL [(decide ((↑N : Int) > (400 : Int)), false), (N.beq N, true), (decide (N ≤ (1000 : Nat)), true), (decide (N ≤ (100000 : Nat)) && (decide (N ≤ N + (5 : Nat)) && bndB (inG B N (5 : Nat)) N), true), (((0 : Nat) + (dbs N (inG B N (5 : Nat))).length).ble (dbs N (inG B N (5 : Nat))).length, true), (((0 : Nat) + N).ble N, true), (decide ((bytesOf B [] (0 : Nat) N).length ≤ (100000 : Nat)), true), (!bytesOf (fun is => (↑((dbs N (inG B N (5 : Nat))).getD (List.headD is (0 : Nat)) (0 : UInt8)).toNat : Int)) [] (0 : Nat) (dbs N (inG B N (5 : Nat))).length == dbl (bytesOf B [] (0 : Nat) N), false), (decide (c ≥ (241 : Int)), true), (!decide (c ≤ (249 : Int)), true), (decide (c ≥ (251 : Int)), false), (byN o && decide ((256 : Nat) < N), true), (((0 : Nat) + N).ble N, true), (decide ((bytesOf B [] (0 : Nat) N).length ≤ (10000 : Nat)), true), ([] == tkrS (2 : Int) c (0 : Int) [] false, true), (numOf (20 : Nat) == tkrN (2 : Int) c (0 : Int) [] false, true), ([] == tkrS (3 : Int) c o [] false, true), (numOf (20 : Nat) == tkrN (3 : Int) c o [] false, true), ([] == tkrS (4 : Int) (0 : Int) o (bytesOf B [] (0 : Nat) N) false, true), (numOf (if true = true then (22 : Nat) else (950 : Nat)) == tkrN (4 : Int) (0 : Int) o (bytesOf B [] (0 : Nat) N) false, true), (N.beq N, true), (N.beq N, true), (decide (N ≤ (1000 : Nat)) && decide (N + (5 : Nat) ≤ N + (5 : Nat)) && allEq (inG B N (5 : Nat)) (inG B N (5 : Nat)) (N + (5 : Nat)), true)] ∧ true = true ∧ True) := by kernel_rfl
theorem epLox_p2 (t0 t1 t2 t3 t4 t5 t6 t7 t8 t9 t10 t11 t12 t13 t14 t15 : List UInt8) (N : Nat) (B : Ix → Int) (c o : Int) :
    isEnd (evTill Tryd.prog sumsELo 700 (99) 900 6 [.code (bodyOf Tryd.f6)] (envOf [vL 100 1 N, vN c, vN o] Tryd.f6.ntmps) (allS t0 t1 t2 t3 t4 t5 t6 t7 t8 t9 t10 t11 t12 t13 t14 t15 ++ rB 100 N B ++ ([])) ⟨[.t, .f, .s false, .s true, .s true, .s true, .s true, .s true, .s true, .s false, .s true, .s true, .s true, .s true, .s true, .t, .t, .s true, .s true, .s true, .s true, .s true, .s true, .s true, .s true, .s true, .s true, .s true], 110⟩) (endP ([]) (YES) ([]) 6000) =
    (OkL [(decide ((↑N : Int) > (400 : Int)), false), (N.beq N, true), (decide (N ≤ (1000 : Nat)), true), (decide (N ≤ (100000 : Nat)) && (decide (N ≤ N + (5 : Nat)) && bndB (inG B N (5 : Nat)) N), true), (((0 : Nat) + (dbs N (inG B N (5 : Nat))).length).ble (dbs N (inG B N (5 : Nat))).length, true), (((0 : Nat) + N).ble N, true), (decide ((bytesOf B [] (0 : Nat) N).length ≤ (100000 : Nat)), true), (!bytesOf (fun is => (↑((dbs N (inG B N (5 : Nat))).getD (List.headD is (0 : Nat)) (0 : UInt8)).toNat : Int)) [] (0 : Nat) (dbs N (inG B N (5 : Nat))).length == dbl (bytesOf B [] (0 : Nat) N), false), (decide (c ≥ (241 : Int)), true), (!decide (c ≤ (249 : Int)), true), (decide (c ≥ (251 : Int)), true), (!decide (c ≤ (254 : Int)), true), (byN o && decide ((256 : Nat) < N), true), (((0 : Nat) + N).ble N, true), (decide ((bytesOf B [] (0 : Nat) N).length ≤ (10000 : Nat)), true), ([] == tkrS (2 : Int) c (0 : Int) [] false, true), (numOf (20 : Nat) == tkrN (2 : Int) c (0 : Int) [] false, true), ([] == tkrS (3 : Int) c o [] false, true), (numOf (20 : Nat) == tkrN (3 : Int) c o [] false, true), ([] == tkrS (4 : Int) (0 : Int) o (bytesOf B [] (0 : Nat) N) false, true), (numOf (if true = true then (22 : Nat) else (950 : Nat)) == tkrN (4 : Int) (0 : Int) o (bytesOf B [] (0 : Nat) N) false, true), (N.beq N, true), (N.beq N, true), (decide (N ≤ (1000 : Nat)) && decide (N + (5 : Nat) ≤ N + (5 : Nat)) && allEq (inG B N (5 : Nat)) (inG B N (5 : Nat)) (N + (5 : Nat)), true)] ∧ true = true ∧ True) := by kernel_rfl

set_option maxHeartbeats 4000000 in
theorem epLox (t0 t1 t2 t3 t4 t5 t6 t7 t8 t9 t10 t11 t12 t13 t14 t15 : List UInt8) (N : Nat) (B : Ix → Int) (c o : Int) (hN : N ≤ 400) (hB : bndB B N = true) (ho : byN o = true) (hs : 256 < N) (h2 : ¬ (241 ≤ c ∧ c ≤ 249)) (hc : ¬ (251 ≤ c ∧ c ≤ 254)) (z2 : tkrS 2 c 0 [] false = []) (n2 : tkrN 2 c 0 [] false = 9) (z3 : tkrS 3 c o [] false = []) (n3 : tkrN 3 c o [] false = 9) (z4 : tkrS 4 0 o (bytesOf B [] 0 N) false = []) (n4 : tkrN 4 0 o (bytesOf B [] 0 N) false = 4)  :
    RunsTo Tryd.prog 6 [.code (bodyOf Tryd.f6)] (envOf [vL 100 1 N, vN c, vN o] Tryd.f6.ntmps) (Sx.look (allS t0 t1 t2 t3 t4 t5 t6 t7 t8 t9 t10 t11 t12 t13 t14 t15 ++ rB 100 N B ++ ([]))) 110 (YES) (Sx.look ([])) 6000 := by
  have hbi : bndB (inG B N 5) N = true := bndB_of fun i hi => by rw [inG_at, if_pos hi]; exact bndB_ok hB hi
  have hlen := bytesOf_len B [] 0 N
  have hall : allEq (inG B N 5) (inG B N 5) (N + 5) = true := allEq_of (fun _ _ => rfl)
  have hk1 : numOf 20 = 9 := rfl
  have hk2 : numOf 21 = 1 := rfl
  have hk3 : numOf 22 = 4 := rfl
  have hdi : dbs N (inG B N 5) = dbs N B := by unfold dbs; rw [bytes_in]
  have hdf : dbl (bytesOf B [] 0 N) = dbs N B := rfl
  have hby := bytesOf_full (dbs N B)
  have hv : IntKind.u8.wrap o = ((u8o o).toNat : Int) := u8o_wr ho
  have hv2 : UInt8.ofNat (IntKind.u8.wrap o).toNat = u8o o := by rw [hv, Int.toNat_natCast, UInt8.ofNat_toNat]
  have ho' := ho
  rw [byN_T] at ho'
  refine bcase (c := (decide (c ≥ (241 : Int)))) (fun gg0 => ?_) (fun gg0 => ?_)
  · refine runs_last baseELo (Sx.Ends.of (epLox_p0 t0 t1 t2 t3 t4 t5 t6 t7 t8 t9 t10 t11 t12 t13 t14 t15 N B c o) ⟨?oo, ?rr⟩) (by kernel_rfl) rfl (gtL (by decide)) (by decide)
    case oo =>
      refine (okc ?_ (okc ?_ (okc ?_ (okc ?_ (okc ?_ (okc ?_ (okc ?_ (okc ?_ (okc gg0 (okc ?_ (okc ?_ (okc ?_ (okc ?_ (okc ?_ (okc ?_ (okc ?_ (okc ?_ (okc ?_ (okc ?_ (okc ?_ (okc ?_ (okc ?_ okn))))))))))))))))))))))
      all_goals first | omega | exact hall | exact hbi | (simp (disch := omega) only [SS, hlen, hk1, hk2, hk3, hdi, hdf, hby, z2, n2, z3, n3, z4, n4]; first | done | omega | exact ⟨by omega, by omega, hbi⟩ | exact ⟨ho, by omega, by omega, hbi⟩ | exact ⟨⟨by omega, by omega⟩, hall⟩) | (simp_all; done) | (simp_all; omega)
    case rr =>
      try simp (disch := omega) only [SS, hlen, hk1, hk2, hk3, hdi, hdf, hby, z2, n2, z3, n3, z4, n4]
      repeat' apply And.intro
      all_goals first | exact True.intro | with_reducible rfl | omega | (intros; first | exact True.intro | with_reducible rfl | omega | (simp_all; done)) | (simp_all; done) | rfl
  · refine bcase (c := (decide (c ≥ (251 : Int)))) (fun gg1 => ?_) (fun gg1 => ?_)
    · refine runs_last baseELo (Sx.Ends.of (epLox_p1 t0 t1 t2 t3 t4 t5 t6 t7 t8 t9 t10 t11 t12 t13 t14 t15 N B c o) ⟨?oo, ?rr⟩) (by kernel_rfl) rfl (gtL (by decide)) (by decide)
      case oo =>
        refine (okc ?_ (okc ?_ (okc ?_ (okc ?_ (okc ?_ (okc ?_ (okc ?_ (okc ?_ (okc gg0 (okc ?_ (okc gg1 (okc ?_ (okc ?_ (okc ?_ (okc ?_ (okc ?_ (okc ?_ (okc ?_ (okc ?_ (okc ?_ (okc ?_ (okc ?_ (okc ?_ okn)))))))))))))))))))))))
        all_goals first | omega | exact hall | exact hbi | (simp (disch := omega) only [SS, hlen, hk1, hk2, hk3, hdi, hdf, hby, z2, n2, z3, n3, z4, n4]; first | done | omega | exact ⟨by omega, by omega, hbi⟩ | exact ⟨ho, by omega, by omega, hbi⟩ | exact ⟨⟨by omega, by omega⟩, hall⟩) | (simp_all; done) | (simp_all; omega)
      case rr =>
        try simp (disch := omega) only [SS, hlen, hk1, hk2, hk3, hdi, hdf, hby, z2, n2, z3, n3, z4, n4]
        repeat' apply And.intro
        all_goals first | exact True.intro | with_reducible rfl | omega | (intros; first | exact True.intro | with_reducible rfl | omega | (simp_all; done)) | (simp_all; done) | rfl
    · refine runs_last baseELo (Sx.Ends.of (epLox_p2 t0 t1 t2 t3 t4 t5 t6 t7 t8 t9 t10 t11 t12 t13 t14 t15 N B c o) ⟨?oo, ?rr⟩) (by kernel_rfl) rfl (gtL (by decide)) (by decide)
      case oo =>
        refine (okc ?_ (okc ?_ (okc ?_ (okc ?_ (okc ?_ (okc ?_ (okc ?_ (okc ?_ (okc gg0 (okc ?_ (okc gg1 (okc ?_ (okc ?_ (okc ?_ (okc ?_ (okc ?_ (okc ?_ (okc ?_ (okc ?_ (okc ?_ (okc ?_ (okc ?_ (okc ?_ (okc ?_ okn))))))))))))))))))))))))
        all_goals first | omega | exact hall | exact hbi | (simp (disch := omega) only [SS, hlen, hk1, hk2, hk3, hdi, hdf, hby, z2, n2, z3, n3, z4, n4]; first | done | omega | exact ⟨by omega, by omega, hbi⟩ | exact ⟨ho, by omega, by omega, hbi⟩ | exact ⟨⟨by omega, by omega⟩, hall⟩) | (simp_all; done) | (simp_all; omega)
      case rr =>
        try simp (disch := omega) only [SS, hlen, hk1, hk2, hk3, hdi, hdf, hby, z2, n2, z3, n3, z4, n4]
        repeat' apply And.intro
        all_goals first | exact True.intro | with_reducible rfl | omega | (intros; first | exact True.intro | with_reducible rfl | omega | (simp_all; done)) | (simp_all; done) | rfl

end Go.Proofs.YtcphocfnhekdaaaDoor

set_option linter.unusedSimpArgs false
set_option linter.unusedVariables false
set_option maxRecDepth 100000
namespace Go.Proofs.YtcphocfnhekdaaaDoor
open Go.Sx GramR

theorem emitParts_law (t0 t1 t2 t3 t4 t5 t6 t7 t8 t9 t10 t11 t12 t13 t14 t15 : List UInt8) (N : Nat) (B : Ix → Int) (c o : Int) (hB : ∀ i, i < N → 0 ≤ B [i] ∧ B [i] < 256) : RunsTo Tryd.prog 6 [.code (bodyOf Tryd.f6)] (envOf [vL 100 1 N, vN c, vN o] Tryd.f6.ntmps) (Sx.look (allS t0 t1 t2 t3 t4 t5 t6 t7 t8 t9 t10 t11 t12 t13 t14 t15 ++ rB 100 N B ++ ([]))) 110 (YES) (Sx.look []) 6000 := by
  by_cases hN : 400 < N
  · exact epLong t0 t1 t2 t3 t4 t5 t6 t7 t8 t9 t10 t11 t12 t13 t14 t15 N B c o hN
  have hN : N ≤ 400 := by omega
  have hB := bndB_of hB
  have hlen := bytesOf_len B [] 0 N
  have hd : [255, 250, u8o o] ++ dbl (bytesOf B [] 0 N) ++ [255, 240] = subL o (dbs N B) := rfl
  have e2p : 241 ≤ c ∧ c ≤ 249 → plR c = .inl [255, u8o c] := fun h => if_pos h
  have e2n : ¬ (241 ≤ c ∧ c ≤ 249) → plR c = .inr 1 := fun h => if_neg h
  have e3n : ¬ (251 ≤ c ∧ c ≤ 254) → vbR c o = .inr 1 := fun h => if_pos h
  have w2 : tkR 2 c 0 [] false = plR c := rfl
  have w3 : tkR 3 c o [] false = vbR c o := rfl
  have w4 : tkR 4 0 o (bytesOf B [] 0 N) false = sbR o (bytesOf B [] 0 N) := by
    show (match sbR o (bytesOf B [] 0 N) with | .inl l => if false = true then Sum.inr 3 else Sum.inl l | .inr e => Sum.inr e) = _
    cases sbR o (bytesOf B [] 0 N) <;> rfl
  have pv : 241 ≤ c ∧ c ≤ 249 → ¬ (251 ≤ c ∧ c ≤ 254) := fun h => by omega
  have vp : 251 ≤ c ∧ c ≤ 254 → ¬ (241 ≤ c ∧ c ≤ 249) := fun h => by omega
  cases ho : byN o with
  | false =>
    have e4 : sbR o (bytesOf B [] 0 N) = .inr 2 := by unfold sbR; rw [if_pos ho]
    have e3 : 251 ≤ c ∧ c ≤ 254 → vbR c o = .inr 2 := fun h => by unfold vbR; rw [if_neg (fun e => e h), if_pos ho]
    by_cases h2 : 241 ≤ c ∧ c ≤ 249
    · exact epRap t0 t1 t2 t3 t4 t5 t6 t7 t8 t9 t10 t11 t12 t13 t14 t15 N B c o hN hB ho h2 (by simp only [tkrS, tkrN, w2, e2p h2]; rfl) (by simp only [tkrS, tkrN, w2, e2p h2]; rfl) (by simp only [tkrS, tkrN, w3, e3n (by omega)]; rfl) (by simp only [tkrS, tkrN, w3, e3n (by omega)]; rfl) (by simp only [tkrS, tkrN, w4, e4]; rfl) (by simp only [tkrS, tkrN, w4, e4]; rfl)
    by_cases h3 : 251 ≤ c ∧ c ≤ 254
    · exact epRav t0 t1 t2 t3 t4 t5 t6 t7 t8 t9 t10 t11 t12 t13 t14 t15 N B c o hN hB ho h3 (by simp only [tkrS, tkrN, w2, e2n (by omega)]; rfl) (by simp only [tkrS, tkrN, w2, e2n (by omega)]; rfl) (by simp only [tkrS, tkrN, w3, e3 h3]; rfl) (by simp only [tkrS, tkrN, w3, e3 h3]; rfl) (by simp only [tkrS, tkrN, w4, e4]; rfl) (by simp only [tkrS, tkrN, w4, e4]; rfl)
    · exact epRax t0 t1 t2 t3 t4 t5 t6 t7 t8 t9 t10 t11 t12 t13 t14 t15 N B c o hN hB ho h2 h3 (by simp only [tkrS, tkrN, w2, e2n (by omega)]; rfl) (by simp only [tkrS, tkrN, w2, e2n (by omega)]; rfl) (by simp only [tkrS, tkrN, w3, e3n h3]; rfl) (by simp only [tkrS, tkrN, w3, e3n h3]; rfl) (by simp only [tkrS, tkrN, w4, e4]; rfl) (by simp only [tkrS, tkrN, w4, e4]; rfl)
  | true =>
    have e3 : 251 ≤ c ∧ c ≤ 254 → vbR c o = .inl [255, u8o c, u8o o] := fun h => by unfold vbR; rw [if_neg (fun e => e h), if_neg (by rw [ho]; decide)]
    by_cases hs : 256 < N
    · have e4 : sbR o (bytesOf B [] 0 N) = .inr 3 := by unfold sbR; rw [if_neg (by rw [ho]; decide), if_pos (by rw [hlen]; exact hs)]
      by_cases h2 : 241 ≤ c ∧ c ≤ 249
      · exact epLop t0 t1 t2 t3 t4 t5 t6 t7 t8 t9 t10 t11 t12 t13 t14 t15 N B c o hN hB ho hs h2 (by simp only [tkrS, tkrN, w2, e2p h2]; rfl) (by simp only [tkrS, tkrN, w2, e2p h2]; rfl) (by simp only [tkrS, tkrN, w3, e3n (by omega)]; rfl) (by simp only [tkrS, tkrN, w3, e3n (by omega)]; rfl) (by simp only [tkrS, tkrN, w4, e4]; rfl) (by simp only [tkrS, tkrN, w4, e4]; rfl)
      by_cases h3 : 251 ≤ c ∧ c ≤ 254
      · exact epLov t0 t1 t2 t3 t4 t5 t6 t7 t8 t9 t10 t11 t12 t13 t14 t15 N B c o hN hB ho hs h3 (by simp only [tkrS, tkrN, w2, e2n (by omega)]; rfl) (by simp only [tkrS, tkrN, w2, e2n (by omega)]; rfl) (by simp only [tkrS, tkrN, w3, e3 h3]; rfl) (by simp only [tkrS, tkrN, w3, e3 h3]; rfl) (by simp only [tkrS, tkrN, w4, e4]; rfl) (by simp only [tkrS, tkrN, w4, e4]; rfl)
      · exact epLox t0 t1 t2 t3 t4 t5 t6 t7 t8 t9 t10 t11 t12 t13 t14 t15 N B c o hN hB ho hs h2 h3 (by simp only [tkrS, tkrN, w2, e2n (by omega)]; rfl) (by simp only [tkrS, tkrN, w2, e2n (by omega)]; rfl) (by simp only [tkrS, tkrN, w3, e3n h3]; rfl) (by simp only [tkrS, tkrN, w3, e3n h3]; rfl) (by simp only [tkrS, tkrN, w4, e4]; rfl) (by simp only [tkrS, tkrN, w4, e4]; rfl)
    · have e4 : sbR o (bytesOf B [] 0 N) = .inl (subL o (dbs N B)) := by unfold sbR; rw [if_neg (by rw [ho]; decide), if_neg (by rw [hlen]; exact hs), hd]
      by_cases h2 : 241 ≤ c ∧ c ≤ 249
      · exact epOkp t0 t1 t2 t3 t4 t5 t6 t7 t8 t9 t10 t11 t12 t13 t14 t15 N B c o hN hB ho (by omega) h2 (by simp only [tkrS, tkrN, w2, e2p h2]; rfl) (by simp only [tkrS, tkrN, w2, e2p h2]; rfl) (by simp only [tkrS, tkrN, w3, e3n (by omega)]; rfl) (by simp only [tkrS, tkrN, w3, e3n (by omega)]; rfl) (by simp only [tkrS, tkrN, w4, e4]; rfl) (by simp only [tkrS, tkrN, w4, e4]; rfl)
      by_cases h3 : 251 ≤ c ∧ c ≤ 254
      · exact epOkv t0 t1 t2 t3 t4 t5 t6 t7 t8 t9 t10 t11 t12 t13 t14 t15 N B c o hN hB ho (by omega) h3 (by simp only [tkrS, tkrN, w2, e2n (by omega)]; rfl) (by simp only [tkrS, tkrN, w2, e2n (by omega)]; rfl) (by simp only [tkrS, tkrN, w3, e3 h3]; rfl) (by simp only [tkrS, tkrN, w3, e3 h3]; rfl) (by simp only [tkrS, tkrN, w4, e4]; rfl) (by simp only [tkrS, tkrN, w4, e4]; rfl)
      · exact epOkx t0 t1 t2 t3 t4 t5 t6 t7 t8 t9 t10 t11 t12 t13 t14 t15 N B c o hN hB ho (by omega) h2 h3 (by simp only [tkrS, tkrN, w2, e2n (by omega)]; rfl) (by simp only [tkrS, tkrN, w2, e2n (by omega)]; rfl) (by simp only [tkrS, tkrN, w3, e3n h3]; rfl) (by simp only [tkrS, tkrN, w3, e3n h3]; rfl) (by simp only [tkrS, tkrN, w4, e4]; rfl) (by simp only [tkrS, tkrN, w4, e4]; rfl)
end Go.Proofs.YtcphocfnhekdaaaDoor

set_option maxRecDepth 100000
set_option linter.unusedSimpArgs false
set_option linter.unusedVariables false
namespace Go.Proofs.YtcphocfnhekdaaaDoor
open Go.ChangeShapes Go.WideShapes Go.ChangeAt Go.RowKit
open Go.Sx

theorem emitParts_sh : shsOf Tryd.prog Tryd.f6.params.toList = some [.sl (.ki .u8), .ki .i64, .ki .i64] := by kernel_rfl

theorem emitParts_star : "*" ++ "errors.errorString" = "*errors.errorString" := by decide
theorem emitParts_row (u : TypeId) (h : Tryd.prog.typeName? 3 u = some "*errors.errorString") : u = 144 :=
  typeName_ptr_named (nm := "errors.errorString") (by rw [emitParts_star]; kernel_rfl) (by kernel_rfl) (by decide) u (by rw [emitParts_star]; exact h)

theorem emitParts_errTy : ErrTy Tryd.prog "*errors.errorString" 26 144 169 9 := errTy_of (by kernel_rfl) emitParts_row (by kernel_rfl) (by kernel_rfl) (by kernel_rfl) (by kernel_rfl) (by kernel_rfl)

theorem emitParts_own : ownKnob Tryd.prog.godebug = none := by kernel_rfl
theorem emitParts_met (os : Os) (args : Array Value) : laidMetH Tryd.prog Rows.emitPartsRow.laid ((World.laidAll Tryd.prog os Rows.emitPartsRow.laid).forCall (fun _ _ => 0) ⟨#[], args, []⟩).memory := by
  rw [MakeChecks.laidMetH_plain _ _ _ (by kernel_rfl)]; exact laidMet_laidAll _ (by kernel_rfl) (by kernel_rfl)
theorem emitParts_plain (w : World) : laidMetH Tryd.prog Rows.emitPartsRow.laid w = laidMet Tryd.prog Rows.emitPartsRow.laid w := MakeChecks.laidMetH_plain _ _ _ (by kernel_rfl)

def emitParts_texts : List (Nat × List UInt8) := [(2, [97, 32, 110, 117, 109, 98, 101, 114, 32, 105, 115, 32, 111, 117, 116, 32, 111, 102, 32, 105, 116, 115, 32, 114, 97, 110, 103, 101]), (5, [116, 104, 101, 114, 101, 32, 105, 115, 32, 110, 111, 32, 109, 111, 114, 101, 32, 114, 111, 111, 109]), (4, [115, 111, 109, 101, 116, 104, 105, 110, 103, 32, 105, 115, 32, 109, 105, 115, 115, 105, 110, 103, 32, 97, 116, 32, 116, 104, 101, 32, 101, 110, 100]), (3, [116, 104, 101, 114, 101, 32, 105, 115, 32, 109, 111, 114, 101, 32, 116, 104, 97, 110, 32, 109, 97, 121, 32, 98, 101]), (0, [105, 116, 32, 105, 115, 32, 110, 111, 116, 32, 111, 102, 32, 105, 116, 115, 32, 102, 111, 114, 109]), (6, [116, 104, 101, 114, 101, 32, 105, 115, 32, 110, 111, 32, 115, 117, 99, 104, 32, 110, 97, 109, 101]), (7, [116, 104, 101, 114, 101, 32, 105, 115, 32, 110, 111, 110, 101]), (8, [105, 116, 32, 105, 115, 32, 116, 104, 101, 114, 101, 32, 97, 108, 114, 101, 97, 100, 121]), (1, [105, 116, 32, 105, 115, 32, 111, 102, 32, 97, 110, 111, 116, 104, 101, 114, 32, 107, 105, 110, 100]), (9, [105, 116, 32, 99, 97, 110, 32, 110, 111, 116, 32, 98, 101, 32, 100, 111, 110, 101, 32, 105, 110, 32, 116, 104, 105, 115, 32, 115, 116, 97, 116, 101]), (10, [105, 116, 32, 103, 111, 101, 115, 32, 116, 111, 111, 32, 100, 101, 101, 112]), (11, [116, 104, 101, 32, 102, 117, 101, 108, 32, 105, 115, 32, 115, 112, 101, 110, 116]), (12, [116, 104, 101, 114, 101, 32, 97, 114, 101, 32, 116, 111, 111, 32, 109, 97, 110, 121, 32, 99, 97, 108, 108, 115, 32, 119, 105, 116, 104, 105, 110, 32, 111, 110, 101, 32, 97, 110, 111, 116, 104, 101, 114]), (13, [105, 116, 32, 105, 115, 32, 99, 108, 111, 115, 101, 100]), (14, [105, 116, 32, 119, 111, 117, 108, 100, 32, 109, 97, 116, 99, 104, 32, 110, 111, 116, 104, 105, 110, 103, 32, 97, 116, 32, 97, 108, 108]), (15, [116, 104, 101, 32, 116, 101, 120, 116, 32, 105, 115, 32, 110, 111, 32, 110, 117, 109, 98, 101, 114])]
theorem emitParts_sent : sentOf Tryd.prog "*errors.errorString" Rows.emitPartsRow.laid = some emitParts_texts := by kernel_rfl

theorem emitParts_readable : ∀ t ∈ Tryd.f6.params.toList, Tryd.prog.readableRec t = true ∧ t < Tryd.prog.types.size := by
  have h : (Tryd.f6.params.toList.all fun t => Tryd.prog.readableRec t && decide (t < Tryd.prog.types.size)) = true := by kernel_rfl
  intro t ht
  have := List.all_eq_true.1 h t ht
  simpa using this

theorem emitParts_wants : ∀ t ∈ Tryd.f6.params.toList, Tryd.prog.wantsStandIn t = false := by
  have h : (Tryd.f6.params.toList.all fun t => !Tryd.prog.wantsStandIn t) = true := by kernel_rfl
  intro t ht
  have := List.all_eq_true.1 h t ht
  simpa using this

theorem emitParts_lifted (os : Os) (started : os.Started) (H : Type) (enc : TypeId × Value → H) :
    ReturnsInHanded {} Tryd.checked os 6 .any (fun w args => (Rows.emitPartsSpec.pre enc Tryd.prog Tryd.f6 [] false w args ∧ laidMetH Tryd.prog Rows.emitPartsRow.laid w) ∧ sizedMet enc Tryd.prog Tryd.f6 (OpenSpec.ofChange Rows.emitPartsSpec) false w args)
      (Rows.emitPartsSpec.post enc Tryd.prog Tryd.f6 false true false false) := by
  refine returnsInHanded_of_change_and (C := Tryd.checked) (X := fun w _ => laidMetH Tryd.prog Rows.emitPartsRow.laid w) (fun _ _ _ hh h => h.of_heap hh) emitParts_own started (by kernel_rfl) Tryd.func6
    (ChangeSpec.witness_shaped (enc := enc) (C := Tryd.checked) (os := os) (X := fun w _ => laidMetH Tryd.prog Rows.emitPartsRow.laid w) false (World.laidAll Tryd.prog os Rows.emitPartsRow.laid) #[.slice none 0 0, .int .i64 0, .int .i64 0] 8 (World.laidAll_os _ _ _) (World.shaped_of_ZipB (by kernel_rfl) (by kernel_rfl)) (by kernel_rfl) (by kernel_rfl) (by kernel_rfl) (emitParts_met os _)) ?_
  intro W base args ds gs before hval hW _ _ hL _
  have hW' := hW
  obtain ⟨p, q, hA, hV, rfl, hfz, hnd⟩ := hW
  obtain ⟨rfl, rfl⟩ := trodVars_none hV
  rw [emitParts_plain] at hL
  obtain ⟨s1, s2, s3⟩ := sents_open emitParts_errTy hL emitParts_sent (by kernel_rfl)
  have hG : Tryd.prog.globals.size = 19 := by kernel_rfl
  rw [hG] at s2 s3
  have g3 : ds.length = 3 := (args_open emitParts_sh hA (fun j t v h1 h2 => hval j t v (by rw [← Array.getElem?_toList]; exact h1) (by rw [← Array.getElem?_toList]; exact h2))).2.2.1
  match ds, g3 with
  | [d1, d2, d3], _ =>
    refine (law_calls Tryd.func6 (body := bodyOf Tryd.f6) (by kernel_rfl) emitParts_sh hA hval (lab := 100) (n := 110) (n' := 6000) (L' := Sx.look []) gtopP s1 s2 (fun e he => ?_) (fun cs hcs hIs => ?_)).mono fun e W' ⟨he, hB⟩ => ⟨_, he, law_post (bt := 4) (by kernel_rfl) emitParts_readable rfl (by kernel_rfl) (by kernel_rfl) hW' rfl hB⟩
    · obtain ⟨a1, a2, a3⟩ := s3 e he
      exact ⟨a1, Nat.lt_of_lt_of_le a2 gtopP, fun l hl => Nat.lt_of_lt_of_le (a3 l hl) gtopP⟩
    · clear hcs
      have hX : ∀ i, i < lenOf (Go.Sx.rd0 cs [] 0) → 0 ≤ Sx.intOf (rdOf W 1 (Go.Sx.rd0 cs) 0 [i] 0) ∧ Sx.intOf (rdOf W 1 (Go.Sx.rd0 cs) 0 [i] 0) < 256 := by
        obtain ⟨a1, r1, e1, l1, he, hrest⟩ := hIs
        have he2 := he
        obtain ⟨v, e4, _⟩ := he2
        rw [e4] at he
        have e5 : Go.Sx.rd0 cs [] 0 = v := by
          show cs.getD 0 undef = v
          rw [e1, e4]
          rfl
        intro i hi
        rw [e5] at hi
        exact sl_u8 he e5 i hi
      refine RunsTo.start (cargs := [.v (.vl 100 (fun _ => 0) 1 [] (fun _ => lenOf (Go.Sx.rd0 cs [] 0))), .v (.vi .i64 fun _ => (Sx.intOf (Go.Sx.rd0 cs [] 1))), .v (.vi .i64 fun _ => (Sx.intOf (Go.Sx.rd0 cs [] 2)))]) ?_ ⟨⟨rfl, rfl⟩, rfl, rfl, trivial⟩
      exact emitParts_law _ _ _ _ _ _ _ _ _ _ _ _ _ _ _ _ (lenOf (Go.Sx.rd0 cs [] 0)) (fun is => Sx.intOf (rdOf W 1 (Go.Sx.rd0 cs) 0 is 0)) (Sx.intOf (Go.Sx.rd0 cs [] 1)) (Sx.intOf (Go.Sx.rd0 cs [] 2)) hX

theorem emitParts_holds : Rows.EmitPartsSaid :=
  OpenClaim.holds_of_wide 6 Tryd.f6 rfl rfl rfl rfl rfl rfl rfl ⟨rfl, rfl, rfl, rfl, rfl⟩ rfl rfl rfl rfl rfl (by kernel_rfl) Tryd.func6 (by kernel_rfl)
    (of_decide_eq_true (by kernel_rfl)) (by unfold Func.isWrapper; first | (rw [if_pos (by decide +kernel)]; kernel_rfl) | (rw [if_neg (by decide +kernel)]; exact ⟨rfl, rfl⟩))
    (fun os started H enc _ => emitParts_lifted os started H enc)

theorem emitParts_card_holds : Rows.EmitPartsCardSaid :=
  Claim7.holds_tied_plain_at .later [] [.data, .sentinel, .sentinel, .sentinel, .sentinel, .sentinel, .sentinel, .sentinel, .sentinel, .sentinel, .sentinel, .sentinel, .sentinel, .sentinel, .sentinel, .sentinel, .sentinel, .pinned] true (true, "f530cd95f545498e1079217162ceacc12c579589fcdd7c478fda70c03005852d") true
    emitParts_holds (fun _ h => by cases h) (by kernel_rfl) (fun _ h => by cases h) emitParts_row_tie rfl ⟨rfl, rfl⟩ (by kernel_rfl) rfl
    (fun f fn hf hfn => by
      obtain rfl : f = 6 := Option.some.inj ((show Tryd.prog.funcNamed "truchman/truchmanlaw06.EmitParts" = some 6 by kernel_rfl).symm.trans hf) |>.symm
      obtain rfl : fn = Tryd.f6 := (Option.some.inj (Tryd.func6.symm.trans hfn)).symm
      exact ⟨by kernel_rfl, fun j t ht => emitParts_wants t (List.mem_of_getElem? (by rw [Array.getElem?_toList]; exact ht))⟩)
    (by kernel_rfl)
end Go.Proofs.YtcphocfnhekdaaaDoor

