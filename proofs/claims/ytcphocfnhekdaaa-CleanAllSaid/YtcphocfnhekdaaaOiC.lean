/- Cleaning: the law CleanAll. -/
import Derived.Test.YtcphocfnhekdaaaOhC
set_option linter.unusedSimpArgs false
set_option linter.unusedVariables false
set_option maxRecDepth 100000
namespace Go.Proofs.Ytcphocfnhekdaaa
open Go.Sx

open CleanR
def cutOf (fn : Func) (k : Nat) : List Item := match dropC k (bodyOf fn) with | .seq a b => [.code a, .code b] | c => [.code c]
theorem bytes_in (B : Ix → Int) (N : Nat) : bytesOf (inG B N 5) [] 0 N = bytesOf B [] 0 N := by
  apply List.ext_getElem?
  intro i
  by_cases h : i < N
  · have e1 := bytesOf_get (B := inG B N 5) (is := []) (st := 0) (n := N) h
    have e2 := bytesOf_get (B := B) (is := []) (st := 0) (n := N) h
    rw [List.getElem?_eq_getElem (by rw [bytesOf_len]; exact h), List.getElem?_eq_getElem (by rw [bytesOf_len]; exact h)]
    rw [List.getD_eq_getElem?_getD, List.getElem?_eq_getElem (by rw [bytesOf_len]; exact h)] at e1 e2
    simp only [Option.getD_some] at e1 e2
    rw [e1, e2]
    simp only [List.nil_append, Nat.zero_add]
    rw [inG_at, if_pos h]
  · rw [List.getElem?_eq_none (by rw [bytesOf_len]; omega), List.getElem?_eq_none (by rw [bytesOf_len]; omega)]
theorem bnd_in {B : Ix → Int} {N : Nat} (h : bndB B N = true) : bndB (inG B N 5) N = true := bndB_of (fun i hi => by rw [inG_at, if_pos hi]; exact bndB_ok h hi)
theorem clean_same (B U : Ix → Int) (N Q : Nat) (raw : Bool) : ((cleanM (fun j => hasM U Q (j : Nat)) (fun _ => raw) M0 false false 0 (bytesOf (inG B N 5) [] 0 N)).map Prod.fst) = ((outA (mq (fun is => hasM U Q ((is.headD 0 : Nat) : Int))) (mq (fun _ => raw)) (toksR ((bytesOf B [] 0 N).length + 1) 0 (bytesOf B [] 0 N)) (toksR ((bytesOf B [] 0 N).length + 1) 0 (bytesOf B [] 0 N)).length).map Prod.fst) := by
  rw [bytes_in]
  have := clean_ok (fun j => hasM U Q (j : Nat)) (fun _ => raw) (bytesOf B [] 0 N)
  rw [this]
  rfl
theorem eqB_self (T : List Tok) (hb : ∀ i, i < T.length → (T.getD i z0).body.length ≤ 1000) : eqB T.length T.length (tK T) (tC T) (tO T) (tM T) (tL T) tU (fL T) (fB T) (tK T) (tC T) (tO T) (tS T) tU = true := by
  refine List.all_eq_true.2 fun i hi => decide_eq_true ?_
  have hi := List.mem_range.1 hi
  refine ⟨rfl, rfl, rfl, fB_body T i hi, rfl, ?_, ?_, hb i hi⟩
  · simp only [tM, List.headD_cons]; omega
  · simp only [tL, fL, tM, List.headD_cons]
    rw [show T.length - 1 - (T.length - 1 - i) = i by omega]
theorem dataT_L (T : List Tok) : ∀ n, dataT T n = dataL (tK T) (tC T) n
  | 0 => rfl
  | n + 1 => by
    have e1 : tK T [n] = ((T.getD n z0).kind : Int) := rfl
    have e2 : tC T [n] = ((T.getD n z0).code : Int) := rfl
    simp only [dataT, dataL, e1, e2, dataT_L T n, Int.toNat_natCast]
    by_cases h : (T.getD n z0).kind = 1
    · rw [if_pos h, if_pos (by omega)]
    · rw [if_neg h, if_neg (by omega)]
theorem cdB_of {T : List Tok} (h : ∀ i, (T.getD i z0).code < 256) : cdB (tK T) (tC T) T.length = true := by
  refine List.all_eq_true.2 fun i _ => decide_eq_true (.inr ?_)
  have e2 : tC T [i] = ((T.getD i z0).code : Int) := rfl
  have := h i
  rw [e2]; omega
def sumsL : List (FuncId × Summ) := [(6, avP.summ 0), (7, byP.summ 0), (8, clP.summ 0), (9, mkP.summ 0), (10, flP.summ 0), (11, sqP.summ 0), (12, alP.summ 0), (13, daP.summ 0), (14, dlP.summ 0), (15, keP.summ 0)]
theorem baseL : Base0 Try.prog sumsL := ((((((((((baseO.cons Try.func15 (by kernel_rfl) (PC.summ_ok keP_pc gtopG)).cons Try.func14 (by kernel_rfl) (PC.summ_ok dlP_pc gtopG)).cons Try.func13 (by kernel_rfl) (PC.summ_ok daP_pc gtopG)).cons Try.func12 (by kernel_rfl) (PC.summ_ok alP_pc gtopG)).cons Try.func11 (by kernel_rfl) (PC.summ_ok sqP_pc gtopG)).cons Try.func10 (by kernel_rfl) (PC.summ_ok flP_pc gtopG)).cons Try.func9 (by kernel_rfl) (PC.summ_ok mkP_pc gtopG)).cons Try.func8 (by kernel_rfl) (PC.summ_ok clP_pc gtopG)).cons Try.func7 (by kernel_rfl) (PC.summ_ok byP_pc gtopG)).cons Try.func6 (by kernel_rfl) (PC.summ_ok avP_pc gtopG))
theorem caLong_p0 (N Q : Nat) (B U : Ix → Int) (raw : Bool) :
    isEnd (evTill Try.prog sumsL 800 (99) 900 3 [.code (bodyOf Try.f3)] (envOf [vL 100 1 N, vL 101 1 Q, vB raw] Try.f3.ntmps) ((rB 100 N B ++ rI 101 Q U) ++ ([])) ⟨[.t, .f, .s false, .s true], 110⟩) (endP ([]) (YES) ([]) 40000) =
    (OkL [(decide ((↑N : Int) > (200 : Int)), false), (decide ((↑Q : Int) > (40 : Int)), true)] ∧ true = true ∧ True) := by kernel_rfl
theorem caLong_p1 (N Q : Nat) (B U : Ix → Int) (raw : Bool) :
    isEnd (evTill Try.prog sumsL 800 (99) 900 3 [.code (bodyOf Try.f3)] (envOf [vL 100 1 N, vL 101 1 Q, vB raw] Try.f3.ntmps) ((rB 100 N B ++ rI 101 Q U) ++ ([])) ⟨[.t, .f, .s true], 110⟩) (endP ([]) (YES) ([]) 40000) =
    (OkL [(decide ((↑N : Int) > (200 : Int)), true)] ∧ true = true ∧ True) := by kernel_rfl

set_option maxHeartbeats 4000000 in
theorem caLong (N Q : Nat) (B U : Ix → Int) (raw : Bool) (h : 200 < N ∨ 40 < Q)  :
    RunsTo Try.prog 3 [.code (bodyOf Try.f3)] (envOf [vL 100 1 N, vL 101 1 Q, vB raw] Try.f3.ntmps) (Sx.look ((rB 100 N B ++ rI 101 Q U) ++ ([]))) 110 (YES) (Sx.look ([])) 40000 := by
  refine bcase (c := (decide ((↑N : Int) > (200 : Int)))) (fun gg0 => ?_) (fun gg0 => ?_)
  · refine runs_last baseL (Sx.Ends.of (caLong_p0 N Q B U raw) ⟨?oo, ?rr⟩) (by kernel_rfl) rfl (gtL (by decide)) (by decide)
    case oo =>
      refine (okc gg0 (okc ?_ okn))
      all_goals ((try simp (disch := omega) only [SS]); first | done | omega | assumption | (simp (disch := omega) only [SS] at *; first | done | omega | assumption) | (simp_all; done))
    case rr =>
      try simp (disch := omega) only [SS]
      repeat' apply And.intro
      all_goals first | exact True.intro | with_reducible rfl | omega | (intros; first | exact True.intro | with_reducible rfl | omega | (simp_all; done)) | (simp_all; done) | rfl
  · refine runs_last baseL (Sx.Ends.of (caLong_p1 N Q B U raw) ⟨?oo, ?rr⟩) (by kernel_rfl) rfl (gtL (by decide)) (by decide)
    case oo =>
      refine (okc gg0 okn)
      all_goals ((try simp (disch := omega) only [SS]); first | done | omega | assumption | (simp (disch := omega) only [SS] at *; first | done | omega | assumption) | (simp_all; done))
    case rr =>
      try simp (disch := omega) only [SS]
      repeat' apply And.intro
      all_goals first | exact True.intro | with_reducible rfl | omega | (intros; first | exact True.intro | with_reducible rfl | omega | (simp_all; done)) | (simp_all; done) | rfl

theorem caA_p0 (N Q : Nat) (B U : Ix → Int) (raw : Bool) (T : List Tok) :
    isMore (evTill Try.prog sumsL 800 (atRest Try.f3 5) 900 3 [.code (bodyOf Try.f3)] (envOf [vL 100 1 N, vL 101 1 Q, vB raw] Try.f3.ntmps) ((rB 100 N B ++ rI 101 Q U) ++ ([])) ⟨[.t, .f, .s false, .s false, .s true, .s true, .s true, .s true, .s true, .s true, .s true, .s true, .s true], 110⟩) (moreP (cutOf Try.f3 5) ([((120 : Nat), Rn.to (571 : Nat)), ((121 : Nat), Rn.to (812 : Nat))]) Try.f3.ntmps ([(0, vL 100 1 N), (1, vL 101 1 Q), (2, vB raw), (7, vL 120 1 N), (8, vL 121 5 T.length)]) ([⟨120, true, none, 1, .ta (N + 5) (.vi .u8 (inG B N 5))⟩] ++ dE 121 T) 40000) =
    (OkL [(decide ((↑N : Int) > (200 : Int)), false), (decide ((↑Q : Int) > (40 : Int)), false), (N.beq N, true), (decide (N ≤ (1000 : Nat)), true), (((0 : Nat) + N).ble N, true), (Q.beq Q, true), (decide ((0 : Int) ≤ (↑N : Int)) && decide (Q ≤ (1000 : Nat) ∧ (↑N : Int).toNat ≤ (1000 : Nat)), true), (decide ((0 : Int) ≤ (↑N : Int)) && decide ((↑N : Int).toNat ≤ (1000 : Nat)), true), ((↑N : Int).toNat.beq (↑N : Int).toNat, true), ((↑N : Int).toNat.beq (↑N : Int).toNat, true), (decide ((bytesOf B [] (0 : Nat) N).length ≤ (200 : Nat) ∧ (bytesOf B [] (0 : Nat) N).length ≤ (↑N : Int).toNat ∧ (bytesOf B [] (0 : Nat) N).length ≤ (↑N : Int).toNat), true)] ∧ cutOf Try.f3 (5 : Nat) = cutOf Try.f3 (5 : Nat) ∧ (((0 : Nat) = (0 : Nat) ∧ N = N) ∧ ((0 : Nat) = (0 : Nat) ∧ Q = Q) ∧ raw = raw ∧ ((0 : Nat) = (0 : Nat) ∧ N = N) ∧ (0 : Nat) = (0 : Nat) ∧ T.length = (clT (bytesOf B [] (0 : Nat) N) (fun is => hasM U Q (↑(List.headD is (0 : Nat)) : Int)) fun x => raw).length) ∧ (N + (5 : Nat) = N + (5 : Nat) ∧ ∀ (i : Nat), i < N + (5 : Nat) → inG B N (5 : Nat) [i] = inG B N (5 : Nat) [i]) ∧ T.length = (clT (bytesOf B [] (0 : Nat) N) (fun is => hasM U Q (↑(List.headD is (0 : Nat)) : Int)) fun x => raw).length ∧ (∀ (i : Nat), i < T.length → tK T [i] = tK (clT (bytesOf B [] (0 : Nat) N) (fun is => hasM U Q (↑(List.headD is (0 : Nat)) : Int)) fun x => raw) [i]) ∧ (∀ (i : Nat), i < T.length → tC T [i] = tC (clT (bytesOf B [] (0 : Nat) N) (fun is => hasM U Q (↑(List.headD is (0 : Nat)) : Int)) fun x => raw) [i]) ∧ (∀ (i : Nat), i < T.length → tO T [i] = tO (clT (bytesOf B [] (0 : Nat) N) (fun is => hasM U Q (↑(List.headD is (0 : Nat)) : Int)) fun x => raw) [i]) ∧ (∀ (i : Nat), i < T.length → tS T [i] = tS (clT (bytesOf B [] (0 : Nat) N) (fun is => hasM U Q (↑(List.headD is (0 : Nat)) : Int)) fun x => raw) [i]) ∧ ∀ (i : Nat), i < T.length → tU [i] = tU [i]) := by kernel_rfl

set_option maxHeartbeats 4000000 in
theorem caA (N Q : Nat) (B U : Ix → Int) (raw : Bool) (T : List Tok) (hN : N ≤ 200) (hQ : Q ≤ 40) (hTd : clT (bytesOf B [] 0 N) (fun is => hasM U Q ((is.headD 0 : Nat) : Int)) (fun _ => raw) = T) (hTl : T.length ≤ 200)  (next : RunsTo Try.prog 3 (cutOf Try.f3 5) (envAt Try.f3.ntmps ([(0, vL 100 1 N), (1, vL 101 1 Q), (2, vB raw), (7, vL 120 1 N), (8, vL 121 5 T.length)])) (Sx.look ((rB 100 N B ++ rI 101 Q U) ++ ([⟨120, true, none, 1, .ta (N + 5) (.vi .u8 (inG B N 5))⟩] ++ dE 121 T))) 110 (YES) (Sx.look []) 40000) :
    RunsTo Try.prog 3 [.code (bodyOf Try.f3)] (envOf [vL 100 1 N, vL 101 1 Q, vB raw] Try.f3.ntmps) (Sx.look ((rB 100 N B ++ rI 101 Q U) ++ ([]))) 110 (YES) (Sx.look []) 40000 := by
  have hlen := bytesOf_len B [] 0 N
  have hn : ((N : Int)).toNat = N := Int.toNat_natCast N
  refine runs_more baseL (More.of (caA_p0 N Q B U raw T) ⟨?oo, rfl, ?rr⟩) (by kernel_rfl) (by kernel_rfl) rfl (gtL (by decide)) (by decide) next
  case oo =>
    clear next
    refine (okc ?_ (okc ?_ (okc ?_ (okc ?_ (okc ?_ (okc ?_ (okc ?_ (okc ?_ (okc ?_ (okc ?_ (okc ?_ okn)))))))))))
    all_goals first | omega | (simp (disch := omega) only [SS, hn, hlen, hTd]; first | done | omega) | (simp only [SS, hn, hlen, hTd]; simp; omega) | (simp_all; done) | (simp_all; omega)
  case rr =>
    clear next
    try simp (disch := omega) only [SS, hn, hlen, hTd]
    repeat' apply And.intro
    all_goals first | exact True.intro | with_reducible rfl | omega | (intros; first | exact True.intro | with_reducible rfl | omega | (simp_all; done)) | (simp_all; done) | rfl

theorem caB_p0 (N Q : Nat) (B U : Ix → Int) (raw : Bool) (T : List Tok) :
    isEnd (evTill Try.prog sumsL 800 (99) 900 3 (cutOf Try.f3 5) (envAt Try.f3.ntmps ([(0, vL 100 1 N), (1, vL 101 1 Q), (2, vB raw), (7, vL 120 1 N), (8, vL 121 5 T.length)])) ((rB 100 N B ++ rI 101 Q U) ++ ([⟨120, true, none, 1, .ta (N + 5) (.vi .u8 (inG B N 5))⟩] ++ dE 121 T)) ⟨[.s true, .s true, .s true, .s true, .s true, .t, .s true, .s true, .s true, .s true, .s true, .s true, .s true, .s true, .s true], 130⟩) (endP ([]) (YES) ([]) 40000) =
    (OkL [(Q.beq Q, true), (decide (N ≤ (200 : Nat)) && decide (Q ≤ (100 : Nat)) && (decide (N ≤ N + (5 : Nat)) && bndB (inG B N (5 : Nat)) N), true), (T.length.beq T.length, true), ((alF N Q (inG B N (5 : Nat)) U raw).length.beq (alF N Q (inG B N (5 : Nat)) U raw).length, true), (decide ((alF N Q (inG B N (5 : Nat)) U raw).length = T.length) && decide ((alF N Q (inG B N (5 : Nat)) U raw).length ≤ (1000 : Nat)) && eqB (alF N Q (inG B N (5 : Nat)) U raw).length (alF N Q (inG B N (5 : Nat)) U raw).length (tK (alF N Q (inG B N (5 : Nat)) U raw)) (tC (alF N Q (inG B N (5 : Nat)) U raw)) (tO (alF N Q (inG B N (5 : Nat)) U raw)) (tM (alF N Q (inG B N (5 : Nat)) U raw)) (tL (alF N Q (inG B N (5 : Nat)) U raw)) tU (fL (alF N Q (inG B N (5 : Nat)) U raw)) (fB (alF N Q (inG B N (5 : Nat)) U raw)) (tK T) (tC T) (tO T) (tS T) tU, true), (Q.beq Q, true), (decide (N ≤ (200 : Nat)) && decide (Q ≤ (100 : Nat)) && (decide (N ≤ N + (5 : Nat)) && bndB (inG B N (5 : Nat)) N), true), (((0 : Nat) + (daF N Q (inG B N (5 : Nat)) U raw).length).ble (daF N Q (inG B N (5 : Nat)) U raw).length, true), (T.length.beq T.length, true), (decide (T.length ≤ (1000 : Nat)) && cdB (tK T) (tC T) T.length, true), (bytesOf (fun is => (↑((daF N Q (inG B N (5 : Nat)) U raw).getD (List.headD is (0 : Nat)) (0 : UInt8)).toNat : Int)) [] (0 : Nat) (daF N Q (inG B N (5 : Nat)) U raw).length == dataL (tK T) (tC T) T.length, true), (N.beq N, true), (N.beq N, true), (decide (N ≤ (1000 : Nat)) && decide (N + (5 : Nat) ≤ N + (5 : Nat)) && allEq (inG B N (5 : Nat)) (inG B N (5 : Nat)) (N + (5 : Nat)), true)] ∧ true = true ∧ True) := by kernel_rfl

set_option maxHeartbeats 4000000 in
theorem caB (N Q : Nat) (B U : Ix → Int) (raw : Bool) (T : List Tok) (hN : N ≤ 200) (hQ : Q ≤ 40) (hB : bndB B N = true) (hT : alF N Q (inG B N 5) U raw = T) (hTl : T.length ≤ 200) (hco : ∀ i, (T.getD i z0).code < 256) (hbo : ∀ i, (T.getD i z0).body.length ≤ 1000)  :
    RunsTo Try.prog 3 (cutOf Try.f3 5) (envAt Try.f3.ntmps ([(0, vL 100 1 N), (1, vL 101 1 Q), (2, vB raw), (7, vL 120 1 N), (8, vL 121 5 T.length)])) (Sx.look ((rB 100 N B ++ rI 101 Q U) ++ ([⟨120, true, none, 1, .ta (N + 5) (.vi .u8 (inG B N 5))⟩] ++ dE 121 T))) 110 (YES) (Sx.look ([])) 40000 := by
  have hbi := bnd_in hB
  have hlen := bytesOf_len B [] 0 N
  have hdl := dataT_L T T.length
  have hda : daF N Q (inG B N 5) U raw = dataT T T.length := by unfold daF; rw [hT]
  have hq := eqB_self T (fun i _ => hbo i)
  have hcd := cdB_of hco
  have hn : ((N : Int)).toNat = N := Int.toNat_natCast N
  have hall : allEq (inG B N 5) (inG B N 5) (N + 5) = true := allEq_of (fun _ _ => rfl)
  have hby := bytesOf_full (dataL (tK T) (tC T) T.length)
  refine runs_last baseL (Sx.Ends.of (caB_p0 N Q B U raw T) ⟨?oo, ?rr⟩) (by kernel_rfl) rfl (gtL (by decide)) (by decide)
  case oo =>
    refine (okc ?_ (okc ?_ (okc ?_ (okc ?_ (okc ?_ (okc ?_ (okc ?_ (okc ?_ (okc ?_ (okc ?_ (okc ?_ (okc ?_ (okc ?_ (okc ?_ okn))))))))))))))
    all_goals first | omega | (simp (disch := omega) only [SS, hT, hda, hdl, hq, hcd, hn, hlen, hall, hbi, hby]; first | done | omega) | (simp only [SS, hT, hda, hdl, hq, hcd, hn, hlen, hall, hbi, hby]; simp; omega) | (simp_all; done) | (simp_all; omega)
  case rr =>
    refine ⟨?_, ?_⟩ <;> first | exact True.intro | (simp (disch := omega) only [SS, hT, hda, hdl, hq, hcd, hn, hlen, hall, hbi, hby]; done) | (simp_all; done) | rfl

theorem cleanAll_law (N Q : Nat) (B U : Ix → Int) (raw : Bool) (hB : ∀ i, i < N → 0 ≤ B [i] ∧ B [i] < 256) : RunsTo Try.prog 3 [.code (bodyOf Try.f3)] (envOf [vL 100 1 N, vL 101 1 Q, vB raw] Try.f3.ntmps) (Sx.look ((rB 100 N B ++ rI 101 Q U) ++ ([]))) 110 (YES) (Sx.look []) 40000 := by
  by_cases h : 200 < N ∨ 40 < Q
  · exact caLong N Q B U raw h
  · have hs : alF N Q (inG B N 5) U raw = clT (bytesOf B [] 0 N) (fun is => hasM U Q ((is.headD 0 : Nat) : Int)) (fun _ => raw) := clean_same B U N Q raw
    have hc := clean_code (fun j => hasM U Q (j : Nat)) (fun _ => raw) (bytesOf (inG B N 5) [] 0 N) M0 false false 0 (by simp [M0])
    have hb := clean_body (fun j => hasM U Q (j : Nat)) (fun _ => raw) (bytesOf (inG B N 5) [] 0 N) M0 false false 0 200 (by simp [M0, bytesOf_len]; omega)
    have hl := clean_len (fun j => hasM U Q (j : Nat)) (fun _ => raw) (bytesOf (inG B N 5) [] 0 N) M0 false false 0
    rw [bytesOf_len] at hl
    have hl2 : (alF N Q (inG B N 5) U raw).length ≤ 200 := by unfold alF; rw [List.length_map]; omega
    have hc2 : ∀ i, ((alF N Q (inG B N 5) U raw).getD i z0).code < 256 := fun i => getD_code hc i
    have hb2 : ∀ i, ((alF N Q (inG B N 5) U raw).getD i z0).body.length ≤ 1000 := fun i => Nat.le_trans (getD_body hb i) (by omega)
    exact caA N Q B U raw _ (by omega) (by omega) hs.symm hl2 (caB N Q B U raw _ (by omega) (by omega) (bndB_of hB) rfl hl2 hc2 hb2)
end Go.Proofs.Ytcphocfnhekdaaa
