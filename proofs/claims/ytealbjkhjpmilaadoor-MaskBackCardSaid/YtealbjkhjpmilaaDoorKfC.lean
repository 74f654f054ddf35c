/- Masks: back again, the law. -/
import Derived.Test.YtealbjkhjpmilaaDoorKeC
set_option linter.unusedSimpArgs false
set_option linter.unusedVariables false
set_option maxRecDepth 100000
namespace Go.Proofs.YtealbjkhjpmilaaDoor
open Go.Sx

def sumsK : List (FuncId × Summ) := [(23, aliP.summ 50), (24, ofP.summ 50), (28, hasP.summ 50), (29, bytesP.summ 50), (39, bodyDoP.summ 50), (40, parseOkP.summ 50)]
theorem baseK : Base0 Tryd.prog sumsK := ((((((baseO.cons Tryd.func40 (by kernel_rfl) (PC.summ_ok parseOkP_pc gtopG)).cons Tryd.func39 (by kernel_rfl) (PC.summ_ok bodyDoP_pc gtopG)).cons Tryd.func29 (by kernel_rfl) (PC.summ_ok bytesP_pc gtopG)).cons Tryd.func28 (by kernel_rfl) (PC.summ_ok hasP_pc gtopG)).cons Tryd.func24 (by kernel_rfl) (PC.summ_ok ofP_pc gtopG)).cons Tryd.func23 (by kernel_rfl) (PC.summ_ok ali_pc gtopG))
theorem mkLong_p0 (t0 t1 t2 : List UInt8) (N : Nat) (B F : Ix → Int) (c : Int) :
    isEnd (evTill Tryd.prog sumsK 300 (99) 900 7 [.code (bodyOf Tryd.f7)] (envOf [vL 100 1 N, .agg (arrT F), vU c] Tryd.f7.ntmps) (XB t0 t1 t2 N B ++ ([])) ⟨[.t, .f, .s true], 110⟩) (endP ([]) (YES) ([]) 900) =
    (OkL [(decide ((↑N : Int) > (300 : Int)), true)] ∧ true = true ∧ True) := by kernel_rfl

set_option maxHeartbeats 4000000 in
theorem mkLong (t0 t1 t2 : List UInt8) (N : Nat) (B F : Ix → Int) (c : Int) (hN : 300 < N) :
    RunsTo Tryd.prog 7 [.code (bodyOf Tryd.f7)] (envOf [vL 100 1 N, .agg (arrT F), vU c] Tryd.f7.ntmps) (Sx.look (XB t0 t1 t2 N B ++ ([]))) 110 (YES) (Sx.look ([])) 900 := by
  refine runs_last baseK (Sx.Ends.of (mkLong_p0 t0 t1 t2 N B F c) ⟨?oo, ?rr⟩) (by kernel_rfl) rfl (gtL (by decide)) (by decide)
  case oo =>
    refine (okc ?_ okn)
    all_goals ((try simp (disch := omega) only [SS]); first | done | omega | assumption | (simp (disch := omega) only [SS] at *; first | done | omega | assumption) | (simp_all; done) | grind)
  case rr =>
    try simp (disch := omega) only [SS]
    repeat' apply And.intro
    all_goals first | exact True.intro | with_reducible rfl | omega | (intros; first | exact True.intro | with_reducible rfl | omega | (simp_all; done)) | (simp_all; done) | rfl

theorem back_all {F : Ix → Int} (hF : ∀ i, i < 32 → 0 ≤ F [i] ∧ F [i] < 256) (l : List UInt8) (hl : l = [253, 2] ++ bytesOf F [] 0 (cutN F 0 32)) :
    allEq (parF l.length (fun is => ((l.getD (is.headD 0) 0).toNat : Int))) F 32 = true ∧ (2 ≤ l.length ∧ l.length ≤ 34) ∧ ((l.getD 0 0).toNat : Int) = 253 ∧ ((l.getD 1 0).toNat : Int) = 2 ∧ l.length ≤ 1000 := by
  have hcu : cutN F 0 32 ≤ 32 := cutN_le _ _ _
  have hlen : l.length = 2 + cutN F 0 32 := by rw [hl]; simp [bytesOf_len]; omega
  refine ⟨allEq_of fun i hi => ?_, by omega, by rw [hl]; rfl, by rw [hl]; rfl, by omega⟩
  simp only [parF, List.headD_cons, hlen]
  by_cases h : i + 2 < 2 + cutN F 0 32
  · rw [if_pos h]
    have e : l.getD (i + 2) 0 = (bytesOf F [] 0 (cutN F 0 32)).getD i 0 := by rw [hl]; rfl
    rw [e]
    have := bytesOf_nat (B := F) (is := []) (st := 0) (n := cutN F 0 32) (k := i) (by omega) (by simpa using hF i hi)
    simpa using this
  · rw [if_neg h]
    exact (cut_zero F 32 i (by omega) hi).symm
theorem of_back {F : Ix → Int} (hF : ∀ i, i < 32 → 0 ≤ F [i] ∧ F [i] < 256) (l : List UInt8) (hl : l = bytesM F 256) :
    allEq (fN (ofN (fun is => ((l.getD (is.headD 0) 0).toNat : Int)) l.length)) F 32 = true := by
  refine allEq_of fun i hi => ?_
  simp only [fN, List.headD_cons]
  rw [of_val _ _ (fun i _ => u8nat _), bytesOf_full, hl]
  exact bytes_back hF i hi
theorem mkStart_p0 (t0 t1 t2 : List UInt8) (N : Nat) (B F : Ix → Int) (c : Int) :
    isMore (evTill Tryd.prog sumsK 300 (behind Tryd.f7 0) 900 7 [.code (bodyOf Tryd.f7)] (envOf [vL 100 1 N, .agg (arrT F), vU c] Tryd.f7.ntmps) (XB t0 t1 t2 N B ++ ([])) ⟨[.t, .f, .s false, .s true, .s true, .s true, .f, .f, .s false, .t, .s true, .s true, .s false], 110⟩) (moreP (headOf Tryd.f7 0) ([]) Tryd.f7.ntmps ([(0, vL 100 1 N), (2, vU c), (12, vB false), (49, vL 100 1 N), (50, vN N), (51, vN 0)]) ([]) 900) =
    (OkL [(decide ((↑N : Int) > (300 : Int)), false), (decide ((253 : Int) = (253 : Int)) && bndB (fun js => F js) (32 : Nat), true), (([(253 : UInt8), (2 : UInt8)] ++ bytesOf (fun js => F js) [] (0 : Nat) (cutN (fun js => F js) (0 : Int) (32 : Nat))).length.beq ([(253 : UInt8), (2 : UInt8)] ++ bytesOf (fun js => F js) [] (0 : Nat) (cutN (fun js => F js) (0 : Int) (32 : Nat))).length, true), (decide (((2 : Nat) ≤ ([(253 : UInt8), (2 : UInt8)] ++ bytesOf (fun js => F js) [] (0 : Nat) (cutN (fun js => F js) (0 : Int) (32 : Nat))).length ∧ ([(253 : UInt8), (2 : UInt8)] ++ bytesOf (fun js => F js) [] (0 : Nat) (cutN (fun js => F js) (0 : Int) (32 : Nat))).length ≤ (34 : Nat)) ∧ ((251 : Int) ≤ (↑(([(253 : UInt8), (2 : UInt8)] ++ bytesOf (fun js => F js) [] (0 : Nat) (cutN (fun js => F js) (0 : Int) (32 : Nat))).getD (0 : Nat) (0 : UInt8)).toNat : Int) ∧ (↑(([(253 : UInt8), (2 : UInt8)] ++ bytesOf (fun js => F js) [] (0 : Nat) (cutN (fun js => F js) (0 : Int) (32 : Nat))).getD (0 : Nat) (0 : UInt8)).toNat : Int) ≤ (254 : Int)) ∧ (↑(([(253 : UInt8), (2 : UInt8)] ++ bytesOf (fun js => F js) [] (0 : Nat) (cutN (fun js => F js) (0 : Int) (32 : Nat))).getD (1 : Nat) (0 : UInt8)).toNat : Int) = (2 : Int) ∧ (([(253 : UInt8), (2 : UInt8)] ++ bytesOf (fun js => F js) [] (0 : Nat) (cutN (fun js => F js) (0 : Int) (32 : Nat))).length = (2 : Nat) ∨ (↑(([(253 : UInt8), (2 : UInt8)] ++ bytesOf (fun js => F js) [] (0 : Nat) (cutN (fun js => F js) (0 : Int) (32 : Nat))).getD (0 : Nat) (0 : UInt8)).toNat : Int) = (253 : Int))), true), (!allEq (fun js => parF ([(253 : UInt8), (2 : UInt8)] ++ bytesOf (fun js => F js) [] (0 : Nat) (cutN (fun js => F js) (0 : Int) (32 : Nat))).length (fun is => (↑(([(253 : UInt8), (2 : UInt8)] ++ bytesOf (fun js => F js) [] (0 : Nat) (cutN (fun js => F js) (0 : Int) (32 : Nat))).getD (List.headD is (0 : Nat)) (0 : UInt8)).toNat : Int)) js) (fun js => F js) (32 : Nat), false), ((bytesM (fun js => F js) (256 : Nat)).length.beq (bytesM (fun js => F js) (256 : Nat)).length, true), (decide ((bytesM (fun js => F js) (256 : Nat)).length ≤ (1000000 : Nat)) && bndB (fun is => (↑((bytesM (fun js => F js) (256 : Nat)).getD (List.headD is (0 : Nat)) (0 : UInt8)).toNat : Int)) (bytesM (fun js => F js) (256 : Nat)).length, true), (!allEq (fN (ofN (fun is => (↑((bytesM (fun js => F js) (256 : Nat)).getD (List.headD is (0 : Nat)) (0 : UInt8)).toNat : Int)) (bytesM (fun js => F js) (256 : Nat)).length)) (fun js => F js) (32 : Nat), false)] ∧ headOf Tryd.f7 (0 : Nat) = headOf Tryd.f7 (0 : Nat) ∧ (((0 : Nat) = (0 : Nat) ∧ N = N) ∧ c = c ∧ false = false ∧ ((0 : Nat) = (0 : Nat) ∧ N = N) ∧ (↑N : Int) = (↑N : Int) ∧ (0 : Int) = (0 : Int)) ∧ True) := by kernel_rfl

set_option maxHeartbeats 4000000 in
theorem mkStart (t0 t1 t2 : List UInt8) (N : Nat) (B F : Ix → Int) (c : Int) (hN : N ≤ 300) (hB : ∀ i, i < N → 0 ≤ B [i] ∧ B [i] < 256) (hF : ∀ i, i < 32 → 0 ≤ F [i] ∧ F [i] < 256) (hc : 0 ≤ c ∧ c < 256)  (next : RunsTo Tryd.prog 7 (headOf Tryd.f7 0) (envAt Tryd.f7.ntmps ([(0, vL 100 1 N), (2, vU c), (12, vB false), (49, vL 100 1 N), (50, vN N), (51, vN 0)])) (Sx.look (XB t0 t1 t2 N B ++ ([]))) 110 (YES) (Sx.look []) 900) :
    RunsTo Tryd.prog 7 [.code (bodyOf Tryd.f7)] (envOf [vL 100 1 N, .agg (arrT F), vU c] Tryd.f7.ntmps) (Sx.look (XB t0 t1 t2 N B ++ ([]))) 110 (YES) (Sx.look []) 900 := by
  obtain ⟨b1, b2, b3, b4, b5⟩ := back_all hF _ rfl
  have bo := of_back hF _ rfl
  have hbl := bytesM_len F 256
  have hbs := fun (l : List UInt8) (n : Nat) => bndB_str l n
  have hF2 := bndB_of hF
  refine runs_more baseK (More.of (mkStart_p0 t0 t1 t2 N B F c) ⟨?oo, rfl, ?rr⟩) (by kernel_rfl) (by kernel_rfl) rfl (gtL (by decide)) (by decide) next
  case oo =>
    clear next
    refine (okc ?_ (okc ?_ (okc ?_ (okc ?_ (okc ?_ (okc ?_ (okc ?_ (okc ?_ okn))))))))
    all_goals (try generalize [253, 2] ++ bytesOf F [] 0 (cutN F 0 32) = q at *)
    all_goals (try generalize bytesM F 256 = p at *)
    all_goals first | exact b1 | exact bo | (simp (disch := omega) only [SS, b3, b4, hF2, hbs]; first | done | omega) | (simp [hF2]; done) | (rw [hbs, Bool.and_true]; simp; omega) | (simp only [decide_eq_true_eq]; exact ⟨b2, by omega, b4, .inr b3⟩)
  case rr =>
    clear next
    try simp (disch := omega) only [SS, b1, b3, b4, bo, hF2, hbs]
    repeat' apply And.intro
    all_goals first | exact True.intro | with_reducible rfl | omega | (intros; first | exact True.intro | with_reducible rfl | omega | (simp_all; done)) | (simp_all; done) | rfl

theorem mkHit_p0 (t0 t1 t2 : List UInt8) (N : Nat) (B F : Ix → Int) (c : Int) (q : Bool) (i : Nat) :
    isMore (evTill Tryd.prog sumsK 300 (behind Tryd.f7 0) 900 7 (headOf Tryd.f7 0) (envAt Tryd.f7.ntmps ([(0, vL 100 1 N), (2, vU c), (12, vB true), (49, vL 100 1 N), (50, vN N), (51, vN i)])) (XB t0 t1 t2 N B ++ ([])) ⟨[.s true, .s true, .s true, .s true, .t], 140⟩) (moreP (headOf Tryd.f7 0) ([]) Tryd.f7.ntmps ([(0, vL 100 1 N), (2, vU c), (12, vB true), (49, vL 100 1 N), (50, vN N), (51, vN (i + 1))]) ([]) 900) =
    (OkL [(decide ((↑i : Int) < (↑N : Int)), true), (decide ((0 : Int) ≤ (↑i : Int) ∧ (↑i : Int) < (↑N : Int)), true), (((0 : Nat) + (↑i : Int).toNat).blt N, true), (((0 : Nat) + (↑i : Int).toNat).blt N, true)] ∧ headOf Tryd.f7 (0 : Nat) = headOf Tryd.f7 (0 : Nat) ∧ (((0 : Nat) = (0 : Nat) ∧ N = N) ∧ c = c ∧ true = true ∧ ((0 : Nat) = (0 : Nat) ∧ N = N) ∧ (↑N : Int) = (↑N : Int) ∧ (↑i : Int) + (1 : Int) = IntKind.i64.wrap ((↑i : Int) + (1 : Int))) ∧ True) := by kernel_rfl

set_option maxHeartbeats 4000000 in
theorem mkHit (t0 t1 t2 : List UInt8) (N : Nat) (B F : Ix → Int) (c : Int) (q : Bool) (i : Nat) (hi : i < N) (hN : N ≤ 300) (next : RunsTo Tryd.prog 7 (headOf Tryd.f7 0) (envAt Tryd.f7.ntmps ([(0, vL 100 1 N), (2, vU c), (12, vB true), (49, vL 100 1 N), (50, vN N), (51, vN (i + 1))])) (Sx.look (XB t0 t1 t2 N B ++ ([]))) 110 (YES) (Sx.look []) 900) :
    RunsTo Tryd.prog 7 (headOf Tryd.f7 0) (envAt Tryd.f7.ntmps ([(0, vL 100 1 N), (2, vU c), (12, vB true), (49, vL 100 1 N), (50, vN N), (51, vN i)])) (Sx.look (XB t0 t1 t2 N B ++ ([]))) 110 (YES) (Sx.look []) 900 := by
  have wi : IntKind.i64.wrap ((i : Int) + 1) = ((i + 1 : Nat) : Int) := wr1 (by omega)
  refine runs_more baseK (More.of (mkHit_p0 t0 t1 t2 N B F c q i) ⟨?oo, rfl, ?rr⟩) (by kernel_rfl) (by kernel_rfl) rfl (gtL (by decide)) (by decide) next
  case oo =>
    clear next
    refine (okc ?_ (okc ?_ (okc ?_ (okc ?_ okn))))
    all_goals ((try simp (disch := omega) only [SS, wi]); first | done | omega | assumption | (simp (disch := omega) only [SS, wi] at *; first | done | omega | assumption) | (simp_all; done) | grind)
  case rr =>
    clear next
    try simp (disch := omega) only [SS, wi]
    repeat' apply And.intro
    all_goals first | exact True.intro | with_reducible rfl | omega | (intros; first | exact True.intro | with_reducible rfl | omega | (simp_all; done)) | (simp_all; done) | rfl

theorem mkEq_p0 (t0 t1 t2 : List UInt8) (N : Nat) (B F : Ix → Int) (c : Int) (q : Bool) (i : Nat) :
    isMore (evTill Tryd.prog sumsK 300 (behind Tryd.f7 0) 900 7 (headOf Tryd.f7 0) (envAt Tryd.f7.ntmps ([(0, vL 100 1 N), (2, vU c), (12, vB false), (49, vL 100 1 N), (50, vN N), (51, vN i)])) (XB t0 t1 t2 N B ++ ([])) ⟨[.s true, .s true, .s true, .s true, .f], 140⟩) (moreP (headOf Tryd.f7 0) ([]) Tryd.f7.ntmps ([(0, vL 100 1 N), (2, vU c), (12, vB true), (49, vL 100 1 N), (50, vN N), (51, vN (i + 1))]) ([]) 900) =
    (OkL [(decide ((↑i : Int) < (↑N : Int)), true), (decide ((0 : Int) ≤ (↑i : Int) ∧ (↑i : Int) < (↑N : Int)), true), (((0 : Nat) + (↑i : Int).toNat).blt N, true), (((0 : Nat) + (↑i : Int).toNat).blt N, true)] ∧ headOf Tryd.f7 (0 : Nat) = headOf Tryd.f7 (0 : Nat) ∧ (((0 : Nat) = (0 : Nat) ∧ N = N) ∧ c = c ∧ true = (B [(0 : Nat) + (↑i : Int).toNat] == c) ∧ ((0 : Nat) = (0 : Nat) ∧ N = N) ∧ (↑N : Int) = (↑N : Int) ∧ (↑i : Int) + (1 : Int) = IntKind.i64.wrap ((↑i : Int) + (1 : Int))) ∧ True) := by kernel_rfl

set_option maxHeartbeats 4000000 in
theorem mkEq (t0 t1 t2 : List UInt8) (N : Nat) (B F : Ix → Int) (c : Int) (q : Bool) (i : Nat) (hi : i < N) (hN : N ≤ 300) (he : B [i] = c) (next : RunsTo Tryd.prog 7 (headOf Tryd.f7 0) (envAt Tryd.f7.ntmps ([(0, vL 100 1 N), (2, vU c), (12, vB true), (49, vL 100 1 N), (50, vN N), (51, vN (i + 1))])) (Sx.look (XB t0 t1 t2 N B ++ ([]))) 110 (YES) (Sx.look []) 900) :
    RunsTo Tryd.prog 7 (headOf Tryd.f7 0) (envAt Tryd.f7.ntmps ([(0, vL 100 1 N), (2, vU c), (12, vB false), (49, vL 100 1 N), (50, vN N), (51, vN i)])) (Sx.look (XB t0 t1 t2 N B ++ ([]))) 110 (YES) (Sx.look []) 900 := by
  have wi : IntKind.i64.wrap ((i : Int) + 1) = ((i + 1 : Nat) : Int) := wr1 (by omega)
  refine runs_more baseK (More.of (mkEq_p0 t0 t1 t2 N B F c q i) ⟨?oo, rfl, ?rr⟩) (by kernel_rfl) (by kernel_rfl) rfl (gtL (by decide)) (by decide) next
  case oo =>
    clear next
    refine (okc ?_ (okc ?_ (okc ?_ (okc ?_ okn))))
    all_goals ((try simp (disch := omega) only [SS, wi, he]); first | done | omega | assumption | (simp (disch := omega) only [SS, wi, he] at *; first | done | omega | assumption) | (simp_all; done) | grind)
  case rr =>
    clear next
    try simp (disch := omega) only [SS, wi, he]
    repeat' apply And.intro
    all_goals first | exact True.intro | with_reducible rfl | omega | (intros; first | exact True.intro | with_reducible rfl | omega | (simp_all; done)) | (simp_all; done) | rfl

theorem mkNe_p0 (t0 t1 t2 : List UInt8) (N : Nat) (B F : Ix → Int) (c : Int) (q : Bool) (i : Nat) :
    isMore (evTill Tryd.prog sumsK 300 (behind Tryd.f7 0) 900 7 (headOf Tryd.f7 0) (envAt Tryd.f7.ntmps ([(0, vL 100 1 N), (2, vU c), (12, vB false), (49, vL 100 1 N), (50, vN N), (51, vN i)])) (XB t0 t1 t2 N B ++ ([])) ⟨[.s true, .s true, .s true, .s true, .f], 140⟩) (moreP (headOf Tryd.f7 0) ([]) Tryd.f7.ntmps ([(0, vL 100 1 N), (2, vU c), (12, vB false), (49, vL 100 1 N), (50, vN N), (51, vN (i + 1))]) ([]) 900) =
    (OkL [(decide ((↑i : Int) < (↑N : Int)), true), (decide ((0 : Int) ≤ (↑i : Int) ∧ (↑i : Int) < (↑N : Int)), true), (((0 : Nat) + (↑i : Int).toNat).blt N, true), (((0 : Nat) + (↑i : Int).toNat).blt N, true)] ∧ headOf Tryd.f7 (0 : Nat) = headOf Tryd.f7 (0 : Nat) ∧ (((0 : Nat) = (0 : Nat) ∧ N = N) ∧ c = c ∧ false = (B [(0 : Nat) + (↑i : Int).toNat] == c) ∧ ((0 : Nat) = (0 : Nat) ∧ N = N) ∧ (↑N : Int) = (↑N : Int) ∧ (↑i : Int) + (1 : Int) = IntKind.i64.wrap ((↑i : Int) + (1 : Int))) ∧ True) := by kernel_rfl

set_option maxHeartbeats 4000000 in
theorem mkNe (t0 t1 t2 : List UInt8) (N : Nat) (B F : Ix → Int) (c : Int) (q : Bool) (i : Nat) (hi : i < N) (hN : N ≤ 300) (he : B [i] ≠ c) (next : RunsTo Tryd.prog 7 (headOf Tryd.f7 0) (envAt Tryd.f7.ntmps ([(0, vL 100 1 N), (2, vU c), (12, vB false), (49, vL 100 1 N), (50, vN N), (51, vN (i + 1))])) (Sx.look (XB t0 t1 t2 N B ++ ([]))) 110 (YES) (Sx.look []) 900) :
    RunsTo Tryd.prog 7 (headOf Tryd.f7 0) (envAt Tryd.f7.ntmps ([(0, vL 100 1 N), (2, vU c), (12, vB false), (49, vL 100 1 N), (50, vN N), (51, vN i)])) (Sx.look (XB t0 t1 t2 N B ++ ([]))) 110 (YES) (Sx.look []) 900 := by
  have wi : IntKind.i64.wrap ((i : Int) + 1) = ((i + 1 : Nat) : Int) := wr1 (by omega)
  refine runs_more baseK (More.of (mkNe_p0 t0 t1 t2 N B F c q i) ⟨?oo, rfl, ?rr⟩) (by kernel_rfl) (by kernel_rfl) rfl (gtL (by decide)) (by decide) next
  case oo =>
    clear next
    refine (okc ?_ (okc ?_ (okc ?_ (okc ?_ okn))))
    all_goals ((try simp (disch := omega) only [SS, wi, he]); first | done | omega | assumption | (simp (disch := omega) only [SS, wi, he] at *; first | done | omega | assumption) | (simp_all; done) | grind)
  case rr =>
    clear next
    try simp (disch := omega) only [SS, wi, he]
    repeat' apply And.intro
    all_goals first | exact True.intro | with_reducible rfl | omega | (intros; first | exact True.intro | with_reducible rfl | omega | (simp_all; done)) | (simp_all; done) | rfl

theorem mkEnd_p0 (t0 t1 t2 : List UInt8) (N : Nat) (B F : Ix → Int) (c : Int) (q : Bool) (i : Nat) :
    isEnd (evTill Tryd.prog sumsK 300 (99) 900 7 (headOf Tryd.f7 0) (envAt Tryd.f7.ntmps ([(0, vL 100 1 N), (2, vU c), (12, vB q), (49, vL 100 1 N), (50, vN N), (51, vN i)])) (XB t0 t1 t2 N B ++ ([])) ⟨[.s false, .s true, .s true, .s true], 140⟩) (endP ([]) (YES) ([]) 900) =
    (OkL [(decide ((↑i : Int) < (↑N : Int)), false), (N.beq N, true), (decide (N ≤ (1000000 : Nat)) && bndB B N, true), (decide ((0 : Int) ≤ c ∧ c < (256 : Int)), true)] ∧ true = (hasM (fN (ofN B N)) c == q) ∧ True) := by kernel_rfl

set_option maxHeartbeats 4000000 in
theorem mkEnd (t0 t1 t2 : List UInt8) (N : Nat) (B F : Ix → Int) (c : Int) (q : Bool) (i : Nat) (hi : i = N) (hN : N ≤ 300) (hq : q = memL (bytesOf B [] 0 N) c.toNat) (hB : ∀ i, i < N → 0 ≤ B [i] ∧ B [i] < 256) (hF : ∀ i, i < 32 → 0 ≤ F [i] ∧ F [i] < 256) (hc : 0 ≤ c ∧ c < 256)  :
    RunsTo Tryd.prog 7 (headOf Tryd.f7 0) (envAt Tryd.f7.ntmps ([(0, vL 100 1 N), (2, vU c), (12, vB q), (49, vL 100 1 N), (50, vN N), (51, vN i)])) (Sx.look (XB t0 t1 t2 N B ++ ([]))) 110 (YES) (Sx.look ([])) 900 := by
  have hh := has_of hB hc
  have hbd := bndB_of hB
  refine runs_last baseK (Sx.Ends.of (mkEnd_p0 t0 t1 t2 N B F c q i) ⟨?oo, ?rr⟩) (by kernel_rfl) rfl (gtL (by decide)) (by decide)
  case oo =>
    refine (okc ?_ (okc ?_ (okc ?_ (okc ?_ okn))))
    all_goals ((try simp (disch := omega) only [SS, hh, hbd, hq, beq_self_eq_true]); first | done | omega | assumption | (simp (disch := omega) only [SS, hh, hbd, hq, beq_self_eq_true] at *; first | done | omega | assumption) | (simp_all; done) | grind)
  case rr =>
    try simp (disch := omega) only [SS, hh, hbd, hq, beq_self_eq_true]
    repeat' apply And.intro
    all_goals first | exact True.intro | with_reducible rfl | omega | (intros; first | exact True.intro | with_reducible rfl | omega | (simp_all; done)) | (simp_all; done) | rfl

theorem mk_law (t0 t1 t2 : List UInt8) (N : Nat) (B F : Ix → Int) (c : Int) (hB : ∀ i, i < N → 0 ≤ B [i] ∧ B [i] < 256) (hF : ∀ i, i < 32 → 0 ≤ F [i] ∧ F [i] < 256) (hc : 0 ≤ c ∧ c < 256) : RunsTo Tryd.prog 7 [.code (bodyOf Tryd.f7)] (envOf [vL 100 1 N, .agg (arrT F), vU c] Tryd.f7.ntmps) (Sx.look (XB t0 t1 t2 N B ++ ([]))) 110 (YES) (Sx.look []) 900 := by
  by_cases hN : 300 < N
  · exact mkLong t0 t1 t2 N B F c hN
  refine mkStart t0 t1 t2 N B F c (by omega) hB hF hc ?_
  have key : ∀ (d i : Nat), i + d = N → RunsTo Tryd.prog 7 (headOf Tryd.f7 0) (envAt Tryd.f7.ntmps ([(0, vL 100 1 N), (2, vU c), (12, vB (memL (bytesOf B [] 0 i) c.toNat)), (49, vL 100 1 N), (50, vN N), (51, vN i)])) (Sx.look (XB t0 t1 t2 N B ++ ([]))) 110 (YES) (Sx.look []) 900 := by
    intro d
    induction d with
    | zero =>
      intro i hi
      have hi2 : i = N := by omega
      exact mkEnd t0 t1 t2 N B F c _ i hi2 (by omega) (by rw [hi2]) hB hF hc
    | succ d ih =>
      intro i hi
      have h2 := ih (i + 1) (by omega)
      have e : memL (bytesOf B [] 0 (i + 1)) c.toNat = (memL (bytesOf B [] 0 i) c.toNat || decide (B [i] = c)) := by
        have e1 : bytesOf B [] 0 (i + 1) = bytesOf B [] 0 i ++ [UInt8.ofNat (B [i]).toNat] := by simp [bytesOf, List.range_succ]
        have hb := hB i (by omega)
        have e2 : (UInt8.ofNat (B [i]).toNat).toNat = (B [i]).toNat := by simp; omega
        rw [e1]
        simp only [memL, List.any_append, List.any_cons, List.any_nil, Bool.or_false, e2]
        congr 1
        rw [Bool.eq_iff_iff]
        simp
        omega
      cases hm : memL (bytesOf B [] 0 i) c.toNat with
      | true =>
        rw [e, hm, Bool.true_or] at h2
        exact mkHit t0 t1 t2 N B F c true i (by omega) (by omega) h2
      | false =>
        rw [e, hm, Bool.false_or] at h2
        by_cases he : B [i] = c
        · rw [decide_eq_true he] at h2
          exact mkEq t0 t1 t2 N B F c false i (by omega) (by omega) he h2
        · rw [decide_eq_false he] at h2
          exact mkNe t0 t1 t2 N B F c false i (by omega) (by omega) he h2
  exact key N 0 (by omega)
end Go.Proofs.YtealbjkhjpmilaaDoor
