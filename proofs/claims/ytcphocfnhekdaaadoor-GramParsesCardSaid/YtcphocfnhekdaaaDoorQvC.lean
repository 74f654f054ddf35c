/- Grammar: is a place a border? -/
import Derived.Test.YtcphocfnhekdaaaDoorQfC
import Derived.Test.YtcphocfnhekdaaaDoorQrC
set_option linter.unusedSimpArgs false
set_option linter.unusedVariables false
set_option maxRecDepth 100000
namespace Go.Proofs.YtcphocfnhekdaaaDoor
open Go.Sx

open GramR
/-- The first place from i on, of k, at which a row has a number; -1: none. -/
def idxF (U : Ix → Int) (v : Int) : Nat → Nat → Int
  | 0, _ => -1
  | k + 1, i => if U [i] = v then (i : Int) else idxF U v k (i + 1)
def ceE (l : Nat) (v : Int) : List Ent := [⟨l, false, none, 1, .vi .i64 fun _ => v⟩]
def iR (l f n : Nat) (K F T C O : Ix → Int) (m q : Ix → Nat) (ls : Nat → Nat) (Z : Ix → Int) : List Ent := [⟨l, false, none, 6, .ta n (.tc (.vi .i64 K) (.tc (.vi .i64 F) (.tc (.vi .i64 T) (.tc (.vi .i64 C) (.tc (.vi .i64 O) (.tc (.vl f m 1 [] q) .t0))))))⟩, ⟨f, false, some (n, ls), 1, .vi .u8 Z⟩]
def brV (raw : Bool) (N : Nat) (B : Ix → Int) (at_ : Int) : Bool := (ptM raw N B).isSome && (decide (0 ≤ at_ ∧ at_ ≤ (N : Int)) && (decide (at_ = 0) || (decide (at_ = (N : Int)) || decide (idxF (iT (ptT raw N B)) at_ (ptT raw N B).length 0 ≥ 0))))
theorem idx_hit {U : Ix → Int} {v : Int} {k i : Nat} (h : U [i] = v) : idxF U v (k + 1) i = (i : Int) := by simp only [idxF, if_pos h]
theorem idx_miss {U : Ix → Int} {v : Int} {k i : Nat} (h : U [i] ≠ v) : idxF U v (k + 1) i = idxF U v k (i + 1) := by simp only [idxF, if_neg h]
theorem idx_ge (U : Ix → Int) (v : Int) : ∀ k i, 0 ≤ idxF U v k i ↔ ∃ j, i ≤ j ∧ j < i + k ∧ U [j] = v
  | 0, i => by simp [idxF]; omega
  | k + 1, i => by
    simp only [idxF]
    by_cases h : U [i] = v
    · rw [if_pos h]; exact ⟨fun _ => ⟨i, by omega, by omega, h⟩, fun _ => by omega⟩
    · rw [if_neg h, idx_ge U v k (i + 1)]
      constructor
      · rintro ⟨j, h1, h2, h3⟩; exact ⟨j, by omega, by omega, h3⟩
      · rintro ⟨j, h1, h2, h3⟩
        refine ⟨j, ?_, by omega, h3⟩
        rcases Nat.eq_or_lt_of_le h1 with e | e
        · subst e; exact absurd h3 h
        · omega
theorem ixStart_p0 (n : Nat) (K F T C O : Ix → Int) (m w : Ix → Nat) (ls : Nat → Nat) (Z : Ix → Int) (c : Int) :
    isMore (evTill Tryd.prog [] 300 (behind Tryd.f61 0) 900 61 [.code (bodyOf Tryd.f61)] (envOf [vL 64 6 n, .v (.vc 42 (.vp 66 (fun _ => 0) []))] Tryd.f61.ntmps) ((iR 64 65 n K F T C O m w ls Z ++ ceE 66 c) ++ ([])) ⟨[], 80⟩) (moreP (headOf Tryd.f61 0) ([]) Tryd.f61.ntmps ([(0, vL 64 6 n), (1, .v (.vc 42 (.vp 66 (fun _ => 0) []))), (7, vN n), (8, vN (0 : Nat))]) ([]) 260) =
    (OkL [] ∧ headOf Tryd.f61 (0 : Nat) = headOf Tryd.f61 (0 : Nat) ∧ (((0 : Nat) = (0 : Nat) ∧ n = n) ∧ (0 : Nat) = (0 : Nat) ∧ (↑n : Int) = (↑n : Int) ∧ (↑(0 : Nat) : Int) = (0 : Int)) ∧ True) := by kernel_rfl

set_option maxHeartbeats 4000000 in
theorem ixStart (n : Nat) (K F T C O : Ix → Int) (m w : Ix → Nat) (ls : Nat → Nat) (Z : Ix → Int) (c : Int)  (v : SV) (L' : HF) (next : RunsTo Tryd.prog 61 (headOf Tryd.f61 0) (envAt Tryd.f61.ntmps ([(0, vL 64 6 n), (1, .v (.vc 42 (.vp 66 (fun _ => 0) []))), (7, vN n), (8, vN (0 : Nat))])) (Sx.look ((iR 64 65 n K F T C O m w ls Z ++ ceE 66 c) ++ ([]))) 80 (v) (L') 260) :
    RunsTo Tryd.prog 61 [.code (bodyOf Tryd.f61)] (envOf [vL 64 6 n, .v (.vc 42 (.vp 66 (fun _ => 0) []))] Tryd.f61.ntmps) (Sx.look ((iR 64 65 n K F T C O m w ls Z ++ ceE 66 c) ++ ([]))) 80 (v) (L') 260 := by
  refine runs_more baseO (More.of (ixStart_p0 n K F T C O m w ls Z c) ⟨?oo, rfl, ?rr⟩) (by kernel_rfl) (by kernel_rfl) rfl (gtL (by decide)) (by decide) next
  case oo =>
    clear next
    refine okn
    all_goals ((try simp (disch := omega) only [SS]); first | done | omega | assumption | (simp (disch := omega) only [SS] at *; first | done | omega | assumption) | (simp_all; done))
  case rr =>
    clear next
    try simp (disch := omega) only [SS]
    repeat' apply And.intro
    all_goals first | exact True.intro | with_reducible rfl | omega | (intros; first | exact True.intro | with_reducible rfl | omega | (simp_all; done)) | (simp_all; done) | rfl

theorem ixMiss_p0 (n : Nat) (K F T C O : Ix → Int) (m w : Ix → Nat) (ls : Nat → Nat) (Z : Ix → Int) (c : Int) (i : Nat) :
    isMore (evTill Tryd.prog [] 300 (behind Tryd.f61 0) 900 61 (headOf Tryd.f61 0) (envAt Tryd.f61.ntmps ([(0, vL 64 6 n), (1, .v (.vc 42 (.vp 66 (fun _ => 0) []))), (7, vN n), (8, vN (i : Nat))])) ((iR 64 65 n K F T C O m w ls Z ++ ceE 66 c) ++ ([])) ⟨[.s true, .s true, .s true, .s true, .s false], 120⟩) (moreP (headOf Tryd.f61 0) ([]) Tryd.f61.ntmps ([(0, vL 64 6 n), (1, .v (.vc 42 (.vp 66 (fun _ => 0) []))), (7, vN n), (8, vN (i + 1 : Nat))]) ([]) 260) =
    (OkL [(decide ((↑i : Int) < (↑n : Int)), true), (decide ((0 : Int) ≤ (↑i : Int) ∧ (↑i : Int) < (↑n : Int)), true), (((0 : Nat) + (↑i : Int).toNat).blt n, true), (((0 : Nat) + (↑i : Int).toNat).blt n, true), (T [(0 : Nat) + (↑i : Int).toNat] == c, false)] ∧ headOf Tryd.f61 (0 : Nat) = headOf Tryd.f61 (0 : Nat) ∧ (((0 : Nat) = (0 : Nat) ∧ n = n) ∧ (0 : Nat) = (0 : Nat) ∧ (↑n : Int) = (↑n : Int) ∧ (↑(i + (1 : Nat)) : Int) = IntKind.i64.wrap ((↑i : Int) + (1 : Int))) ∧ True) := by kernel_rfl

set_option maxHeartbeats 4000000 in
theorem ixMiss (n : Nat) (K F T C O : Ix → Int) (m w : Ix → Nat) (ls : Nat → Nat) (Z : Ix → Int) (c : Int) (i : Nat) (hi : i < n) (hn : n ≤ 10000) (h : T [i] ≠ c)  (v : SV) (L' : HF) (next : RunsTo Tryd.prog 61 (headOf Tryd.f61 0) (envAt Tryd.f61.ntmps ([(0, vL 64 6 n), (1, .v (.vc 42 (.vp 66 (fun _ => 0) []))), (7, vN n), (8, vN (i + 1 : Nat))])) (Sx.look ((iR 64 65 n K F T C O m w ls Z ++ ceE 66 c) ++ ([]))) 80 (v) (L') 260) :
    RunsTo Tryd.prog 61 (headOf Tryd.f61 0) (envAt Tryd.f61.ntmps ([(0, vL 64 6 n), (1, .v (.vc 42 (.vp 66 (fun _ => 0) []))), (7, vN n), (8, vN (i : Nat))])) (Sx.look ((iR 64 65 n K F T C O m w ls Z ++ ceE 66 c) ++ ([]))) 80 (v) (L') 260 := by
  have hw : IntKind.i64.wrap ((i : Int) + 1) = ((i + 1 : Nat) : Int) := by rw [wr64 (by omega)]; rfl
  refine runs_more baseO (More.of (ixMiss_p0 n K F T C O m w ls Z c i) ⟨?oo, rfl, ?rr⟩) (by kernel_rfl) (by kernel_rfl) rfl (gtL (by decide)) (by decide) next
  case oo =>
    clear next
    refine (okc ?_ (okc ?_ (okc ?_ (okc ?_ (okc ?_ okn)))))
    all_goals ((try simp (disch := omega) only [SS, hw]); first | done | omega | assumption | (simp (disch := omega) only [SS, hw] at *; first | done | omega | assumption) | (simp_all; done))
  case rr =>
    clear next
    try simp (disch := omega) only [SS, hw]
    repeat' apply And.intro
    all_goals first | exact True.intro | with_reducible rfl | omega | (intros; first | exact True.intro | with_reducible rfl | omega | (simp_all; done)) | (simp_all; done) | rfl

theorem ixHit_p0 (n : Nat) (K F T C O : Ix → Int) (m w : Ix → Nat) (ls : Nat → Nat) (Z : Ix → Int) (c : Int) (i : Nat) :
    isEnd (evTill Tryd.prog [] 300 (99) 900 61 (headOf Tryd.f61 0) (envAt Tryd.f61.ntmps ([(0, vL 64 6 n), (1, .v (.vc 42 (.vp 66 (fun _ => 0) []))), (7, vN n), (8, vN (i : Nat))])) ((iR 64 65 n K F T C O m w ls Z ++ ceE 66 c) ++ ([])) ⟨[.s true, .s true, .s true, .s true, .s true], 120⟩) (endP ([]) (vN i) ([]) 260) =
    (OkL [(decide ((↑i : Int) < (↑n : Int)), true), (decide ((0 : Int) ≤ (↑i : Int) ∧ (↑i : Int) < (↑n : Int)), true), (((0 : Nat) + (↑i : Int).toNat).blt n, true), (((0 : Nat) + (↑i : Int).toNat).blt n, true), (T [(0 : Nat) + (↑i : Int).toNat] == c, true)] ∧ (↑i : Int) = (↑i : Int) ∧ True) := by kernel_rfl

set_option maxHeartbeats 4000000 in
theorem ixHit (n : Nat) (K F T C O : Ix → Int) (m w : Ix → Nat) (ls : Nat → Nat) (Z : Ix → Int) (c : Int) (i : Nat) (hi : i < n) (h : T [i] = c)  :
    RunsTo Tryd.prog 61 (headOf Tryd.f61 0) (envAt Tryd.f61.ntmps ([(0, vL 64 6 n), (1, .v (.vc 42 (.vp 66 (fun _ => 0) []))), (7, vN n), (8, vN (i : Nat))])) (Sx.look ((iR 64 65 n K F T C O m w ls Z ++ ceE 66 c) ++ ([]))) 80 (vN i) (Sx.look ([])) 260 := by
  refine runs_last baseO (Sx.Ends.of (ixHit_p0 n K F T C O m w ls Z c i) ⟨?oo, ?rr⟩) (by kernel_rfl) rfl (gtL (by decide)) (by decide)
  case oo =>
    refine (okc ?_ (okc ?_ (okc ?_ (okc ?_ (okc ?_ okn)))))
    all_goals ((try simp (disch := omega) only [SS, h]); first | done | omega | assumption | (simp (disch := omega) only [SS, h] at *; first | done | omega | assumption) | (simp_all; done))
  case rr =>
    try simp (disch := omega) only [SS, h]
    repeat' apply And.intro
    all_goals first | exact True.intro | with_reducible rfl | omega | (intros; first | exact True.intro | with_reducible rfl | omega | (simp_all; done)) | (simp_all; done) | rfl

theorem ixEnd_p0 (n : Nat) (K F T C O : Ix → Int) (m w : Ix → Nat) (ls : Nat → Nat) (Z : Ix → Int) (c : Int) (i : Nat) :
    isEnd (evTill Tryd.prog [] 300 (99) 900 61 (headOf Tryd.f61 0) (envAt Tryd.f61.ntmps ([(0, vL 64 6 n), (1, .v (.vc 42 (.vp 66 (fun _ => 0) []))), (7, vN n), (8, vN (i : Nat))])) ((iR 64 65 n K F T C O m w ls Z ++ ceE 66 c) ++ ([])) ⟨[.s false], 120⟩) (endP ([]) (vN (-1)) ([]) 260) =
    (OkL [(decide ((↑i : Int) < (↑n : Int)), false)] ∧ (-1 : Int) = (-1 : Int) ∧ True) := by kernel_rfl

set_option maxHeartbeats 4000000 in
theorem ixEnd (n : Nat) (K F T C O : Ix → Int) (m w : Ix → Nat) (ls : Nat → Nat) (Z : Ix → Int) (c : Int) (i : Nat) (hi : i = n)  :
    RunsTo Tryd.prog 61 (headOf Tryd.f61 0) (envAt Tryd.f61.ntmps ([(0, vL 64 6 n), (1, .v (.vc 42 (.vp 66 (fun _ => 0) []))), (7, vN n), (8, vN (i : Nat))])) (Sx.look ((iR 64 65 n K F T C O m w ls Z ++ ceE 66 c) ++ ([]))) 80 (vN (-1)) (Sx.look ([])) 260 := by
  refine runs_last baseO (Sx.Ends.of (ixEnd_p0 n K F T C O m w ls Z c i) ⟨?oo, ?rr⟩) (by kernel_rfl) rfl (gtL (by decide)) (by decide)
  case oo =>
    refine (okc ?_ okn)
    all_goals ((try simp (disch := omega) only [SS]); first | done | omega | assumption | (simp (disch := omega) only [SS] at *; first | done | omega | assumption) | (simp_all; done))
  case rr =>
    try simp (disch := omega) only [SS]
    repeat' apply And.intro
    all_goals first | exact True.intro | with_reducible rfl | omega | (intros; first | exact True.intro | with_reducible rfl | omega | (simp_all; done)) | (simp_all; done) | rfl

theorem ixI (n : Nat) (K F T C O : Ix → Int) (m w : Ix → Nat) (ls : Nat → Nat) (Z : Ix → Int) (c : Int) (hn : n ≤ 10000) : RunsTo Tryd.prog 61 [.code (bodyOf Tryd.f61)] (envOf [vL 64 6 n, .v (.vc 42 (.vp 66 (fun _ => 0) []))] Tryd.f61.ntmps) (Sx.look ((iR 64 65 n K F T C O m w ls Z ++ ceE 66 c) ++ ([]))) 80 (vN (idxF T c n 0)) (Sx.look []) 260 := by
  refine ixStart n K F T C O m w ls Z c _ _ ?_
  suffices q : ∀ (k i : Nat), i + k = n → RunsTo Tryd.prog 61 (headOf Tryd.f61 0) (envAt Tryd.f61.ntmps ([(0, vL 64 6 n), (1, .v (.vc 42 (.vp 66 (fun _ => 0) []))), (7, vN n), (8, vN (i : Nat))])) (Sx.look ((iR 64 65 n K F T C O m w ls Z ++ ceE 66 c) ++ ([]))) 80 (vN (idxF T c k i)) (Sx.look []) 260 from q n 0 (by omega)
  intro k
  induction k with
  | zero => intro i hi; exact ixEnd n K F T C O m w ls Z c i (by omega)
  | succ k ih =>
    intro i hi
    by_cases h : T [i] = c
    · rw [idx_hit h]; exact ixHit n K F T C O m w ls Z c i (by omega) h
    · rw [idx_miss h]; exact ixMiss n K F T C O m w ls Z c i (by omega) hn h _ _ (ih (i + 1) (by omega))
def ixP : PC := { args := [.v (.vl 64 6 3), .v (.vc 42 (.vp 66))], heap := [⟨64, false, 6, .ta 3 (.tc (.vi .i64 6) (.tc (.vi .i64 7) (.tc (.vi .i64 8) (.tc (.vi .i64 9) (.tc (.vi .i64 10) (.tc (.vf 65 1 11 12) .t0))))))⟩, ⟨66, false, 1, .vi .i64 1⟩], fams := [⟨65, false, 1, 3, 14, .vi .u8 15⟩], gs := [], G := 19, tp := 144, n := 80, n' := 260, cond := fun e => decide (eN e 3 ≤ 10000), v := fun e => vN (idxF (eI e 8) (eI e 1 []) (eN e 3) 0), post := fun e => [] }
theorem ixP_pc : PC.Runs Tryd.prog 61 Tryd.f61 (bodyOf Tryd.f61) ixP := ⟨Tryd.func61, by kernel_rfl, (fun g hg => by first | (cases hg; done) | (revert g; show ∀ g ∈ ([] : List Nat), g < 19; decide)), fun e H hc => by
  have hc : (decide (eN e 3 ≤ 10000)) = true := hc
  try simp only [Bool.and_eq_true, decide_eq_true_eq, Nat.beq_eq] at hc
  exact swap2 (s := [⟨64, false, none, 6, .ta (eN e 3) (.tc (.vi .i64 (eI e 6)) (.tc (.vi .i64 (eI e 7)) (.tc (.vi .i64 (eI e 8)) (.tc (.vi .i64 (eI e 9)) (.tc (.vi .i64 (eI e 10)) (.tc (.vl 65 (eM e 11) 1 [] (eM e 12)) .t0))))))⟩]) (x := ⟨65, false, some (eN e 3, eL e 14), 1, .vi .u8 (eI e 15)⟩) (y := ⟨66, false, none, 1, .vi .i64 fun _ => eI e 1 []⟩) (r := []) (show (65 : Nat) ≠ 66 by decide) (ixI (eN e 3) (eI e 6) (eI e 7) (eI e 8) (eI e 9) (eI e 10) (eM e 11) (eM e 12) (eL e 14) (eI e 15) (eI e 1 []) hc)⟩
def sumsJ0 : List (FuncId × Summ) := [(12, psOkP.summ 38), (61, ixP.summ 38)]
theorem baseJ0 : Base0 Tryd.prog sumsJ0 := ((baseO.cons Tryd.func61 (by kernel_rfl) (PC.summ_ok ixP_pc gtopG)).cons Tryd.func12 (by kernel_rfl) (PC.summ_ok psOkP_pc gtopG))
def sumsJ1 : List (FuncId × Summ) := [(12, psFoP.summ 38)]
theorem baseJ1 : Base0 Tryd.prog sumsJ1 := (baseO.cons Tryd.func12 (by kernel_rfl) (PC.summ_ok psFoP_pc gtopG))
theorem boNeg_p0 (t0 t1 : List UInt8) (N M : Nat) (raw : Bool) (B : Ix → Int) (c : Int) :
    isEnd (evTill Tryd.prog sumsJ0 300 (99) 900 18 [.code (bodyOf Tryd.f18)] (envOf [vL 60 1 N, vB raw, vN c] Tryd.f18.ntmps) (sentEnts 19 144 [(0, t0), (4, t1)] ++ rB 60 M B ++ ([])) ⟨[.s true, .f, .s true], 80⟩) (endP ([]) (vB (false)) ([]) 1300) =
    (OkL [(decide (N ≤ (10000 : Nat)) && (decide (N ≤ M) && (bndB B N && (ptM raw N B).isSome)), true), (decide (c < (0 : Int)), true)] ∧ false = false ∧ True) := by kernel_rfl

set_option maxHeartbeats 4000000 in
theorem boNeg (t0 t1 : List UInt8) (N M : Nat) (raw : Bool) (B : Ix → Int) (c : Int) (hN : N ≤ 10000) (hM : N ≤ M) (hB : bndB B N = true) (hr : (ptM raw N B).isSome = true) (h : c < 0)  :
    RunsTo Tryd.prog 18 [.code (bodyOf Tryd.f18)] (envOf [vL 60 1 N, vB raw, vN c] Tryd.f18.ntmps) (Sx.look (sentEnts 19 144 [(0, t0), (4, t1)] ++ rB 60 M B ++ ([]))) 80 (vB (false)) (Sx.look ([])) 1300 := by
  have hpl := pt_len raw N B
  refine runs_last baseJ0 (Sx.Ends.of (boNeg_p0 t0 t1 N M raw B c) ⟨?oo, ?rr⟩) (by kernel_rfl) rfl (gtL (by decide)) (by decide)
  case oo =>
    refine (okc ?_ (okc ?_ okn))
    all_goals first | exact hr | omega | (simp (disch := omega) only [SS, hpl]; first | done | omega) | (refine Bool.and_eq_true_iff.2 ⟨decide_eq_true (by omega), Bool.and_eq_true_iff.2 ⟨decide_eq_true (by omega), Bool.and_eq_true_iff.2 ⟨hB, hr⟩⟩⟩) | (simp_all; done) | (simp_all; omega)
  case rr =>
    try simp (disch := omega) only [SS, hpl]
    repeat' apply And.intro
    all_goals first | exact True.intro | with_reducible rfl | omega | (intros; first | exact True.intro | with_reducible rfl | omega | (simp_all; done)) | (simp_all; done) | rfl

theorem boBig_p0 (t0 t1 : List UInt8) (N M : Nat) (raw : Bool) (B : Ix → Int) (c : Int) :
    isEnd (evTill Tryd.prog sumsJ0 300 (99) 900 18 [.code (bodyOf Tryd.f18)] (envOf [vL 60 1 N, vB raw, vN c] Tryd.f18.ntmps) (sentEnts 19 144 [(0, t0), (4, t1)] ++ rB 60 M B ++ ([])) ⟨[.s true, .f, .s false, .s true], 80⟩) (endP ([]) (vB (false)) ([]) 1300) =
    (OkL [(decide (N ≤ (10000 : Nat)) && (decide (N ≤ M) && (bndB B N && (ptM raw N B).isSome)), true), (decide (c < (0 : Int)), false), (decide (c > (↑N : Int)), true)] ∧ false = false ∧ True) := by kernel_rfl

set_option maxHeartbeats 4000000 in
theorem boBig (t0 t1 : List UInt8) (N M : Nat) (raw : Bool) (B : Ix → Int) (c : Int) (hN : N ≤ 10000) (hM : N ≤ M) (hB : bndB B N = true) (hr : (ptM raw N B).isSome = true) (h : (N : Int) < c)  :
    RunsTo Tryd.prog 18 [.code (bodyOf Tryd.f18)] (envOf [vL 60 1 N, vB raw, vN c] Tryd.f18.ntmps) (Sx.look (sentEnts 19 144 [(0, t0), (4, t1)] ++ rB 60 M B ++ ([]))) 80 (vB (false)) (Sx.look ([])) 1300 := by
  have hpl := pt_len raw N B
  refine runs_last baseJ0 (Sx.Ends.of (boBig_p0 t0 t1 N M raw B c) ⟨?oo, ?rr⟩) (by kernel_rfl) rfl (gtL (by decide)) (by decide)
  case oo =>
    refine (okc ?_ (okc ?_ (okc ?_ okn)))
    all_goals first | exact hr | omega | (simp (disch := omega) only [SS, hpl]; first | done | omega) | (refine Bool.and_eq_true_iff.2 ⟨decide_eq_true (by omega), Bool.and_eq_true_iff.2 ⟨decide_eq_true (by omega), Bool.and_eq_true_iff.2 ⟨hB, hr⟩⟩⟩) | (simp_all; done) | (simp_all; omega)
  case rr =>
    try simp (disch := omega) only [SS, hpl]
    repeat' apply And.intro
    all_goals first | exact True.intro | with_reducible rfl | omega | (intros; first | exact True.intro | with_reducible rfl | omega | (simp_all; done)) | (simp_all; done) | rfl

theorem bo0_p0 (t0 t1 : List UInt8) (N M : Nat) (raw : Bool) (B : Ix → Int) (c : Int) :
    isEnd (evTill Tryd.prog sumsJ0 300 (99) 900 18 [.code (bodyOf Tryd.f18)] (envOf [vL 60 1 N, vB raw, vN c] Tryd.f18.ntmps) (sentEnts 19 144 [(0, t0), (4, t1)] ++ rB 60 M B ++ ([])) ⟨[.s true, .f, .s false, .s false, .s true], 80⟩) (endP ([]) (vB (true)) ([]) 1300) =
    (OkL [(decide (N ≤ (10000 : Nat)) && (decide (N ≤ M) && (bndB B N && (ptM raw N B).isSome)), true), (decide (c < (0 : Int)), false), (decide (c > (↑N : Int)), false), (c == (0 : Int), true)] ∧ true = true ∧ True) := by kernel_rfl

set_option maxHeartbeats 4000000 in
theorem bo0 (t0 t1 : List UInt8) (N M : Nat) (raw : Bool) (B : Ix → Int) (c : Int) (hN : N ≤ 10000) (hM : N ≤ M) (hB : bndB B N = true) (hr : (ptM raw N B).isSome = true) (h : c = 0)  :
    RunsTo Tryd.prog 18 [.code (bodyOf Tryd.f18)] (envOf [vL 60 1 N, vB raw, vN c] Tryd.f18.ntmps) (Sx.look (sentEnts 19 144 [(0, t0), (4, t1)] ++ rB 60 M B ++ ([]))) 80 (vB (true)) (Sx.look ([])) 1300 := by
  have hpl := pt_len raw N B
  refine runs_last baseJ0 (Sx.Ends.of (bo0_p0 t0 t1 N M raw B c) ⟨?oo, ?rr⟩) (by kernel_rfl) rfl (gtL (by decide)) (by decide)
  case oo =>
    refine (okc ?_ (okc ?_ (okc ?_ (okc ?_ okn))))
    all_goals first | exact hr | omega | (simp (disch := omega) only [SS, hpl]; first | done | omega) | (refine Bool.and_eq_true_iff.2 ⟨decide_eq_true (by omega), Bool.and_eq_true_iff.2 ⟨decide_eq_true (by omega), Bool.and_eq_true_iff.2 ⟨hB, hr⟩⟩⟩) | (simp_all; done) | (simp_all; omega)
  case rr =>
    try simp (disch := omega) only [SS, hpl]
    repeat' apply And.intro
    all_goals first | exact True.intro | with_reducible rfl | omega | (intros; first | exact True.intro | with_reducible rfl | omega | (simp_all; done)) | (simp_all; done) | rfl

theorem boN_p0 (t0 t1 : List UInt8) (N M : Nat) (raw : Bool) (B : Ix → Int) (c : Int) :
    isEnd (evTill Tryd.prog sumsJ0 300 (99) 900 18 [.code (bodyOf Tryd.f18)] (envOf [vL 60 1 N, vB raw, vN c] Tryd.f18.ntmps) (sentEnts 19 144 [(0, t0), (4, t1)] ++ rB 60 M B ++ ([])) ⟨[.s true, .f, .s false, .s false, .s false, .s true], 80⟩) (endP ([]) (vB (true)) ([]) 1300) =
    (OkL [(decide (N ≤ (10000 : Nat)) && (decide (N ≤ M) && (bndB B N && (ptM raw N B).isSome)), true), (decide (c < (0 : Int)), false), (decide (c > (↑N : Int)), false), (c == (0 : Int), false), (c == (↑N : Int), true)] ∧ true = true ∧ True) := by kernel_rfl

set_option maxHeartbeats 4000000 in
theorem boN (t0 t1 : List UInt8) (N M : Nat) (raw : Bool) (B : Ix → Int) (c : Int) (hN : N ≤ 10000) (hM : N ≤ M) (hB : bndB B N = true) (hr : (ptM raw N B).isSome = true) (h : c = (N : Int)) (h2 : 0 < c)  :
    RunsTo Tryd.prog 18 [.code (bodyOf Tryd.f18)] (envOf [vL 60 1 N, vB raw, vN c] Tryd.f18.ntmps) (Sx.look (sentEnts 19 144 [(0, t0), (4, t1)] ++ rB 60 M B ++ ([]))) 80 (vB (true)) (Sx.look ([])) 1300 := by
  have hpl := pt_len raw N B
  refine runs_last baseJ0 (Sx.Ends.of (boN_p0 t0 t1 N M raw B c) ⟨?oo, ?rr⟩) (by kernel_rfl) rfl (gtL (by decide)) (by decide)
  case oo =>
    refine (okc ?_ (okc ?_ (okc ?_ (okc ?_ (okc ?_ okn)))))
    all_goals first | exact hr | omega | (simp (disch := omega) only [SS, hpl]; first | done | omega) | (refine Bool.and_eq_true_iff.2 ⟨decide_eq_true (by omega), Bool.and_eq_true_iff.2 ⟨decide_eq_true (by omega), Bool.and_eq_true_iff.2 ⟨hB, hr⟩⟩⟩) | (simp_all; done) | (simp_all; omega)
  case rr =>
    try simp (disch := omega) only [SS, hpl]
    repeat' apply And.intro
    all_goals first | exact True.intro | with_reducible rfl | omega | (intros; first | exact True.intro | with_reducible rfl | omega | (simp_all; done)) | (simp_all; done) | rfl

theorem boIn_p0 (t0 t1 : List UInt8) (N M : Nat) (raw : Bool) (B : Ix → Int) (c : Int) :
    isEnd (evTill Tryd.prog sumsJ0 300 (99) 900 18 [.code (bodyOf Tryd.f18)] (envOf [vL 60 1 N, vB raw, vN c] Tryd.f18.ntmps) (sentEnts 19 144 [(0, t0), (4, t1)] ++ rB 60 M B ++ ([])) ⟨[.s true, .f, .s false, .s false, .s false, .s false, .s true, .s true, .s true], 80⟩) (endP ([]) (vB (decide (idxF (iT (ptT raw N B)) c (ptT raw N B).length 0 ≥ 0))) ([]) 1300) =
    (OkL [(decide (N ≤ (10000 : Nat)) && (decide (N ≤ M) && (bndB B N && (ptM raw N B).isSome)), true), (decide (c < (0 : Int)), false), (decide (c > (↑N : Int)), false), (c == (0 : Int), false), (c == (↑N : Int), false), ((ptT raw N B).length.beq (ptT raw N B).length, true), ((ptT raw N B).length.beq (ptT raw N B).length, true), (decide ((ptT raw N B).length ≤ (10000 : Nat)), true)] ∧ decide (idxF (iT (ptT raw N B)) c (ptT raw N B).length (0 : Nat) ≥ (0 : Int)) = decide (idxF (iT (ptT raw N B)) c (ptT raw N B).length (0 : Nat) ≥ (0 : Int)) ∧ True) := by kernel_rfl

set_option maxHeartbeats 4000000 in
theorem boIn (t0 t1 : List UInt8) (N M : Nat) (raw : Bool) (B : Ix → Int) (c : Int) (hN : N ≤ 10000) (hM : N ≤ M) (hB : bndB B N = true) (hr : (ptM raw N B).isSome = true) (h : 0 < c) (h2 : c < (N : Int))  :
    RunsTo Tryd.prog 18 [.code (bodyOf Tryd.f18)] (envOf [vL 60 1 N, vB raw, vN c] Tryd.f18.ntmps) (Sx.look (sentEnts 19 144 [(0, t0), (4, t1)] ++ rB 60 M B ++ ([]))) 80 (vB (decide (idxF (iT (ptT raw N B)) c (ptT raw N B).length 0 ≥ 0))) (Sx.look ([])) 1300 := by
  have hpl := pt_len raw N B
  refine runs_last baseJ0 (Sx.Ends.of (boIn_p0 t0 t1 N M raw B c) ⟨?oo, ?rr⟩) (by kernel_rfl) rfl (gtL (by decide)) (by decide)
  case oo =>
    refine (okc ?_ (okc ?_ (okc ?_ (okc ?_ (okc ?_ (okc ?_ (okc ?_ (okc ?_ okn))))))))
    all_goals first | exact hr | omega | (simp (disch := omega) only [SS, hpl]; first | done | omega) | (refine Bool.and_eq_true_iff.2 ⟨decide_eq_true (by omega), Bool.and_eq_true_iff.2 ⟨decide_eq_true (by omega), Bool.and_eq_true_iff.2 ⟨hB, hr⟩⟩⟩) | (simp_all; done) | (simp_all; omega)
  case rr =>
    try simp (disch := omega) only [SS, hpl]
    repeat' apply And.intro
    all_goals first | exact True.intro | with_reducible rfl | omega | (intros; first | exact True.intro | with_reducible rfl | omega | (simp_all; done)) | (simp_all; done) | rfl

theorem boFo_p0 (t0 t1 : List UInt8) (N M : Nat) (raw : Bool) (B : Ix → Int) (c : Int) :
    isEnd (evTill Tryd.prog sumsJ1 300 (99) 900 18 [.code (bodyOf Tryd.f18)] (envOf [vL 60 1 N, vB raw, vN c] Tryd.f18.ntmps) (sentEnts 19 144 [(0, t0), (4, t1)] ++ rB 60 M B ++ ([])) ⟨[.s true, .t], 80⟩) (endP ([]) (vB false) ([]) 1300) =
    (OkL [(decide (N ≤ (10000 : Nat)) && (decide (N ≤ M) && (bndB B N && (ptM raw N B).isNone)), true)] ∧ false = false ∧ True) := by kernel_rfl

set_option maxHeartbeats 4000000 in
theorem boFo (t0 t1 : List UInt8) (N M : Nat) (raw : Bool) (B : Ix → Int) (c : Int) (hN : N ≤ 10000) (hM : N ≤ M) (hB : bndB B N = true) (hr : (ptM raw N B).isNone = true)  :
    RunsTo Tryd.prog 18 [.code (bodyOf Tryd.f18)] (envOf [vL 60 1 N, vB raw, vN c] Tryd.f18.ntmps) (Sx.look (sentEnts 19 144 [(0, t0), (4, t1)] ++ rB 60 M B ++ ([]))) 80 (vB false) (Sx.look ([])) 1300 := by
  have hpl := pt_len raw N B
  refine runs_last baseJ1 (Sx.Ends.of (boFo_p0 t0 t1 N M raw B c) ⟨?oo, ?rr⟩) (by kernel_rfl) rfl (gtL (by decide)) (by decide)
  case oo =>
    refine (okc ?_ okn)
    all_goals first | exact hr | omega | (simp (disch := omega) only [SS, hpl]; first | done | omega) | (refine Bool.and_eq_true_iff.2 ⟨decide_eq_true (by omega), Bool.and_eq_true_iff.2 ⟨decide_eq_true (by omega), Bool.and_eq_true_iff.2 ⟨hB, hr⟩⟩⟩) | (simp_all; done) | (simp_all; omega)
  case rr =>
    try simp (disch := omega) only [SS, hpl]
    repeat' apply And.intro
    all_goals first | exact True.intro | with_reducible rfl | omega | (intros; first | exact True.intro | with_reducible rfl | omega | (simp_all; done)) | (simp_all; done) | rfl

theorem boI (t0 t1 : List UInt8) (N M : Nat) (raw : Bool) (B : Ix → Int) (c : Int) (hN : N ≤ 10000) (hM : N ≤ M) (hB : bndB B N = true) : RunsTo Tryd.prog 18 [.code (bodyOf Tryd.f18)] (envOf [vL 60 1 N, vB raw, vN c] Tryd.f18.ntmps) (Sx.look (sentEnts 19 144 [(0, t0), (4, t1)] ++ rB 60 M B ++ ([]))) 80 (vB (brV raw N B c)) (Sx.look []) 1300 := by
  unfold brV
  cases hz : ptM raw N B with
  | none => exact boFo t0 t1 N M raw B c hN hM hB (by rw [hz]; rfl)
  | some m =>
    have hr : (ptM raw N B).isSome = true := by rw [hz]; rfl
    by_cases h1 : c < 0
    · rw [decide_eq_false (show ¬ (0 ≤ c ∧ c ≤ (N : Int)) by omega)]; exact boNeg t0 t1 N M raw B c hN hM hB hr h1
    by_cases h2 : (N : Int) < c
    · rw [decide_eq_false (show ¬ (0 ≤ c ∧ c ≤ (N : Int)) by omega)]; exact boBig t0 t1 N M raw B c hN hM hB hr h2
    rw [decide_eq_true (show 0 ≤ c ∧ c ≤ (N : Int) by omega)]
    by_cases h3 : c = 0
    · rw [decide_eq_true h3]; exact bo0 t0 t1 N M raw B c hN hM hB hr h3
    rw [decide_eq_false h3]
    by_cases h4 : c = (N : Int)
    · rw [decide_eq_true h4]; exact boN t0 t1 N M raw B c hN hM hB hr h4 (by omega)
    rw [decide_eq_false h4]
    exact boIn t0 t1 N M raw B c hN hM hB hr (by omega) (by omega)
def boP : PC := { args := [.v (.vl 60 1 0), .v (.vb 2), .v (.vi .i64 7)], heap := [⟨60, false, 1, .ta 4 (.vi .u8 5)⟩], gs := [0, 4], G := 19, tp := 144, n := 80, n' := 1300, cond := fun e => decide (eN e 0 ≤ 10000) && (decide (eN e 0 ≤ eN e 4) && bndB (eI e 5) (eN e 0)), v := fun e => vB (brV (eB e 2 []) (eN e 0) (eI e 5) (eI e 7 [])), post := fun e => [] }
theorem boP_pc : PC.Runs Tryd.prog 18 Tryd.f18 (bodyOf Tryd.f18) boP := ⟨Tryd.func18, by kernel_rfl, (fun g hg => by first | (cases hg; done) | (revert g; show ∀ g ∈ ([0, 4] : List Nat), g < 19; decide)), fun e H hc => by
  have hc : (decide (eN e 0 ≤ 10000) && (decide (eN e 0 ≤ eN e 4) && bndB (eI e 5) (eN e 0))) = true := hc
  try simp only [Bool.and_eq_true, decide_eq_true_eq, Nat.beq_eq] at hc
  exact by obtain ⟨h1, h2, h3⟩ := hc; exact boI (textAt H (19 + 0)) (textAt H (19 + 4)) (eN e 0) (eN e 4) (eB e 2 []) (eI e 5) (eI e 7 []) h1 h2 h3⟩
end Go.Proofs.YtcphocfnhekdaaaDoor

set_option linter.unusedSimpArgs false
set_option linter.unusedVariables false
set_option maxRecDepth 100000
namespace Go.Proofs.YtcphocfnhekdaaaDoor
open Go.Sx

open CleanR GramR
def sumsQO : List (FuncId × Summ) := [(12, psOkP.summ 38), (15, txOkP.summ 38), (16, r6Ok.summ 38), (11, avP.summ 38), (13, rsP.summ 38), (18, boP.summ 38), (14, byP.summ 38), (17, zP.summ 38), (19, keP.summ 38), (21, yP.summ 38), (20, numS)]
theorem baseQO : Base0 Tryd.prog sumsQO := (((((((((((baseO.cons Tryd.func20 (by kernel_rfl) numS_ok).cons Tryd.func21 (by kernel_rfl) (PC.summ_ok yP_pc gtopG)).cons Tryd.func19 (by kernel_rfl) (PC.summ_ok keP_pc gtopG)).cons Tryd.func17 (by kernel_rfl) (PC.summ_ok zP_pc gtopG)).cons Tryd.func14 (by kernel_rfl) (PC.summ_ok byP_pc gtopG)).cons Tryd.func18 (by kernel_rfl) (PC.summ_ok boP_pc gtopG)).cons Tryd.func13 (by kernel_rfl) (PC.summ_ok rsP_pc gtopG)).cons Tryd.func11 (by kernel_rfl) (PC.summ_ok avP_pc gtopG)).cons Tryd.func16 (by kernel_rfl) (PC.summ_ok r6Ok_pc gtopG)).cons Tryd.func15 (by kernel_rfl) (PC.summ_ok txOkP_pc gtopG)).cons Tryd.func12 (by kernel_rfl) (PC.summ_ok psOkP_pc gtopG))
def sumsQF : List (FuncId × Summ) := [(12, psFoP.summ 38), (15, txFoP.summ 38), (16, r6Fo.summ 38), (11, avP.summ 38), (13, rsP.summ 38), (18, boP.summ 38), (14, byP.summ 38), (17, zP.summ 38), (19, keP.summ 38), (21, yP.summ 38), (20, numS)]
theorem baseQF : Base0 Tryd.prog sumsQF := (((((((((((baseO.cons Tryd.func20 (by kernel_rfl) numS_ok).cons Tryd.func21 (by kernel_rfl) (PC.summ_ok yP_pc gtopG)).cons Tryd.func19 (by kernel_rfl) (PC.summ_ok keP_pc gtopG)).cons Tryd.func17 (by kernel_rfl) (PC.summ_ok zP_pc gtopG)).cons Tryd.func14 (by kernel_rfl) (PC.summ_ok byP_pc gtopG)).cons Tryd.func18 (by kernel_rfl) (PC.summ_ok boP_pc gtopG)).cons Tryd.func13 (by kernel_rfl) (PC.summ_ok rsP_pc gtopG)).cons Tryd.func11 (by kernel_rfl) (PC.summ_ok avP_pc gtopG)).cons Tryd.func16 (by kernel_rfl) (PC.summ_ok r6Fo_pc gtopG)).cons Tryd.func15 (by kernel_rfl) (PC.summ_ok txFoP_pc gtopG)).cons Tryd.func12 (by kernel_rfl) (PC.summ_ok psFoP_pc gtopG))
def allS (t0 t1 t2 t3 t4 t5 t6 t7 t8 t9 t10 t11 t12 t13 t14 t15 : List UInt8) : List Ent := sentEnts 19 144 [(2, t0), (5, t1), (4, t2), (3, t3), (0, t4), (6, t5), (7, t6), (8, t7), (1, t8), (9, t9), (10, t10), (11, t11), (12, t12), (13, t13), (14, t14), (15, t15)]
theorem qLong_p0 (t0 t1 t2 t3 t4 t5 t6 t7 t8 t9 t10 t11 t12 t13 t14 t15 : List UInt8) (N : Nat) (raw : Bool) (B : Ix → Int) (c : Int) :
    isEnd (evTill Tryd.prog sumsQO 700 (99) 900 4 [.code (bodyOf Tryd.f4)] (envOf [vL 100 1 N, vB raw, vN c] Tryd.f4.ntmps) (allS t0 t1 t2 t3 t4 t5 t6 t7 t8 t9 t10 t11 t12 t13 t14 t15 ++ rB 100 N B ++ ([])) ⟨[.t, .f, .s true], 110⟩) (endP ([]) (YES) ([]) 20000) =
    (OkL [(decide ((↑N : Int) > (900 : Int)), true)] ∧ true = true ∧ True) := by kernel_rfl

set_option maxHeartbeats 4000000 in
theorem qLong (t0 t1 t2 t3 t4 t5 t6 t7 t8 t9 t10 t11 t12 t13 t14 t15 : List UInt8) (N : Nat) (raw : Bool) (B : Ix → Int) (c : Int) (h : 900 < N)  :
    RunsTo Tryd.prog 4 [.code (bodyOf Tryd.f4)] (envOf [vL 100 1 N, vB raw, vN c] Tryd.f4.ntmps) (Sx.look (allS t0 t1 t2 t3 t4 t5 t6 t7 t8 t9 t10 t11 t12 t13 t14 t15 ++ rB 100 N B ++ ([]))) 110 (YES) (Sx.look ([])) 20000 := by
  refine runs_last baseQO (Sx.Ends.of (qLong_p0 t0 t1 t2 t3 t4 t5 t6 t7 t8 t9 t10 t11 t12 t13 t14 t15 N raw B c) ⟨?oo, ?rr⟩) (by kernel_rfl) rfl (gtL (by decide)) (by decide)
  case oo =>
    refine (okc ?_ okn)
    all_goals ((try simp (disch := omega) only [SS]); first | done | omega | assumption | (simp (disch := omega) only [SS] at *; first | done | omega | assumption) | (simp_all; done))
  case rr =>
    try simp (disch := omega) only [SS]
    repeat' apply And.intro
    all_goals first | exact True.intro | with_reducible rfl | omega | (intros; first | exact True.intro | with_reducible rfl | omega | (simp_all; done)) | (simp_all; done) | rfl

theorem qForm_p0 (t0 t1 t2 t3 t4 t5 t6 t7 t8 t9 t10 t11 t12 t13 t14 t15 : List UInt8) (N : Nat) (raw : Bool) (B : Ix → Int) (c : Int) :
    isEnd (evTill Tryd.prog sumsQF 700 (99) 900 4 [.code (bodyOf Tryd.f4)] (envOf [vL 100 1 N, vB raw, vN c] Tryd.f4.ntmps) (allS t0 t1 t2 t3 t4 t5 t6 t7 t8 t9 t10 t11 t12 t13 t14 t15 ++ rB 100 N B ++ ([])) ⟨[.t, .f, .s false, .s true, .s true, .s true, .s true, .s true, .s true, .f, .s true, .s false, .s true, .s false, .s true, .s true, .s true, .f, .t, .t, .t, .t], 110⟩) (endP ([]) (YES) ([]) 20000) =
    (OkL [(decide ((↑N : Int) > (900 : Int)), false), (N.beq N, true), (decide (N ≤ (1000 : Nat)), true), (decide (N ≤ (10000 : Nat)) && (decide (N ≤ N + (5 : Nat)) && (bndB (inG B N (5 : Nat)) N && (ptM raw N (inG B N (5 : Nat))).isNone)), true), (decide (N ≤ (10000 : Nat)) && (decide (N ≤ N + (5 : Nat)) && (bndB (inG B N (5 : Nat)) N && (ptM raw N (inG B N (5 : Nat))).isNone)), true), (((0 : Nat) + N).ble N, true), (decide ((bytesOf B [] (0 : Nat) N).length ≤ (1000 : Nat)) && !alS raw (bytesOf B [] (0 : Nat) N), true), (decide (N ≤ (10000 : Nat)) && (decide (N ≤ N + (5 : Nat)) && bndB (inG B N (5 : Nat)) N), true), ((↑(restN raw N (inG B N (5 : Nat))) : Int) != (0 : Int), false), (decide (N ≤ (10000 : Nat)) && (decide (N ≤ N + (5 : Nat)) && bndB (inG B N (5 : Nat)) N), true), (!brV raw N (inG B N (5 : Nat)) c == false, false), (N.beq N, true), (N.beq N, true), (decide (N ≤ (1000 : Nat)) && decide (N + (5 : Nat) ≤ N + (5 : Nat)) && allEq (inG B N (5 : Nat)) (inG B N (5 : Nat)) (N + (5 : Nat)), true)] ∧ true = (numOf (if true = true then (19 : Nat) else (3830 : Nat)) == (5 : Int)) ∧ True) := by kernel_rfl

set_option maxHeartbeats 4000000 in
theorem qForm (t0 t1 t2 t3 t4 t5 t6 t7 t8 t9 t10 t11 t12 t13 t14 t15 : List UInt8) (N : Nat) (raw : Bool) (B : Ix → Int) (c : Int) (hN : N ≤ 900) (hB : bndB B N = true) (hr : (ptM raw N (inG B N 5)).isNone = true) (h0 : restN raw N (inG B N 5) = 0) (hb : brV raw N (inG B N 5) c = false) (hA : alS raw (bytesOf B [] 0 N) = false)  :
    RunsTo Tryd.prog 4 [.code (bodyOf Tryd.f4)] (envOf [vL 100 1 N, vB raw, vN c] Tryd.f4.ntmps) (Sx.look (allS t0 t1 t2 t3 t4 t5 t6 t7 t8 t9 t10 t11 t12 t13 t14 t15 ++ rB 100 N B ++ ([]))) 110 (YES) (Sx.look ([])) 20000 := by
  have hbi : bndB (inG B N 5) N = true := bndB_of fun i hi => by rw [inG_at, if_pos hi]; exact bndB_ok hB hi
  have hlen := bytesOf_len B [] 0 N
  have hall : allEq (inG B N 5) (inG B N 5) (N + 5) = true := allEq_of (fun _ _ => rfl)
  have hk : numOf 19 = 5 := rfl
  refine runs_last baseQF (Sx.Ends.of (qForm_p0 t0 t1 t2 t3 t4 t5 t6 t7 t8 t9 t10 t11 t12 t13 t14 t15 N raw B c) ⟨?oo, ?rr⟩) (by kernel_rfl) rfl (gtL (by decide)) (by decide)
  case oo =>
    refine (okc ?_ (okc ?_ (okc ?_ (okc ?_ (okc ?_ (okc ?_ (okc ?_ (okc ?_ (okc ?_ (okc ?_ (okc ?_ (okc ?_ (okc ?_ (okc ?_ okn))))))))))))))
    all_goals first | omega | exact hall | (simp (disch := omega) only [SS, hlen, hk, h0, hb, hA, hbi]; first | done | omega | exact ⟨by omega, by omega, hbi⟩ | exact ⟨by omega, by omega, hbi, hr⟩ | exact ⟨⟨by omega, by omega⟩, hall⟩ | exact ⟨by omega, hcd⟩) | (simp_all; done) | (simp_all; omega)
  case rr =>
    try simp (disch := omega) only [SS, hlen, hk, h0, hb, hA, hbi]
    repeat' apply And.intro
    all_goals first | exact True.intro | with_reducible rfl | omega | (intros; first | exact True.intro | with_reducible rfl | omega | (simp_all; done)) | (simp_all; done) | rfl

theorem qA_p0 (t0 t1 t2 t3 t4 t5 t6 t7 t8 t9 t10 t11 t12 t13 t14 t15 : List UInt8) (N : Nat) (raw : Bool) (B : Ix → Int) (c : Int) (T : List Itm) (m : Nat) :
    isMore (evTill Tryd.prog sumsQO 700 (behind Tryd.f4 0) 900 4 [.code (bodyOf Tryd.f4)] (envOf [vL 100 1 N, vB raw, vN c] Tryd.f4.ntmps) (allS t0 t1 t2 t3 t4 t5 t6 t7 t8 t9 t10 t11 t12 t13 t14 t15 ++ rB 100 N B ++ ([])) ⟨[.t, .f, .s false, .s true, .s true, .s true, .s true, .s true, .s true, .t, .s false, .s true, .s false, .s true, .s false, .s true, .s true, .s true, .f, .f, .f, .f, .s false, .s true, .s true, .s true, .s false], 110⟩) (moreP (headOf Tryd.f4 0) ([((123 : Nat), Rn.to (4671 : Nat)), ((121 : Nat), Rn.to (3171 : Nat)), ((122 : Nat), Rn.to (3172 : Nat))]) Tryd.f4.ntmps ([(12, vL 123 6 T.length), (123, vL 121 6 T.length), (124, vN T.length), (125, vN (0 : Nat))]) (itE 121 122 T ++ jE 123 T) 20000) =
    (OkL [(decide ((↑N : Int) > (900 : Int)), false), (N.beq N, true), (decide (N ≤ (1000 : Nat)), true), (decide (N ≤ (10000 : Nat)) && (decide (N ≤ N + (5 : Nat)) && (bndB (inG B N (5 : Nat)) N && (ptM raw N (inG B N (5 : Nat))).isSome)), true), (decide (N ≤ (10000 : Nat)) && (decide (N ≤ N + (5 : Nat)) && (bndB (inG B N (5 : Nat)) N && (ptM raw N (inG B N (5 : Nat))).isSome)), true), (((0 : Nat) + N).ble N, true), (decide ((bytesOf B [] (0 : Nat) N).length ≤ (1000 : Nat)) && alS raw (bytesOf B [] (0 : Nat) N), true), (decide (c ≥ (0 : Int)), false), (decide (N ≤ (10000 : Nat)) && (decide (N ≤ N + (5 : Nat)) && bndB (inG B N (5 : Nat)) N), true), ((↑(restN raw N (inG B N (5 : Nat))) : Int) != (↑(alN raw (bytesOf B [] (0 : Nat) N)) : Int), false), (decide (N ≤ (10000 : Nat)) && (decide (N ≤ N + (5 : Nat)) && bndB (inG B N (5 : Nat)) N), true), (!brV raw N (inG B N (5 : Nat)) c == false, false), (N.beq N, true), (N.beq N, true), (decide (N ≤ (1000 : Nat)) && decide (N + (5 : Nat) ≤ N + (5 : Nat)) && allEq (inG B N (5 : Nat)) (inG B N (5 : Nat)) (N + (5 : Nat)), true), ((↑(ptT raw N (inG B N (5 : Nat))).length : Int) != (↑(alT raw (bytesOf B [] (0 : Nat) N)).length : Int), false), (((0 : Nat) + (txL raw N (inG B N (5 : Nat))).length).ble (txL raw N (inG B N (5 : Nat))).length, true), ((alT raw (bytesOf B [] (0 : Nat) N)).length.beq (alT raw (bytesOf B [] (0 : Nat) N)).length, true), (decide ((alT raw (bytesOf B [] (0 : Nat) N)).length ≤ (10000 : Nat)) && cdB (iK (alT raw (bytesOf B [] (0 : Nat) N))) (iC (alT raw (bytesOf B [] (0 : Nat) N))) (alT raw (bytesOf B [] (0 : Nat) N)).length, true), (!bytesOf (fun is => (↑((txL raw N (inG B N (5 : Nat))).getD (List.headD is (0 : Nat)) (0 : UInt8)).toNat : Int)) [] (0 : Nat) (txL raw N (inG B N (5 : Nat))).length == txG (iK (alT raw (bytesOf B [] (0 : Nat) N))) (iC (alT raw (bytesOf B [] (0 : Nat) N))) (alT raw (bytesOf B [] (0 : Nat) N)).length, false)] ∧ headOf Tryd.f4 (0 : Nat) = headOf Tryd.f4 (0 : Nat) ∧ (((0 : Nat) = (0 : Nat) ∧ T.length = (alT raw (bytesOf B [] (0 : Nat) N)).length) ∧ ((0 : Nat) = (0 : Nat) ∧ T.length = (ptT raw N (inG B N (5 : Nat))).length) ∧ (↑T.length : Int) = (↑(ptT raw N (inG B N (5 : Nat))).length : Int) ∧ (↑(0 : Nat) : Int) = (0 : Int)) ∧ (T.length = (ptT raw N (inG B N (5 : Nat))).length ∧ (∀ (i : Nat), i < T.length → iK T [i] = iK (ptT raw N (inG B N (5 : Nat))) [i]) ∧ (∀ (i : Nat), i < T.length → iF T [i] = iF (ptT raw N (inG B N (5 : Nat))) [i]) ∧ (∀ (i : Nat), i < T.length → iT T [i] = iT (ptT raw N (inG B N (5 : Nat))) [i]) ∧ (∀ (i : Nat), i < T.length → iC T [i] = iC (ptT raw N (inG B N (5 : Nat))) [i]) ∧ (∀ (i : Nat), i < T.length → iO T [i] = iO (ptT raw N (inG B N (5 : Nat))) [i]) ∧ (∀ (i : Nat), i < T.length → iM T [i] = iM (ptT raw N (inG B N (5 : Nat))) [i]) ∧ ∀ (i : Nat), i < T.length → iW T [i] = iW (ptT raw N (inG B N (5 : Nat))) [i]) ∧ (T.length = (ptT raw N (inG B N (5 : Nat))).length ∧ ∀ (m : Nat), m < T.length → iL T m = iL (ptT raw N (inG B N (5 : Nat))) m ∧ ∀ (i : Nat), i < iL T m → iZ T [m, i] = iZ (ptT raw N (inG B N (5 : Nat))) [m, i]) ∧ T.length = (alT raw (bytesOf B [] (0 : Nat) N)).length ∧ (∀ (i : Nat), i < T.length → iK T [i] = iK (alT raw (bytesOf B [] (0 : Nat) N)) [i]) ∧ (∀ (i : Nat), i < T.length → iF T [i] = iF (alT raw (bytesOf B [] (0 : Nat) N)) [i]) ∧ (∀ (i : Nat), i < T.length → iT T [i] = iT (alT raw (bytesOf B [] (0 : Nat) N)) [i]) ∧ (∀ (i : Nat), i < T.length → iC T [i] = iC (alT raw (bytesOf B [] (0 : Nat) N)) [i]) ∧ (∀ (i : Nat), i < T.length → iO T [i] = iO (alT raw (bytesOf B [] (0 : Nat) N)) [i]) ∧ ∀ (i : Nat), i < T.length → iY T [i] = iY (alT raw (bytesOf B [] (0 : Nat) N)) [i]) := by kernel_rfl

set_option maxHeartbeats 4000000 in
theorem qA (t0 t1 t2 t3 t4 t5 t6 t7 t8 t9 t10 t11 t12 t13 t14 t15 : List UInt8) (N : Nat) (raw : Bool) (B : Ix → Int) (c : Int) (T : List Itm) (m : Nat) (hN : N ≤ 900) (hB : bndB B N = true) (hr : (ptM raw N (inG B N 5)).isSome = true) (hT : ptT raw N (inG B N 5) = T) (hA : alS raw (bytesOf B [] 0 N) = true) (hA1 : alT raw (bytesOf B [] 0 N) = T) (hA2 : alN raw (bytesOf B [] 0 N) = m) (hm : restN raw N (inG B N 5) = m) (hx : txL raw N (inG B N 5) = txG (iK T) (iC T) T.length) (hcd : cdB (iK T) (iC T) T.length = true) (hl : T.length ≤ N) (hc : c < 0) (hbr : brV raw N (inG B N 5) c = false)  (next : RunsTo Tryd.prog 4 (headOf Tryd.f4 0) (envAt Tryd.f4.ntmps ([(12, vL 123 6 T.length), (123, vL 121 6 T.length), (124, vN T.length), (125, vN (0 : Nat))])) (Sx.look (allS t0 t1 t2 t3 t4 t5 t6 t7 t8 t9 t10 t11 t12 t13 t14 t15 ++ rB 100 N B ++ (itE 121 122 T ++ jE 123 T))) 110 (YES) (Sx.look []) 20000) :
    RunsTo Tryd.prog 4 [.code (bodyOf Tryd.f4)] (envOf [vL 100 1 N, vB raw, vN c] Tryd.f4.ntmps) (Sx.look (allS t0 t1 t2 t3 t4 t5 t6 t7 t8 t9 t10 t11 t12 t13 t14 t15 ++ rB 100 N B ++ ([]))) 110 (YES) (Sx.look []) 20000 := by
  have hbi : bndB (inG B N 5) N = true := bndB_of fun i hi => by rw [inG_at, if_pos hi]; exact bndB_ok hB hi
  have hlen := bytesOf_len B [] 0 N
  have hall : allEq (inG B N 5) (inG B N 5) (N + 5) = true := allEq_of (fun _ _ => rfl)
  have hk : numOf 19 = 5 := rfl
  have hby := bytesOf_full (txG (iK T) (iC T) T.length)
  refine runs_more baseQO (More.of (qA_p0 t0 t1 t2 t3 t4 t5 t6 t7 t8 t9 t10 t11 t12 t13 t14 t15 N raw B c T m) ⟨?oo, rfl, ?rr⟩) (by kernel_rfl) (by kernel_rfl) rfl (gtL (by decide)) (by decide) next
  case oo =>
    clear next
    refine (okc ?_ (okc ?_ (okc ?_ (okc ?_ (okc ?_ (okc ?_ (okc ?_ (okc ?_ (okc ?_ (okc ?_ (okc ?_ (okc ?_ (okc ?_ (okc ?_ (okc ?_ (okc ?_ (okc ?_ (okc ?_ (okc ?_ (okc ?_ okn))))))))))))))))))))
    all_goals first | omega | exact hall | (simp (disch := omega) only [SS, hlen, hT, hA, hA1, hA2, hm, hx, hbr, hby]; first | done | omega | exact ⟨by omega, by omega, hbi⟩ | exact ⟨by omega, by omega, hbi, hr⟩ | exact ⟨⟨by omega, by omega⟩, hall⟩ | exact ⟨by omega, hcd⟩) | (simp_all; done) | (simp_all; omega)
  case rr =>
    clear next
    try simp (disch := omega) only [SS, hlen, hT, hA, hA1, hA2, hm, hx, hbr, hby]
    repeat' apply And.intro
    all_goals first | exact True.intro | with_reducible rfl | omega | (intros; first | exact True.intro | with_reducible rfl | omega | (simp_all; done)) | (simp_all; done) | rfl

theorem qB_p0 (t0 t1 t2 t3 t4 t5 t6 t7 t8 t9 t10 t11 t12 t13 t14 t15 : List UInt8) (N : Nat) (raw : Bool) (B : Ix → Int) (c : Int) (T : List Itm) (m : Nat) :
    isMore (evTill Tryd.prog sumsQO 700 (behind Tryd.f4 0) 900 4 [.code (bodyOf Tryd.f4)] (envOf [vL 100 1 N, vB raw, vN c] Tryd.f4.ntmps) (allS t0 t1 t2 t3 t4 t5 t6 t7 t8 t9 t10 t11 t12 t13 t14 t15 ++ rB 100 N B ++ ([])) ⟨[.t, .f, .s false, .s true, .s true, .s true, .s true, .s true, .s true, .t, .s true, .s false, .s true, .s false, .s true, .s false, .s true, .s true, .s true, .f, .f, .f, .f, .s false, .s true, .s true, .s true, .s false], 110⟩) (moreP (headOf Tryd.f4 0) ([((123 : Nat), Rn.to (4671 : Nat)), ((121 : Nat), Rn.to (3171 : Nat)), ((122 : Nat), Rn.to (3172 : Nat))]) Tryd.f4.ntmps ([(12, vL 123 6 T.length), (123, vL 121 6 T.length), (124, vN T.length), (125, vN (0 : Nat))]) (itE 121 122 T ++ jE 123 T) 20000) =
    (OkL [(decide ((↑N : Int) > (900 : Int)), false), (N.beq N, true), (decide (N ≤ (1000 : Nat)), true), (decide (N ≤ (10000 : Nat)) && (decide (N ≤ N + (5 : Nat)) && (bndB (inG B N (5 : Nat)) N && (ptM raw N (inG B N (5 : Nat))).isSome)), true), (decide (N ≤ (10000 : Nat)) && (decide (N ≤ N + (5 : Nat)) && (bndB (inG B N (5 : Nat)) N && (ptM raw N (inG B N (5 : Nat))).isSome)), true), (((0 : Nat) + N).ble N, true), (decide ((bytesOf B [] (0 : Nat) N).length ≤ (1000 : Nat)) && alS raw (bytesOf B [] (0 : Nat) N), true), (decide (c ≥ (0 : Int)), true), (decide (c ≤ (↑N : Int)), false), (decide (N ≤ (10000 : Nat)) && (decide (N ≤ N + (5 : Nat)) && bndB (inG B N (5 : Nat)) N), true), ((↑(restN raw N (inG B N (5 : Nat))) : Int) != (↑(alN raw (bytesOf B [] (0 : Nat) N)) : Int), false), (decide (N ≤ (10000 : Nat)) && (decide (N ≤ N + (5 : Nat)) && bndB (inG B N (5 : Nat)) N), true), (!brV raw N (inG B N (5 : Nat)) c == false, false), (N.beq N, true), (N.beq N, true), (decide (N ≤ (1000 : Nat)) && decide (N + (5 : Nat) ≤ N + (5 : Nat)) && allEq (inG B N (5 : Nat)) (inG B N (5 : Nat)) (N + (5 : Nat)), true), ((↑(ptT raw N (inG B N (5 : Nat))).length : Int) != (↑(alT raw (bytesOf B [] (0 : Nat) N)).length : Int), false), (((0 : Nat) + (txL raw N (inG B N (5 : Nat))).length).ble (txL raw N (inG B N (5 : Nat))).length, true), ((alT raw (bytesOf B [] (0 : Nat) N)).length.beq (alT raw (bytesOf B [] (0 : Nat) N)).length, true), (decide ((alT raw (bytesOf B [] (0 : Nat) N)).length ≤ (10000 : Nat)) && cdB (iK (alT raw (bytesOf B [] (0 : Nat) N))) (iC (alT raw (bytesOf B [] (0 : Nat) N))) (alT raw (bytesOf B [] (0 : Nat) N)).length, true), (!bytesOf (fun is => (↑((txL raw N (inG B N (5 : Nat))).getD (List.headD is (0 : Nat)) (0 : UInt8)).toNat : Int)) [] (0 : Nat) (txL raw N (inG B N (5 : Nat))).length == txG (iK (alT raw (bytesOf B [] (0 : Nat) N))) (iC (alT raw (bytesOf B [] (0 : Nat) N))) (alT raw (bytesOf B [] (0 : Nat) N)).length, false)] ∧ headOf Tryd.f4 (0 : Nat) = headOf Tryd.f4 (0 : Nat) ∧ (((0 : Nat) = (0 : Nat) ∧ T.length = (alT raw (bytesOf B [] (0 : Nat) N)).length) ∧ ((0 : Nat) = (0 : Nat) ∧ T.length = (ptT raw N (inG B N (5 : Nat))).length) ∧ (↑T.length : Int) = (↑(ptT raw N (inG B N (5 : Nat))).length : Int) ∧ (↑(0 : Nat) : Int) = (0 : Int)) ∧ (T.length = (ptT raw N (inG B N (5 : Nat))).length ∧ (∀ (i : Nat), i < T.length → iK T [i] = iK (ptT raw N (inG B N (5 : Nat))) [i]) ∧ (∀ (i : Nat), i < T.length → iF T [i] = iF (ptT raw N (inG B N (5 : Nat))) [i]) ∧ (∀ (i : Nat), i < T.length → iT T [i] = iT (ptT raw N (inG B N (5 : Nat))) [i]) ∧ (∀ (i : Nat), i < T.length → iC T [i] = iC (ptT raw N (inG B N (5 : Nat))) [i]) ∧ (∀ (i : Nat), i < T.length → iO T [i] = iO (ptT raw N (inG B N (5 : Nat))) [i]) ∧ (∀ (i : Nat), i < T.length → iM T [i] = iM (ptT raw N (inG B N (5 : Nat))) [i]) ∧ ∀ (i : Nat), i < T.length → iW T [i] = iW (ptT raw N (inG B N (5 : Nat))) [i]) ∧ (T.length = (ptT raw N (inG B N (5 : Nat))).length ∧ ∀ (m : Nat), m < T.length → iL T m = iL (ptT raw N (inG B N (5 : Nat))) m ∧ ∀ (i : Nat), i < iL T m → iZ T [m, i] = iZ (ptT raw N (inG B N (5 : Nat))) [m, i]) ∧ T.length = (alT raw (bytesOf B [] (0 : Nat) N)).length ∧ (∀ (i : Nat), i < T.length → iK T [i] = iK (alT raw (bytesOf B [] (0 : Nat) N)) [i]) ∧ (∀ (i : Nat), i < T.length → iF T [i] = iF (alT raw (bytesOf B [] (0 : Nat) N)) [i]) ∧ (∀ (i : Nat), i < T.length → iT T [i] = iT (alT raw (bytesOf B [] (0 : Nat) N)) [i]) ∧ (∀ (i : Nat), i < T.length → iC T [i] = iC (alT raw (bytesOf B [] (0 : Nat) N)) [i]) ∧ (∀ (i : Nat), i < T.length → iO T [i] = iO (alT raw (bytesOf B [] (0 : Nat) N)) [i]) ∧ ∀ (i : Nat), i < T.length → iY T [i] = iY (alT raw (bytesOf B [] (0 : Nat) N)) [i]) := by kernel_rfl

set_option maxHeartbeats 4000000 in
theorem qB (t0 t1 t2 t3 t4 t5 t6 t7 t8 t9 t10 t11 t12 t13 t14 t15 : List UInt8) (N : Nat) (raw : Bool) (B : Ix → Int) (c : Int) (T : List Itm) (m : Nat) (hN : N ≤ 900) (hB : bndB B N = true) (hr : (ptM raw N (inG B N 5)).isSome = true) (hT : ptT raw N (inG B N 5) = T) (hA : alS raw (bytesOf B [] 0 N) = true) (hA1 : alT raw (bytesOf B [] 0 N) = T) (hA2 : alN raw (bytesOf B [] 0 N) = m) (hm : restN raw N (inG B N 5) = m) (hx : txL raw N (inG B N 5) = txG (iK T) (iC T) T.length) (hcd : cdB (iK T) (iC T) T.length = true) (hl : T.length ≤ N) (hc : (N : Int) < c) (hbr : brV raw N (inG B N 5) c = false)  (next : RunsTo Tryd.prog 4 (headOf Tryd.f4 0) (envAt Tryd.f4.ntmps ([(12, vL 123 6 T.length), (123, vL 121 6 T.length), (124, vN T.length), (125, vN (0 : Nat))])) (Sx.look (allS t0 t1 t2 t3 t4 t5 t6 t7 t8 t9 t10 t11 t12 t13 t14 t15 ++ rB 100 N B ++ (itE 121 122 T ++ jE 123 T))) 110 (YES) (Sx.look []) 20000) :
    RunsTo Tryd.prog 4 [.code (bodyOf Tryd.f4)] (envOf [vL 100 1 N, vB raw, vN c] Tryd.f4.ntmps) (Sx.look (allS t0 t1 t2 t3 t4 t5 t6 t7 t8 t9 t10 t11 t12 t13 t14 t15 ++ rB 100 N B ++ ([]))) 110 (YES) (Sx.look []) 20000 := by
  have hbi : bndB (inG B N 5) N = true := bndB_of fun i hi => by rw [inG_at, if_pos hi]; exact bndB_ok hB hi
  have hlen := bytesOf_len B [] 0 N
  have hall : allEq (inG B N 5) (inG B N 5) (N + 5) = true := allEq_of (fun _ _ => rfl)
  have hk : numOf 19 = 5 := rfl
  have hby := bytesOf_full (txG (iK T) (iC T) T.length)
  refine runs_more baseQO (More.of (qB_p0 t0 t1 t2 t3 t4 t5 t6 t7 t8 t9 t10 t11 t12 t13 t14 t15 N raw B c T m) ⟨?oo, rfl, ?rr⟩) (by kernel_rfl) (by kernel_rfl) rfl (gtL (by decide)) (by decide) next
  case oo =>
    clear next
    refine (okc ?_ (okc ?_ (okc ?_ (okc ?_ (okc ?_ (okc ?_ (okc ?_ (okc ?_ (okc ?_ (okc ?_ (okc ?_ (okc ?_ (okc ?_ (okc ?_ (okc ?_ (okc ?_ (okc ?_ (okc ?_ (okc ?_ (okc ?_ (okc ?_ okn)))))))))))))))))))))
    all_goals first | omega | exact hall | (simp (disch := omega) only [SS, hlen, hT, hA, hA1, hA2, hm, hx, hbr, hby]; first | done | omega | exact ⟨by omega, by omega, hbi⟩ | exact ⟨by omega, by omega, hbi, hr⟩ | exact ⟨⟨by omega, by omega⟩, hall⟩ | exact ⟨by omega, hcd⟩) | (simp_all; done) | (simp_all; omega)
  case rr =>
    clear next
    try simp (disch := omega) only [SS, hlen, hT, hA, hA1, hA2, hm, hx, hbr, hby]
    repeat' apply And.intro
    all_goals first | exact True.intro | with_reducible rfl | omega | (intros; first | exact True.intro | with_reducible rfl | omega | (simp_all; done)) | (simp_all; done) | rfl

theorem qC_p0 (t0 t1 t2 t3 t4 t5 t6 t7 t8 t9 t10 t11 t12 t13 t14 t15 : List UInt8) (N : Nat) (raw : Bool) (B : Ix → Int) (c : Int) (T : List Itm) (m : Nat) :
    isMore (evTill Tryd.prog sumsQO 700 (behind Tryd.f4 0) 900 4 [.code (bodyOf Tryd.f4)] (envOf [vL 100 1 N, vB raw, vN c] Tryd.f4.ntmps) (allS t0 t1 t2 t3 t4 t5 t6 t7 t8 t9 t10 t11 t12 t13 t14 t15 ++ rB 100 N B ++ ([])) ⟨[.t, .f, .s false, .s true, .s true, .s true, .s true, .s true, .s true, .t, .s true, .s true, .s true, .s true, .s true, .s false, .s true, .s false, .s true, .s true, .s true, .f, .f, .f, .f, .s false, .s true, .s true, .s true, .s false], 110⟩) (moreP (headOf Tryd.f4 0) ([((123 : Nat), Rn.to (4671 : Nat)), ((121 : Nat), Rn.to (3171 : Nat)), ((122 : Nat), Rn.to (3172 : Nat))]) Tryd.f4.ntmps ([(12, vL 123 6 T.length), (123, vL 121 6 T.length), (124, vN T.length), (125, vN (0 : Nat))]) (itE 121 122 T ++ jE 123 T) 20000) =
    (OkL [(decide ((↑N : Int) > (900 : Int)), false), (N.beq N, true), (decide (N ≤ (1000 : Nat)), true), (decide (N ≤ (10000 : Nat)) && (decide (N ≤ N + (5 : Nat)) && (bndB (inG B N (5 : Nat)) N && (ptM raw N (inG B N (5 : Nat))).isSome)), true), (decide (N ≤ (10000 : Nat)) && (decide (N ≤ N + (5 : Nat)) && (bndB (inG B N (5 : Nat)) N && (ptM raw N (inG B N (5 : Nat))).isSome)), true), (((0 : Nat) + N).ble N, true), (decide ((bytesOf B [] (0 : Nat) N).length ≤ (1000 : Nat)) && alS raw (bytesOf B [] (0 : Nat) N), true), (decide (c ≥ (0 : Int)), true), (decide (c ≤ (↑N : Int)), true), ((alT raw (bytesOf B [] (0 : Nat) N)).length.beq (alT raw (bytesOf B [] (0 : Nat) N)).length, true), (decide ((alT raw (bytesOf B [] (0 : Nat) N)).length ≤ (10000 : Nat)), true), (decide (N ≤ (10000 : Nat)) && (decide (N ≤ N + (5 : Nat)) && bndB (inG B N (5 : Nat)) N), true), ((↑(restN raw N (inG B N (5 : Nat))) : Int) != (↑(alN raw (bytesOf B [] (0 : Nat) N)) : Int), false), (decide (N ≤ (10000 : Nat)) && (decide (N ≤ N + (5 : Nat)) && bndB (inG B N (5 : Nat)) N), true), (!brV raw N (inG B N (5 : Nat)) c == brW (iF (alT raw (bytesOf B [] (0 : Nat) N))) (iT (alT raw (bytesOf B [] (0 : Nat) N))) (alT raw (bytesOf B [] (0 : Nat) N)).length (↑N : Int) c, false), (N.beq N, true), (N.beq N, true), (decide (N ≤ (1000 : Nat)) && decide (N + (5 : Nat) ≤ N + (5 : Nat)) && allEq (inG B N (5 : Nat)) (inG B N (5 : Nat)) (N + (5 : Nat)), true), ((↑(ptT raw N (inG B N (5 : Nat))).length : Int) != (↑(alT raw (bytesOf B [] (0 : Nat) N)).length : Int), false), (((0 : Nat) + (txL raw N (inG B N (5 : Nat))).length).ble (txL raw N (inG B N (5 : Nat))).length, true), ((alT raw (bytesOf B [] (0 : Nat) N)).length.beq (alT raw (bytesOf B [] (0 : Nat) N)).length, true), (decide ((alT raw (bytesOf B [] (0 : Nat) N)).length ≤ (10000 : Nat)) && cdB (iK (alT raw (bytesOf B [] (0 : Nat) N))) (iC (alT raw (bytesOf B [] (0 : Nat) N))) (alT raw (bytesOf B [] (0 : Nat) N)).length, true), (!bytesOf (fun is => (↑((txL raw N (inG B N (5 : Nat))).getD (List.headD is (0 : Nat)) (0 : UInt8)).toNat : Int)) [] (0 : Nat) (txL raw N (inG B N (5 : Nat))).length == txG (iK (alT raw (bytesOf B [] (0 : Nat) N))) (iC (alT raw (bytesOf B [] (0 : Nat) N))) (alT raw (bytesOf B [] (0 : Nat) N)).length, false)] ∧ headOf Tryd.f4 (0 : Nat) = headOf Tryd.f4 (0 : Nat) ∧ (((0 : Nat) = (0 : Nat) ∧ T.length = (alT raw (bytesOf B [] (0 : Nat) N)).length) ∧ ((0 : Nat) = (0 : Nat) ∧ T.length = (ptT raw N (inG B N (5 : Nat))).length) ∧ (↑T.length : Int) = (↑(ptT raw N (inG B N (5 : Nat))).length : Int) ∧ (↑(0 : Nat) : Int) = (0 : Int)) ∧ (T.length = (ptT raw N (inG B N (5 : Nat))).length ∧ (∀ (i : Nat), i < T.length → iK T [i] = iK (ptT raw N (inG B N (5 : Nat))) [i]) ∧ (∀ (i : Nat), i < T.length → iF T [i] = iF (ptT raw N (inG B N (5 : Nat))) [i]) ∧ (∀ (i : Nat), i < T.length → iT T [i] = iT (ptT raw N (inG B N (5 : Nat))) [i]) ∧ (∀ (i : Nat), i < T.length → iC T [i] = iC (ptT raw N (inG B N (5 : Nat))) [i]) ∧ (∀ (i : Nat), i < T.length → iO T [i] = iO (ptT raw N (inG B N (5 : Nat))) [i]) ∧ (∀ (i : Nat), i < T.length → iM T [i] = iM (ptT raw N (inG B N (5 : Nat))) [i]) ∧ ∀ (i : Nat), i < T.length → iW T [i] = iW (ptT raw N (inG B N (5 : Nat))) [i]) ∧ (T.length = (ptT raw N (inG B N (5 : Nat))).length ∧ ∀ (m : Nat), m < T.length → iL T m = iL (ptT raw N (inG B N (5 : Nat))) m ∧ ∀ (i : Nat), i < iL T m → iZ T [m, i] = iZ (ptT raw N (inG B N (5 : Nat))) [m, i]) ∧ T.length = (alT raw (bytesOf B [] (0 : Nat) N)).length ∧ (∀ (i : Nat), i < T.length → iK T [i] = iK (alT raw (bytesOf B [] (0 : Nat) N)) [i]) ∧ (∀ (i : Nat), i < T.length → iF T [i] = iF (alT raw (bytesOf B [] (0 : Nat) N)) [i]) ∧ (∀ (i : Nat), i < T.length → iT T [i] = iT (alT raw (bytesOf B [] (0 : Nat) N)) [i]) ∧ (∀ (i : Nat), i < T.length → iC T [i] = iC (alT raw (bytesOf B [] (0 : Nat) N)) [i]) ∧ (∀ (i : Nat), i < T.length → iO T [i] = iO (alT raw (bytesOf B [] (0 : Nat) N)) [i]) ∧ ∀ (i : Nat), i < T.length → iY T [i] = iY (alT raw (bytesOf B [] (0 : Nat) N)) [i]) := by kernel_rfl

set_option maxHeartbeats 4000000 in
theorem qC (t0 t1 t2 t3 t4 t5 t6 t7 t8 t9 t10 t11 t12 t13 t14 t15 : List UInt8) (N : Nat) (raw : Bool) (B : Ix → Int) (c : Int) (T : List Itm) (m : Nat) (hN : N ≤ 900) (hB : bndB B N = true) (hr : (ptM raw N (inG B N 5)).isSome = true) (hT : ptT raw N (inG B N 5) = T) (hA : alS raw (bytesOf B [] 0 N) = true) (hA1 : alT raw (bytesOf B [] 0 N) = T) (hA2 : alN raw (bytesOf B [] 0 N) = m) (hm : restN raw N (inG B N 5) = m) (hx : txL raw N (inG B N 5) = txG (iK T) (iC T) T.length) (hcd : cdB (iK T) (iC T) T.length = true) (hl : T.length ≤ N) (hc : 0 ≤ c) (hc2 : c ≤ (N : Int)) (hbr : brV raw N (inG B N 5) c = brW (iF T) (iT T) T.length (N : Int) c)  (next : RunsTo Tryd.prog 4 (headOf Tryd.f4 0) (envAt Tryd.f4.ntmps ([(12, vL 123 6 T.length), (123, vL 121 6 T.length), (124, vN T.length), (125, vN (0 : Nat))])) (Sx.look (allS t0 t1 t2 t3 t4 t5 t6 t7 t8 t9 t10 t11 t12 t13 t14 t15 ++ rB 100 N B ++ (itE 121 122 T ++ jE 123 T))) 110 (YES) (Sx.look []) 20000) :
    RunsTo Tryd.prog 4 [.code (bodyOf Tryd.f4)] (envOf [vL 100 1 N, vB raw, vN c] Tryd.f4.ntmps) (Sx.look (allS t0 t1 t2 t3 t4 t5 t6 t7 t8 t9 t10 t11 t12 t13 t14 t15 ++ rB 100 N B ++ ([]))) 110 (YES) (Sx.look []) 20000 := by
  have hbi : bndB (inG B N 5) N = true := bndB_of fun i hi => by rw [inG_at, if_pos hi]; exact bndB_ok hB hi
  have hlen := bytesOf_len B [] 0 N
  have hall : allEq (inG B N 5) (inG B N 5) (N + 5) = true := allEq_of (fun _ _ => rfl)
  have hk : numOf 19 = 5 := rfl
  have hby := bytesOf_full (txG (iK T) (iC T) T.length)
  refine runs_more baseQO (More.of (qC_p0 t0 t1 t2 t3 t4 t5 t6 t7 t8 t9 t10 t11 t12 t13 t14 t15 N raw B c T m) ⟨?oo, rfl, ?rr⟩) (by kernel_rfl) (by kernel_rfl) rfl (gtL (by decide)) (by decide) next
  case oo =>
    clear next
    refine (okc ?_ (okc ?_ (okc ?_ (okc ?_ (okc ?_ (okc ?_ (okc ?_ (okc ?_ (okc ?_ (okc ?_ (okc ?_ (okc ?_ (okc ?_ (okc ?_ (okc ?_ (okc ?_ (okc ?_ (okc ?_ (okc ?_ (okc ?_ (okc ?_ (okc ?_ (okc ?_ okn)))))))))))))))))))))))
    all_goals first | omega | exact hall | (simp (disch := omega) only [SS, hlen, hT, hA, hA1, hA2, hm, hx, hbr, hby]; first | done | omega | exact ⟨by omega, by omega, hbi⟩ | exact ⟨by omega, by omega, hbi, hr⟩ | exact ⟨⟨by omega, by omega⟩, hall⟩ | exact ⟨by omega, hcd⟩) | (simp_all; done) | (simp_all; omega)
  case rr =>
    clear next
    try simp (disch := omega) only [SS, hlen, hT, hA, hA1, hA2, hm, hx, hbr, hby]
    repeat' apply And.intro
    all_goals first | exact True.intro | with_reducible rfl | omega | (intros; first | exact True.intro | with_reducible rfl | omega | (simp_all; done)) | (simp_all; done) | rfl

theorem iZ_body (T : List Itm) (i : Nat) (hi : i < T.length) : bytesOf (iZ T) [iM T [i]] 0 (iW T [i]) = (T.getD i zIt).1.body := by
  have e : T.length - 1 - (T.length - 1 - i) = i := by omega
  have h : ∀ j, iZ T [iM T [i], j] = (((T.getD i zIt).1.body.getD j 0).toNat : Int) := fun j => by
    simp only [iZ, iM, List.headD_cons, List.tail_cons, e]
  show bytesOf (iZ T) [iM T [i]] 0 (T.getD i zIt).1.body.length = (T.getD i zIt).1.body
  apply List.ext_getElem?
  intro j
  by_cases hj : j < (T.getD i zIt).1.body.length
  · have e1 := bytesOf_get (B := iZ T) (is := [iM T [i]]) (st := 0) (n := (T.getD i zIt).1.body.length) hj
    rw [List.getElem?_eq_getElem (by rw [bytesOf_len]; exact hj), List.getElem?_eq_getElem hj]
    rw [List.getD_eq_getElem?_getD, List.getElem?_eq_getElem (by rw [bytesOf_len]; exact hj)] at e1
    simp only [Option.getD_some] at e1
    rw [e1]
    have := h j
    simp only [List.cons_append, List.nil_append, Nat.zero_add]
    rw [this, Int.toNat_natCast, UInt8.ofNat_toNat, List.getD_eq_getElem?_getD (l := (T.getD i zIt).1.body), List.getElem?_eq_getElem hj, Option.getD_some]
  · rw [List.getElem?_eq_none (by rw [bytesOf_len]; omega), List.getElem?_eq_none (by omega)]
theorem qR_p0 (t0 t1 t2 t3 t4 t5 t6 t7 t8 t9 t10 t11 t12 t13 t14 t15 : List UInt8) (N : Nat) (raw : Bool) (B : Ix → Int) (c : Int) (T : List Itm) (i : Nat) :
    isMore (evTill Tryd.prog sumsQO 700 (behind Tryd.f4 0) 900 4 (headOf Tryd.f4 0) (envAt Tryd.f4.ntmps ([(12, vL 123 6 T.length), (123, vL 121 6 T.length), (124, vN T.length), (125, vN (i : Nat))])) (allS t0 t1 t2 t3 t4 t5 t6 t7 t8 t9 t10 t11 t12 t13 t14 t15 ++ rB 100 N B ++ (itE 121 122 T ++ jE 123 T)) ⟨[.s true, .s true, .s true, .s true, .s true, .s true, .s true, .s false, .s false, .s false, .s false, .s false, .s true, .s true, .s false], 140⟩) (moreP (headOf Tryd.f4 0) ([]) Tryd.f4.ntmps ([(12, vL 123 6 T.length), (123, vL 121 6 T.length), (124, vN T.length), (125, vN (i + 1 : Nat))]) (itE 121 122 T ++ jE 123 T) 20000) =
    (OkL [(decide ((↑i : Int) < (↑T.length : Int)), true), (decide ((0 : Int) ≤ (↑i : Int) ∧ (↑i : Int) < (↑T.length : Int)), true), (((0 : Nat) + (↑i : Int).toNat).blt T.length, true), (((0 : Nat) + (↑i : Int).toNat).blt T.length, true), (decide ((0 : Int) ≤ (↑i : Int) ∧ (↑i : Int) < (↑T.length : Int)), true), (((0 : Nat) + (↑i : Int).toNat).blt T.length, true), (((0 : Nat) + (↑i : Int).toNat).blt T.length, true), (iK T [(0 : Nat) + (↑i : Int).toNat] != iK T [(0 : Nat) + (↑i : Int).toNat], false), (iF T [(0 : Nat) + (↑i : Int).toNat] != iF T [(0 : Nat) + (↑i : Int).toNat], false), (iT T [(0 : Nat) + (↑i : Int).toNat] != iT T [(0 : Nat) + (↑i : Int).toNat], false), (iC T [(0 : Nat) + (↑i : Int).toNat] != iC T [(0 : Nat) + (↑i : Int).toNat], false), (iO T [(0 : Nat) + (↑i : Int).toNat] != iO T [(0 : Nat) + (↑i : Int).toNat], false), ((iM T [(0 : Nat) + (↑i : Int).toNat]).blt T.length, true), (((0 : Nat) + iW T [(0 : Nat) + (↑i : Int).toNat]).ble (iL T (iM T [(0 : Nat) + (↑i : Int).toNat])), true), (!bytesOf (iZ T) [iM T [(0 : Nat) + (↑i : Int).toNat]] (0 : Nat) (iW T [(0 : Nat) + (↑i : Int).toNat]) == iY T [(0 : Nat) + (↑i : Int).toNat], false)] ∧ headOf Tryd.f4 (0 : Nat) = headOf Tryd.f4 (0 : Nat) ∧ (((0 : Nat) = (0 : Nat) ∧ T.length = T.length) ∧ ((0 : Nat) = (0 : Nat) ∧ T.length = T.length) ∧ (↑T.length : Int) = (↑T.length : Int) ∧ (↑(i + (1 : Nat)) : Int) = IntKind.i64.wrap ((↑i : Int) + (1 : Int))) ∧ (T.length = T.length ∧ (∀ (i : Nat), i < T.length → iK T [i] = iK T [i]) ∧ (∀ (i : Nat), i < T.length → iF T [i] = iF T [i]) ∧ (∀ (i : Nat), i < T.length → iT T [i] = iT T [i]) ∧ (∀ (i : Nat), i < T.length → iC T [i] = iC T [i]) ∧ (∀ (i : Nat), i < T.length → iO T [i] = iO T [i]) ∧ (∀ (i : Nat), i < T.length → iM T [i] = iM T [i]) ∧ ∀ (i : Nat), i < T.length → iW T [i] = iW T [i]) ∧ (T.length = T.length ∧ ∀ (m : Nat), m < T.length → iL T m = iL T m ∧ ∀ (i : Nat), i < iL T m → iZ T [m, i] = iZ T [m, i]) ∧ T.length = T.length ∧ (∀ (i : Nat), i < T.length → iK T [i] = iK T [i]) ∧ (∀ (i : Nat), i < T.length → iF T [i] = iF T [i]) ∧ (∀ (i : Nat), i < T.length → iT T [i] = iT T [i]) ∧ (∀ (i : Nat), i < T.length → iC T [i] = iC T [i]) ∧ (∀ (i : Nat), i < T.length → iO T [i] = iO T [i]) ∧ ∀ (i : Nat), i < T.length → iY T [i] = iY T [i]) := by kernel_rfl

set_option maxHeartbeats 4000000 in
theorem qR (t0 t1 t2 t3 t4 t5 t6 t7 t8 t9 t10 t11 t12 t13 t14 t15 : List UInt8) (N : Nat) (raw : Bool) (B : Ix → Int) (c : Int) (T : List Itm) (i : Nat) (hN : N ≤ 900) (hi : i < T.length) (hl : T.length ≤ N)  (next : RunsTo Tryd.prog 4 (headOf Tryd.f4 0) (envAt Tryd.f4.ntmps ([(12, vL 123 6 T.length), (123, vL 121 6 T.length), (124, vN T.length), (125, vN (i + 1 : Nat))])) (Sx.look (allS t0 t1 t2 t3 t4 t5 t6 t7 t8 t9 t10 t11 t12 t13 t14 t15 ++ rB 100 N B ++ (itE 121 122 T ++ jE 123 T))) 110 (YES) (Sx.look []) 20000) :
    RunsTo Tryd.prog 4 (headOf Tryd.f4 0) (envAt Tryd.f4.ntmps ([(12, vL 123 6 T.length), (123, vL 121 6 T.length), (124, vN T.length), (125, vN (i : Nat))])) (Sx.look (allS t0 t1 t2 t3 t4 t5 t6 t7 t8 t9 t10 t11 t12 t13 t14 t15 ++ rB 100 N B ++ (itE 121 122 T ++ jE 123 T))) 110 (YES) (Sx.look []) 20000 := by
  have hw : IntKind.i64.wrap ((i : Int) + 1) = ((i + 1 : Nat) : Int) := by rw [wr64 (by omega)]; rfl
  have hbd : bytesOf (iZ T) [iM T [i]] 0 (iW T [i]) = iY T [i] := iZ_body T i hi
  have hM1 : iM T [i] < T.length := by simp only [iM, List.headD_cons]; omega
  have hL1 : iL T (iM T [i]) = iW T [i] := by simp only [iL, iM, iW, List.headD_cons]; rw [show T.length - 1 - (T.length - 1 - i) = i by omega]
  refine runs_more baseQO (More.of (qR_p0 t0 t1 t2 t3 t4 t5 t6 t7 t8 t9 t10 t11 t12 t13 t14 t15 N raw B c T i) ⟨?oo, rfl, ?rr⟩) (by kernel_rfl) (by kernel_rfl) rfl (gtL (by decide)) (by decide) next
  case oo =>
    clear next
    refine (okc ?_ (okc ?_ (okc ?_ (okc ?_ (okc ?_ (okc ?_ (okc ?_ (okc ?_ (okc ?_ (okc ?_ (okc ?_ (okc ?_ (okc ?_ (okc ?_ (okc ?_ okn)))))))))))))))
    all_goals ((try simp (disch := omega) only [SS, hw, hbd, hL1]); first | done | omega | assumption | (simp (disch := omega) only [SS, hw, hbd, hL1] at *; first | done | omega | assumption) | (simp_all; done))
  case rr =>
    clear next
    try simp (disch := omega) only [SS, hw, hbd, hL1]
    repeat' apply And.intro
    all_goals first | exact True.intro | with_reducible rfl | omega | (intros; first | exact True.intro | with_reducible rfl | omega | (simp_all; done)) | (simp_all; done) | rfl

theorem qEnd_p0 (t0 t1 t2 t3 t4 t5 t6 t7 t8 t9 t10 t11 t12 t13 t14 t15 : List UInt8) (N : Nat) (raw : Bool) (B : Ix → Int) (c : Int) (T : List Itm) (i : Nat) :
    isEnd (evTill Tryd.prog sumsQO 700 (99) 900 4 (headOf Tryd.f4 0) (envAt Tryd.f4.ntmps ([(12, vL 123 6 T.length), (123, vL 121 6 T.length), (124, vN T.length), (125, vN (i : Nat))])) (allS t0 t1 t2 t3 t4 t5 t6 t7 t8 t9 t10 t11 t12 t13 t14 t15 ++ rB 100 N B ++ (itE 121 122 T ++ jE 123 T)) ⟨[.s false], 140⟩) (endP ([]) (YES) ([]) 20000) =
    (OkL [(decide ((↑i : Int) < (↑T.length : Int)), false)] ∧ true = true ∧ True) := by kernel_rfl

set_option maxHeartbeats 4000000 in
theorem qEnd (t0 t1 t2 t3 t4 t5 t6 t7 t8 t9 t10 t11 t12 t13 t14 t15 : List UInt8) (N : Nat) (raw : Bool) (B : Ix → Int) (c : Int) (T : List Itm) (i : Nat) (hi : i = T.length)  :
    RunsTo Tryd.prog 4 (headOf Tryd.f4 0) (envAt Tryd.f4.ntmps ([(12, vL 123 6 T.length), (123, vL 121 6 T.length), (124, vN T.length), (125, vN (i : Nat))])) (Sx.look (allS t0 t1 t2 t3 t4 t5 t6 t7 t8 t9 t10 t11 t12 t13 t14 t15 ++ rB 100 N B ++ (itE 121 122 T ++ jE 123 T))) 110 (YES) (Sx.look ([])) 20000 := by
  refine runs_last baseQO (Sx.Ends.of (qEnd_p0 t0 t1 t2 t3 t4 t5 t6 t7 t8 t9 t10 t11 t12 t13 t14 t15 N raw B c T i) ⟨?oo, ?rr⟩) (by kernel_rfl) rfl (gtL (by decide)) (by decide)
  case oo =>
    refine (okc ?_ okn)
    all_goals ((try simp (disch := omega) only [SS]); first | done | omega | assumption | (simp (disch := omega) only [SS] at *; first | done | omega | assumption) | (simp_all; done))
  case rr =>
    try simp (disch := omega) only [SS]
    repeat' apply And.intro
    all_goals first | exact True.intro | with_reducible rfl | omega | (intros; first | exact True.intro | with_reducible rfl | omega | (simp_all; done)) | (simp_all; done) | rfl

end Go.Proofs.YtcphocfnhekdaaaDoor

