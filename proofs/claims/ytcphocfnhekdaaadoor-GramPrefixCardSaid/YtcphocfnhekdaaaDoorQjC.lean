/- Grammar: is a place a border? -/
import Derived.Test.YtcphocfnhekdaaaDoorQfC
set_option linter.unusedSimpArgs false
set_option linter.unusedVariables false
set_option maxRecDepth 100000
namespace Go.Proofs.YtcphocfnhekdaaaDoor
open Go.Sx

open GramR
/-- The first place from i on, of k, at which a row has a number; -1: none. -/
def idxF (U : Ix → Int) (v : Int) : Nat → Nat → Int
  | 0, _ => -1
  | k + 1, i => if U [i] = v then (i : Int) else idxF U v k (i + 1)
def ceE (l : Nat) (v : Int) : List Ent := [⟨l, false, none, 1, .vi .i64 fun _ => v⟩]
def iR (l f n : Nat) (K F T C O : Ix → Int) (m q : Ix → Nat) (ls : Nat → Nat) (Z : Ix → Int) : List Ent := [⟨l, false, none, 6, .ta n (.tc (.vi .i64 K) (.tc (.vi .i64 F) (.tc (.vi .i64 T) (.tc (.vi .i64 C) (.tc (.vi .i64 O) (.tc (.vl f m 1 [] q) .t0))))))⟩, ⟨f, false, some (n, ls), 1, .vi .u8 Z⟩]
def brV (raw : Bool) (N : Nat) (B : Ix → Int) (at_ : Int) : Bool := (ptM raw N B).isSome && (decide (0 ≤ at_ ∧ at_ ≤ (N : Int)) && (decide (at_ = 0) || (decide (at_ = (N : Int)) || decide (idxF (iT (ptT raw N B)) at_ (ptT raw N B).length 0 ≥ 0))))
theorem idx_hit {U : Ix → Int} {v : Int} {k i : Nat} (h : U [i] = v) : idxF U v (k + 1) i = (i : Int) := by simp only [idxF, if_pos h]
theorem idx_miss {U : Ix → Int} {v : Int} {k i : Nat} (h : U [i] ≠ v) : idxF U v (k + 1) i = idxF U v k (i + 1) := by simp only [idxF, if_neg h]
theorem idx_ge (U : Ix → Int) (v : Int) : ∀ k i, 0 ≤ idxF U v k i ↔ ∃ j, i ≤ j ∧ j < i + k ∧ U [j] = v
  | 0, i => by simp [idxF]; omega
  | k + 1, i => by
    simp only [idxF]
    by_cases h : U [i] = v
    · rw [if_pos h]; exact ⟨fun _ => ⟨i, by omega, by omega, h⟩, fun _ => by omega⟩
    · rw [if_neg h, idx_ge U v k (i + 1)]
      constructor
      · rintro ⟨j, h1, h2, h3⟩; exact ⟨j, by omega, by omega, h3⟩
      · rintro ⟨j, h1, h2, h3⟩
        refine ⟨j, ?_, by omega, h3⟩
        rcases Nat.eq_or_lt_of_le h1 with e | e
        · subst e; exact absurd h3 h
        · omega
theorem ixStart_p0 (n : Nat) (K F T C O : Ix → Int) (m w : Ix → Nat) (ls : Nat → Nat) (Z : Ix → Int) (c : Int) :
    isMore (evTill Tryd.prog [] 300 (behind Tryd.f61 0) 900 61 [.code (bodyOf Tryd.f61)] (envOf [vL 64 6 n, .v (.vc 42 (.vp 66 (fun _ => 0) []))] Tryd.f61.ntmps) ((iR 64 65 n K F T C O m w ls Z ++ ceE 66 c) ++ ([])) ⟨[], 80⟩) (moreP (headOf Tryd.f61 0) ([]) Tryd.f61.ntmps ([(0, vL 64 6 n), (1, .v (.vc 42 (.vp 66 (fun _ => 0) []))), (7, vN n), (8, vN (0 : Nat))]) ([]) 260) =
    (OkL [] ∧ headOf Tryd.f61 (0 : Nat) = headOf Tryd.f61 (0 : Nat) ∧ (((0 : Nat) = (0 : Nat) ∧ n = n) ∧ (0 : Nat) = (0 : Nat) ∧ (↑n : Int) = (↑n : Int) ∧ (↑(0 : Nat) : Int) = (0 : Int)) ∧ True) := by kernel_rfl

set_option maxHeartbeats 4000000 in
theorem ixStart (n : Nat) (K F T C O : Ix → Int) (m w : Ix → Nat) (ls : Nat → Nat) (Z : Ix → Int) (c : Int)  (v : SV) (L' : HF) (next : RunsTo Tryd.prog 61 (headOf Tryd.f61 0) (envAt Tryd.f61.ntmps ([(0, vL 64 6 n), (1, .v (.vc 42 (.vp 66 (fun _ => 0) []))), (7, vN n), (8, vN (0 : Nat))])) (Sx.look ((iR 64 65 n K F T C O m w ls Z ++ ceE 66 c) ++ ([]))) 80 (v) (L') 260) :
    RunsTo Tryd.prog 61 [.code (bodyOf Tryd.f61)] (envOf [vL 64 6 n, .v (.vc 42 (.vp 66 (fun _ => 0) []))] Tryd.f61.ntmps) (Sx.look ((iR 64 65 n K F T C O m w ls Z ++ ceE 66 c) ++ ([]))) 80 (v) (L') 260 := by
  refine runs_more baseO (More.of (ixStart_p0 n K F T C O m w ls Z c) ⟨?oo, rfl, ?rr⟩) (by kernel_rfl) (by kernel_rfl) rfl (gtL (by decide)) (by decide) next
  case oo =>
    clear next
    refine okn
    all_goals ((try simp (disch := omega) only [SS]); first | done | omega | assumption | (simp (disch := omega) only [SS] at *; first | done | omega | assumption) | (simp_all; done))
  case rr =>
    clear next
    try simp (disch := omega) only [SS]
    repeat' apply And.intro
    all_goals first | exact True.intro | with_reducible rfl | omega | (intros; first | exact True.intro | with_reducible rfl | omega | (simp_all; done)) | (simp_all; done) | rfl

theorem ixMiss_p0 (n : Nat) (K F T C O : Ix → Int) (m w : Ix → Nat) (ls : Nat → Nat) (Z : Ix → Int) (c : Int) (i : Nat) :
    isMore (evTill Tryd.prog [] 300 (behind Tryd.f61 0) 900 61 (headOf Tryd.f61 0) (envAt Tryd.f61.ntmps ([(0, vL 64 6 n), (1, .v (.vc 42 (.vp 66 (fun _ => 0) []))), (7, vN n), (8, vN (i : Nat))])) ((iR 64 65 n K F T C O m w ls Z ++ ceE 66 c) ++ ([])) ⟨[.s true, .s true, .s true, .s true, .s false], 120⟩) (moreP (headOf Tryd.f61 0) ([]) Tryd.f61.ntmps ([(0, vL 64 6 n), (1, .v (.vc 42 (.vp 66 (fun _ => 0) []))), (7, vN n), (8, vN (i + 1 : Nat))]) ([]) 260) =
    (OkL [(decide ((↑i : Int) < (↑n : Int)), true), (decide ((0 : Int) ≤ (↑i : Int) ∧ (↑i : Int) < (↑n : Int)), true), (((0 : Nat) + (↑i : Int).toNat).blt n, true), (((0 : Nat) + (↑i : Int).toNat).blt n, true), (T [(0 : Nat) + (↑i : Int).toNat] == c, false)] ∧ headOf Tryd.f61 (0 : Nat) = headOf Tryd.f61 (0 : Nat) ∧ (((0 : Nat) = (0 : Nat) ∧ n = n) ∧ (0 : Nat) = (0 : Nat) ∧ (↑n : Int) = (↑n : Int) ∧ (↑(i + (1 : Nat)) : Int) = IntKind.i64.wrap ((↑i : Int) + (1 : Int))) ∧ True) := by kernel_rfl

set_option maxHeartbeats 4000000 in
theorem ixMiss (n : Nat) (K F T C O : Ix → Int) (m w : Ix → Nat) (ls : Nat → Nat) (Z : Ix → Int) (c : Int) (i : Nat) (hi : i < n) (hn : n ≤ 10000) (h : T [i] ≠ c)  (v : SV) (L' : HF) (next : RunsTo Tryd.prog 61 (headOf Tryd.f61 0) (envAt Tryd.f61.ntmps ([(0, vL 64 6 n), (1, .v (.vc 42 (.vp 66 (fun _ => 0) []))), (7, vN n), (8, vN (i + 1 : Nat))])) (Sx.look ((iR 64 65 n K F T C O m w ls Z ++ ceE 66 c) ++ ([]))) 80 (v) (L') 260) :
    RunsTo Tryd.prog 61 (headOf Tryd.f61 0) (envAt Tryd.f61.ntmps ([(0, vL 64 6 n), (1, .v (.vc 42 (.vp 66 (fun _ => 0) []))), (7, vN n), (8, vN (i : Nat))])) (Sx.look ((iR 64 65 n K F T C O m w ls Z ++ ceE 66 c) ++ ([]))) 80 (v) (L') 260 := by
  have hw : IntKind.i64.wrap ((i : Int) + 1) = ((i + 1 : Nat) : Int) := by rw [wr64 (by omega)]; rfl
  refine runs_more baseO (More.of (ixMiss_p0 n K F T C O m w ls Z c i) ⟨?oo, rfl, ?rr⟩) (by kernel_rfl) (by kernel_rfl) rfl (gtL (by decide)) (by decide) next
  case oo =>
    clear next
    refine (okc ?_ (okc ?_ (okc ?_ (okc ?_ (okc ?_ okn)))))
    all_goals ((try simp (disch := omega) only [SS, hw]); first | done | omega | assumption | (simp (disch := omega) only [SS, hw] at *; first | done | omega | assumption) | (simp_all; done))
  case rr =>
    clear next
    try simp (disch := omega) only [SS, hw]
    repeat' apply And.intro
    all_goals first | exact True.intro | with_reducible rfl | omega | (intros; first | exact True.intro | with_reducible rfl | omega | (simp_all; done)) | (simp_all; done) | rfl

theorem ixHit_p0 (n : Nat) (K F T C O : Ix → Int) (m w : Ix → Nat) (ls : Nat → Nat) (Z : Ix → Int) (c : Int) (i : Nat) :
    isEnd (evTill Tryd.prog [] 300 (99) 900 61 (headOf Tryd.f61 0) (envAt Tryd.f61.ntmps ([(0, vL 64 6 n), (1, .v (.vc 42 (.vp 66 (fun _ => 0) []))), (7, vN n), (8, vN (i : Nat))])) ((iR 64 65 n K F T C O m w ls Z ++ ceE 66 c) ++ ([])) ⟨[.s true, .s true, .s true, .s true, .s true], 120⟩) (endP ([]) (vN i) ([]) 260) =
    (OkL [(decide ((↑i : Int) < (↑n : Int)), true), (decide ((0 : Int) ≤ (↑i : Int) ∧ (↑i : Int) < (↑n : Int)), true), (((0 : Nat) + (↑i : Int).toNat).blt n, true), (((0 : Nat) + (↑i : Int).toNat).blt n, true), (T [(0 : Nat) + (↑i : Int).toNat] == c, true)] ∧ (↑i : Int) = (↑i : Int) ∧ True) := by kernel_rfl

set_option maxHeartbeats 4000000 in
theorem ixHit (n : Nat) (K F T C O : Ix → Int) (m w : Ix → Nat) (ls : Nat → Nat) (Z : Ix → Int) (c : Int) (i : Nat) (hi : i < n) (h : T [i] = c)  :
    RunsTo Tryd.prog 61 (headOf Tryd.f61 0) (envAt Tryd.f61.ntmps ([(0, vL 64 6 n), (1, .v (.vc 42 (.vp 66 (fun _ => 0) []))), (7, vN n), (8, vN (i : Nat))])) (Sx.look ((iR 64 65 n K F T C O m w ls Z ++ ceE 66 c) ++ ([]))) 80 (vN i) (Sx.look ([])) 260 := by
  refine runs_last baseO (Sx.Ends.of (ixHit_p0 n K F T C O m w ls Z c i) ⟨?oo, ?rr⟩) (by kernel_rfl) rfl (gtL (by decide)) (by decide)
  case oo =>
    refine (okc ?_ (okc ?_ (okc ?_ (okc ?_ (okc ?_ okn)))))
    all_goals ((try simp (disch := omega) only [SS, h]); first | done | omega | assumption | (simp (disch := omega) only [SS, h] at *; first | done | omega | assumption) | (simp_all; done))
  case rr =>
    try simp (disch := omega) only [SS, h]
    repeat' apply And.intro
    all_goals first | exact True.intro | with_reducible rfl | omega | (intros; first | exact True.intro | with_reducible rfl | omega | (simp_all; done)) | (simp_all; done) | rfl

theorem ixEnd_p0 (n : Nat) (K F T C O : Ix → Int) (m w : Ix → Nat) (ls : Nat → Nat) (Z : Ix → Int) (c : Int) (i : Nat) :
    isEnd (evTill Tryd.prog [] 300 (99) 900 61 (headOf Tryd.f61 0) (envAt Tryd.f61.ntmps ([(0, vL 64 6 n), (1, .v (.vc 42 (.vp 66 (fun _ => 0) []))), (7, vN n), (8, vN (i : Nat))])) ((iR 64 65 n K F T C O m w ls Z ++ ceE 66 c) ++ ([])) ⟨[.s false], 120⟩) (endP ([]) (vN (-1)) ([]) 260) =
    (OkL [(decide ((↑i : Int) < (↑n : Int)), false)] ∧ (-1 : Int) = (-1 : Int) ∧ True) := by kernel_rfl

set_option maxHeartbeats 4000000 in
theorem ixEnd (n : Nat) (K F T C O : Ix → Int) (m w : Ix → Nat) (ls : Nat → Nat) (Z : Ix → Int) (c : Int) (i : Nat) (hi : i = n)  :
    RunsTo Tryd.prog 61 (headOf Tryd.f61 0) (envAt Tryd.f61.ntmps ([(0, vL 64 6 n), (1, .v (.vc 42 (.vp 66 (fun _ => 0) []))), (7, vN n), (8, vN (i : Nat))])) (Sx.look ((iR 64 65 n K F T C O m w ls Z ++ ceE 66 c) ++ ([]))) 80 (vN (-1)) (Sx.look ([])) 260 := by
  refine runs_last baseO (Sx.Ends.of (ixEnd_p0 n K F T C O m w ls Z c i) ⟨?oo, ?rr⟩) (by kernel_rfl) rfl (gtL (by decide)) (by decide)
  case oo =>
    refine (okc ?_ okn)
    all_goals ((try simp (disch := omega) only [SS]); first | done | omega | assumption | (simp (disch := omega) only [SS] at *; first | done | omega | assumption) | (simp_all; done))
  case rr =>
    try simp (disch := omega) only [SS]
    repeat' apply And.intro
    all_goals first | exact True.intro | with_reducible rfl | omega | (intros; first | exact True.intro | with_reducible rfl | omega | (simp_all; done)) | (simp_all; done) | rfl

theorem ixI (n : Nat) (K F T C O : Ix → Int) (m w : Ix → Nat) (ls : Nat → Nat) (Z : Ix → Int) (c : Int) (hn : n ≤ 10000) : RunsTo Tryd.prog 61 [.code (bodyOf Tryd.f61)] (envOf [vL 64 6 n, .v (.vc 42 (.vp 66 (fun _ => 0) []))] Tryd.f61.ntmps) (Sx.look ((iR 64 65 n K F T C O m w ls Z ++ ceE 66 c) ++ ([]))) 80 (vN (idxF T c n 0)) (Sx.look []) 260 := by
  refine ixStart n K F T C O m w ls Z c _ _ ?_
  suffices q : ∀ (k i : Nat), i + k = n → RunsTo Tryd.prog 61 (headOf Tryd.f61 0) (envAt Tryd.f61.ntmps ([(0, vL 64 6 n), (1, .v (.vc 42 (.vp 66 (fun _ => 0) []))), (7, vN n), (8, vN (i : Nat))])) (Sx.look ((iR 64 65 n K F T C O m w ls Z ++ ceE 66 c) ++ ([]))) 80 (vN (idxF T c k i)) (Sx.look []) 260 from q n 0 (by omega)
  intro k
  induction k with
  | zero => intro i hi; exact ixEnd n K F T C O m w ls Z c i (by omega)
  | succ k ih =>
    intro i hi
    by_cases h : T [i] = c
    · rw [idx_hit h]; exact ixHit n K F T C O m w ls Z c i (by omega) h
    · rw [idx_miss h]; exact ixMiss n K F T C O m w ls Z c i (by omega) hn h _ _ (ih (i + 1) (by omega))
def ixP : PC := { args := [.v (.vl 64 6 3), .v (.vc 42 (.vp 66))], heap := [⟨64, false, 6, .ta 3 (.tc (.vi .i64 6) (.tc (.vi .i64 7) (.tc (.vi .i64 8) (.tc (.vi .i64 9) (.tc (.vi .i64 10) (.tc (.vf 65 1 11 12) .t0))))))⟩, ⟨66, false, 1, .vi .i64 1⟩], fams := [⟨65, false, 1, 3, 14, .vi .u8 15⟩], gs := [], G := 19, tp := 144, n := 80, n' := 260, cond := fun e => decide (eN e 3 ≤ 10000), v := fun e => vN (idxF (eI e 8) (eI e 1 []) (eN e 3) 0), post := fun e => [] }
theorem ixP_pc : PC.Runs Tryd.prog 61 Tryd.f61 (bodyOf Tryd.f61) ixP := ⟨Tryd.func61, by kernel_rfl, (fun g hg => by first | (cases hg; done) | (revert g; show ∀ g ∈ ([] : List Nat), g < 19; decide)), fun e H hc => by
  have hc : (decide (eN e 3 ≤ 10000)) = true := hc
  try simp only [Bool.and_eq_true, decide_eq_true_eq, Nat.beq_eq] at hc
  exact swap2 (s := [⟨64, false, none, 6, .ta (eN e 3) (.tc (.vi .i64 (eI e 6)) (.tc (.vi .i64 (eI e 7)) (.tc (.vi .i64 (eI e 8)) (.tc (.vi .i64 (eI e 9)) (.tc (.vi .i64 (eI e 10)) (.tc (.vl 65 (eM e 11) 1 [] (eM e 12)) .t0))))))⟩]) (x := ⟨65, false, some (eN e 3, eL e 14), 1, .vi .u8 (eI e 15)⟩) (y := ⟨66, false, none, 1, .vi .i64 fun _ => eI e 1 []⟩) (r := []) (show (65 : Nat) ≠ 66 by decide) (ixI (eN e 3) (eI e 6) (eI e 7) (eI e 8) (eI e 9) (eI e 10) (eM e 11) (eM e 12) (eL e 14) (eI e 15) (eI e 1 []) hc)⟩
def sumsJ0 : List (FuncId × Summ) := [(12, psOkP.summ 38), (61, ixP.summ 38)]
theorem baseJ0 : Base0 Tryd.prog sumsJ0 := ((baseO.cons Tryd.func61 (by kernel_rfl) (PC.summ_ok ixP_pc gtopG)).cons Tryd.func12 (by kernel_rfl) (PC.summ_ok psOkP_pc gtopG))
def sumsJ1 : List (FuncId × Summ) := [(12, psFoP.summ 38)]
theorem baseJ1 : Base0 Tryd.prog sumsJ1 := (baseO.cons Tryd.func12 (by kernel_rfl) (PC.summ_ok psFoP_pc gtopG))
theorem boNeg_p0 (t0 t1 : List UInt8) (N M : Nat) (raw : Bool) (B : Ix → Int) (c : Int) :
    isEnd (evTill Tryd.prog sumsJ0 300 (99) 900 18 [.code (bodyOf Tryd.f18)] (envOf [vL 60 1 N, vB raw, vN c] Tryd.f18.ntmps) (sentEnts 19 144 [(0, t0), (4, t1)] ++ rB 60 M B ++ ([])) ⟨[.s true, .f, .s true], 80⟩) (endP ([]) (vB (false)) ([]) 1300) =
    (OkL [(decide (N ≤ (10000 : Nat)) && (decide (N ≤ M) && (bndB B N && (ptM raw N B).isSome)), true), (decide (c < (0 : Int)), true)] ∧ false = false ∧ True) := by kernel_rfl

set_option maxHeartbeats 4000000 in
theorem boNeg (t0 t1 : List UInt8) (N M : Nat) (raw : Bool) (B : Ix → Int) (c : Int) (hN : N ≤ 10000) (hM : N ≤ M) (hB : bndB B N = true) (hr : (ptM raw N B).isSome = true) (h : c < 0)  :
    RunsTo Tryd.prog 18 [.code (bodyOf Tryd.f18)] (envOf [vL 60 1 N, vB raw, vN c] Tryd.f18.ntmps) (Sx.look (sentEnts 19 144 [(0, t0), (4, t1)] ++ rB 60 M B ++ ([]))) 80 (vB (false)) (Sx.look ([])) 1300 := by
  have hpl := pt_len raw N B
  refine runs_last baseJ0 (Sx.Ends.of (boNeg_p0 t0 t1 N M raw B c) ⟨?oo, ?rr⟩) (by kernel_rfl) rfl (gtL (by decide)) (by decide)
  case oo =>
    refine (okc ?_ (okc ?_ okn))
    all_goals first | exact hr | omega | (simp (disch := omega) only [SS, hpl]; first | done | omega) | (refine Bool.and_eq_true_iff.2 ⟨decide_eq_true (by omega), Bool.and_eq_true_iff.2 ⟨decide_eq_true (by omega), Bool.and_eq_true_iff.2 ⟨hB, hr⟩⟩⟩) | (simp_all; done) | (simp_all; omega)
  case rr =>
    try simp (disch := omega) only [SS, hpl]
    repeat' apply And.intro
    all_goals first | exact True.intro | with_reducible rfl | omega | (intros; first | exact True.intro | with_reducible rfl | omega | (simp_all; done)) | (simp_all; done) | rfl

theorem boBig_p0 (t0 t1 : List UInt8) (N M : Nat) (raw : Bool) (B : Ix → Int) (c : Int) :
    isEnd (evTill Tryd.prog sumsJ0 300 (99) 900 18 [.code (bodyOf Tryd.f18)] (envOf [vL 60 1 N, vB raw, vN c] Tryd.f18.ntmps) (sentEnts 19 144 [(0, t0), (4, t1)] ++ rB 60 M B ++ ([])) ⟨[.s true, .f, .s false, .s true], 80⟩) (endP ([]) (vB (false)) ([]) 1300) =
    (OkL [(decide (N ≤ (10000 : Nat)) && (decide (N ≤ M) && (bndB B N && (ptM raw N B).isSome)), true), (decide (c < (0 : Int)), false), (decide (c > (↑N : Int)), true)] ∧ false = false ∧ True) := by kernel_rfl

set_option maxHeartbeats 4000000 in
theorem boBig (t0 t1 : List UInt8) (N M : Nat) (raw : Bool) (B : Ix → Int) (c : Int) (hN : N ≤ 10000) (hM : N ≤ M) (hB : bndB B N = true) (hr : (ptM raw N B).isSome = true) (h : (N : Int) < c)  :
    RunsTo Tryd.prog 18 [.code (bodyOf Tryd.f18)] (envOf [vL 60 1 N, vB raw, vN c] Tryd.f18.ntmps) (Sx.look (sentEnts 19 144 [(0, t0), (4, t1)] ++ rB 60 M B ++ ([]))) 80 (vB (false)) (Sx.look ([])) 1300 := by
  have hpl := pt_len raw N B
  refine runs_last baseJ0 (Sx.Ends.of (boBig_p0 t0 t1 N M raw B c) ⟨?oo, ?rr⟩) (by kernel_rfl) rfl (gtL (by decide)) (by decide)
  case oo =>
    refine (okc ?_ (okc ?_ (okc ?_ okn)))
    all_goals first | exact hr | omega | (simp (disch := omega) only [SS, hpl]; first | done | omega) | (refine Bool.and_eq_true_iff.2 ⟨decide_eq_true (by omega), Bool.and_eq_true_iff.2 ⟨decide_eq_true (by omega), Bool.and_eq_true_iff.2 ⟨hB, hr⟩⟩⟩) | (simp_all; done) | (simp_all; omega)
  case rr =>
    try simp (disch := omega) only [SS, hpl]
    repeat' apply And.intro
    all_goals first | exact True.intro | with_reducible rfl | omega | (intros; first | exact True.intro | with_reducible rfl | omega | (simp_all; done)) | (simp_all; done) | rfl

theorem bo0_p0 (t0 t1 : List UInt8) (N M : Nat) (raw : Bool) (B : Ix → Int) (c : Int) :
    isEnd (evTill Tryd.prog sumsJ0 300 (99) 900 18 [.code (bodyOf Tryd.f18)] (envOf [vL 60 1 N, vB raw, vN c] Tryd.f18.ntmps) (sentEnts 19 144 [(0, t0), (4, t1)] ++ rB 60 M B ++ ([])) ⟨[.s true, .f, .s false, .s false, .s true], 80⟩) (endP ([]) (vB (true)) ([]) 1300) =
    (OkL [(decide (N ≤ (10000 : Nat)) && (decide (N ≤ M) && (bndB B N && (ptM raw N B).isSome)), true), (decide (c < (0 : Int)), false), (decide (c > (↑N : Int)), false), (c == (0 : Int), true)] ∧ true = true ∧ True) := by kernel_rfl

set_option maxHeartbeats 4000000 in
theorem bo0 (t0 t1 : List UInt8) (N M : Nat) (raw : Bool) (B : Ix → Int) (c : Int) (hN : N ≤ 10000) (hM : N ≤ M) (hB : bndB B N = true) (hr : (ptM raw N B).isSome = true) (h : c = 0)  :
    RunsTo Tryd.prog 18 [.code (bodyOf Tryd.f18)] (envOf [vL 60 1 N, vB raw, vN c] Tryd.f18.ntmps) (Sx.look (sentEnts 19 144 [(0, t0), (4, t1)] ++ rB 60 M B ++ ([]))) 80 (vB (true)) (Sx.look ([])) 1300 := by
  have hpl := pt_len raw N B
  refine runs_last baseJ0 (Sx.Ends.of (bo0_p0 t0 t1 N M raw B c) ⟨?oo, ?rr⟩) (by kernel_rfl) rfl (gtL (by decide)) (by decide)
  case oo =>
    refine (okc ?_ (okc ?_ (okc ?_ (okc ?_ okn))))
    all_goals first | exact hr | omega | (simp (disch := omega) only [SS, hpl]; first | done | omega) | (refine Bool.and_eq_true_iff.2 ⟨decide_eq_true (by omega), Bool.and_eq_true_iff.2 ⟨decide_eq_true (by omega), Bool.and_eq_true_iff.2 ⟨hB, hr⟩⟩⟩) | (simp_all; done) | (simp_all; omega)
  case rr =>
    try simp (disch := omega) only [SS, hpl]
    repeat' apply And.intro
    all_goals first | exact True.intro | with_reducible rfl | omega | (intros; first | exact True.intro | with_reducible rfl | omega | (simp_all; done)) | (simp_all; done) | rfl

theorem boN_p0 (t0 t1 : List UInt8) (N M : Nat) (raw : Bool) (B : Ix → Int) (c : Int) :
    isEnd (evTill Tryd.prog sumsJ0 300 (99) 900 18 [.code (bodyOf Tryd.f18)] (envOf [vL 60 1 N, vB raw, vN c] Tryd.f18.ntmps) (sentEnts 19 144 [(0, t0), (4, t1)] ++ rB 60 M B ++ ([])) ⟨[.s true, .f, .s false, .s false, .s false, .s true], 80⟩) (endP ([]) (vB (true)) ([]) 1300) =
    (OkL [(decide (N ≤ (10000 : Nat)) && (decide (N ≤ M) && (bndB B N && (ptM raw N B).isSome)), true), (decide (c < (0 : Int)), false), (decide (c > (↑N : Int)), false), (c == (0 : Int), false), (c == (↑N : Int), true)] ∧ true = true ∧ True) := by kernel_rfl

set_option maxHeartbeats 4000000 in
theorem boN (t0 t1 : List UInt8) (N M : Nat) (raw : Bool) (B : Ix → Int) (c : Int) (hN : N ≤ 10000) (hM : N ≤ M) (hB : bndB B N = true) (hr : (ptM raw N B).isSome = true) (h : c = (N : Int)) (h2 : 0 < c)  :
    RunsTo Tryd.prog 18 [.code (bodyOf Tryd.f18)] (envOf [vL 60 1 N, vB raw, vN c] Tryd.f18.ntmps) (Sx.look (sentEnts 19 144 [(0, t0), (4, t1)] ++ rB 60 M B ++ ([]))) 80 (vB (true)) (Sx.look ([])) 1300 := by
  have hpl := pt_len raw N B
  refine runs_last baseJ0 (Sx.Ends.of (boN_p0 t0 t1 N M raw B c) ⟨?oo, ?rr⟩) (by kernel_rfl) rfl (gtL (by decide)) (by decide)
  case oo =>
    refine (okc ?_ (okc ?_ (okc ?_ (okc ?_ (okc ?_ okn)))))
    all_goals first | exact hr | omega | (simp (disch := omega) only [SS, hpl]; first | done | omega) | (refine Bool.and_eq_true_iff.2 ⟨decide_eq_true (by omega), Bool.and_eq_true_iff.2 ⟨decide_eq_true (by omega), Bool.and_eq_true_iff.2 ⟨hB, hr⟩⟩⟩) | (simp_all; done) | (simp_all; omega)
  case rr =>
    try simp (disch := omega) only [SS, hpl]
    repeat' apply And.intro
    all_goals first | exact True.intro | with_reducible rfl | omega | (intros; first | exact True.intro | with_reducible rfl | omega | (simp_all; done)) | (simp_all; done) | rfl

theorem boIn_p0 (t0 t1 : List UInt8) (N M : Nat) (raw : Bool) (B : Ix → Int) (c : Int) :
    isEnd (evTill Tryd.prog sumsJ0 300 (99) 900 18 [.code (bodyOf Tryd.f18)] (envOf [vL 60 1 N, vB raw, vN c] Tryd.f18.ntmps) (sentEnts 19 144 [(0, t0), (4, t1)] ++ rB 60 M B ++ ([])) ⟨[.s true, .f, .s false, .s false, .s false, .s false, .s true, .s true, .s true], 80⟩) (endP ([]) (vB (decide (idxF (iT (ptT raw N B)) c (ptT raw N B).length 0 ≥ 0))) ([]) 1300) =
    (OkL [(decide (N ≤ (10000 : Nat)) && (decide (N ≤ M) && (bndB B N && (ptM raw N B).isSome)), true), (decide (c < (0 : Int)), false), (decide (c > (↑N : Int)), false), (c == (0 : Int), false), (c == (↑N : Int), false), ((ptT raw N B).length.beq (ptT raw N B).length, true), ((ptT raw N B).length.beq (ptT raw N B).length, true), (decide ((ptT raw N B).length ≤ (10000 : Nat)), true)] ∧ decide (idxF (iT (ptT raw N B)) c (ptT raw N B).length (0 : Nat) ≥ (0 : Int)) = decide (idxF (iT (ptT raw N B)) c (ptT raw N B).length (0 : Nat) ≥ (0 : Int)) ∧ True) := by kernel_rfl

set_option maxHeartbeats 4000000 in
theorem boIn (t0 t1 : List UInt8) (N M : Nat) (raw : Bool) (B : Ix → Int) (c : Int) (hN : N ≤ 10000) (hM : N ≤ M) (hB : bndB B N = true) (hr : (ptM raw N B).isSome = true) (h : 0 < c) (h2 : c < (N : Int))  :
    RunsTo Tryd.prog 18 [.code (bodyOf Tryd.f18)] (envOf [vL 60 1 N, vB raw, vN c] Tryd.f18.ntmps) (Sx.look (sentEnts 19 144 [(0, t0), (4, t1)] ++ rB 60 M B ++ ([]))) 80 (vB (decide (idxF (iT (ptT raw N B)) c (ptT raw N B).length 0 ≥ 0))) (Sx.look ([])) 1300 := by
  have hpl := pt_len raw N B
  refine runs_last baseJ0 (Sx.Ends.of (boIn_p0 t0 t1 N M raw B c) ⟨?oo, ?rr⟩) (by kernel_rfl) rfl (gtL (by decide)) (by decide)
  case oo =>
    refine (okc ?_ (okc ?_ (okc ?_ (okc ?_ (okc ?_ (okc ?_ (okc ?_ (okc ?_ okn))))))))
    all_goals first | exact hr | omega | (simp (disch := omega) only [SS, hpl]; first | done | omega) | (refine Bool.and_eq_true_iff.2 ⟨decide_eq_true (by omega), Bool.and_eq_true_iff.2 ⟨decide_eq_true (by omega), Bool.and_eq_true_iff.2 ⟨hB, hr⟩⟩⟩) | (simp_all; done) | (simp_all; omega)
  case rr =>
    try simp (disch := omega) only [SS, hpl]
    repeat' apply And.intro
    all_goals first | exact True.intro | with_reducible rfl | omega | (intros; first | exact True.intro | with_reducible rfl | omega | (simp_all; done)) | (simp_all; done) | rfl

theorem boFo_p0 (t0 t1 : List UInt8) (N M : Nat) (raw : Bool) (B : Ix → Int) (c : Int) :
    isEnd (evTill Tryd.prog sumsJ1 300 (99) 900 18 [.code (bodyOf Tryd.f18)] (envOf [vL 60 1 N, vB raw, vN c] Tryd.f18.ntmps) (sentEnts 19 144 [(0, t0), (4, t1)] ++ rB 60 M B ++ ([])) ⟨[.s true, .t], 80⟩) (endP ([]) (vB false) ([]) 1300) =
    (OkL [(decide (N ≤ (10000 : Nat)) && (decide (N ≤ M) && (bndB B N && (ptM raw N B).isNone)), true)] ∧ false = false ∧ True) := by kernel_rfl

set_option maxHeartbeats 4000000 in
theorem boFo (t0 t1 : List UInt8) (N M : Nat) (raw : Bool) (B : Ix → Int) (c : Int) (hN : N ≤ 10000) (hM : N ≤ M) (hB : bndB B N = true) (hr : (ptM raw N B).isNone = true)  :
    RunsTo Tryd.prog 18 [.code (bodyOf Tryd.f18)] (envOf [vL 60 1 N, vB raw, vN c] Tryd.f18.ntmps) (Sx.look (sentEnts 19 144 [(0, t0), (4, t1)] ++ rB 60 M B ++ ([]))) 80 (vB false) (Sx.look ([])) 1300 := by
  have hpl := pt_len raw N B
  refine runs_last baseJ1 (Sx.Ends.of (boFo_p0 t0 t1 N M raw B c) ⟨?oo, ?rr⟩) (by kernel_rfl) rfl (gtL (by decide)) (by decide)
  case oo =>
    refine (okc ?_ okn)
    all_goals first | exact hr | omega | (simp (disch := omega) only [SS, hpl]; first | done | omega) | (refine Bool.and_eq_true_iff.2 ⟨decide_eq_true (by omega), Bool.and_eq_true_iff.2 ⟨decide_eq_true (by omega), Bool.and_eq_true_iff.2 ⟨hB, hr⟩⟩⟩) | (simp_all; done) | (simp_all; omega)
  case rr =>
    try simp (disch := omega) only [SS, hpl]
    repeat' apply And.intro
    all_goals first | exact True.intro | with_reducible rfl | omega | (intros; first | exact True.intro | with_reducible rfl | omega | (simp_all; done)) | (simp_all; done) | rfl

theorem boI (t0 t1 : List UInt8) (N M : Nat) (raw : Bool) (B : Ix → Int) (c : Int) (hN : N ≤ 10000) (hM : N ≤ M) (hB : bndB B N = true) : RunsTo Tryd.prog 18 [.code (bodyOf Tryd.f18)] (envOf [vL 60 1 N, vB raw, vN c] Tryd.f18.ntmps) (Sx.look (sentEnts 19 144 [(0, t0), (4, t1)] ++ rB 60 M B ++ ([]))) 80 (vB (brV raw N B c)) (Sx.look []) 1300 := by
  unfold brV
  cases hz : ptM raw N B with
  | none => exact boFo t0 t1 N M raw B c hN hM hB (by rw [hz]; rfl)
  | some m =>
    have hr : (ptM raw N B).isSome = true := by rw [hz]; rfl
    by_cases h1 : c < 0
    · rw [decide_eq_false (show ¬ (0 ≤ c ∧ c ≤ (N : Int)) by omega)]; exact boNeg t0 t1 N M raw B c hN hM hB hr h1
    by_cases h2 : (N : Int) < c
    · rw [decide_eq_false (show ¬ (0 ≤ c ∧ c ≤ (N : Int)) by omega)]; exact boBig t0 t1 N M raw B c hN hM hB hr h2
    rw [decide_eq_true (show 0 ≤ c ∧ c ≤ (N : Int) by omega)]
    by_cases h3 : c = 0
    · rw [decide_eq_true h3]; exact bo0 t0 t1 N M raw B c hN hM hB hr h3
    rw [decide_eq_false h3]
    by_cases h4 : c = (N : Int)
    · rw [decide_eq_true h4]; exact boN t0 t1 N M raw B c hN hM hB hr h4 (by omega)
    rw [decide_eq_false h4]
    exact boIn t0 t1 N M raw B c hN hM hB hr (by omega) (by omega)
def boP : PC := { args := [.v (.vl 60 1 0), .v (.vb 2), .v (.vi .i64 7)], heap := [⟨60, false, 1, .ta 4 (.vi .u8 5)⟩], gs := [0, 4], G := 19, tp := 144, n := 80, n' := 1300, cond := fun e => decide (eN e 0 ≤ 10000) && (decide (eN e 0 ≤ eN e 4) && bndB (eI e 5) (eN e 0)), v := fun e => vB (brV (eB e 2 []) (eN e 0) (eI e 5) (eI e 7 [])), post := fun e => [] }
theorem boP_pc : PC.Runs Tryd.prog 18 Tryd.f18 (bodyOf Tryd.f18) boP := ⟨Tryd.func18, by kernel_rfl, (fun g hg => by first | (cases hg; done) | (revert g; show ∀ g ∈ ([0, 4] : List Nat), g < 19; decide)), fun e H hc => by
  have hc : (decide (eN e 0 ≤ 10000) && (decide (eN e 0 ≤ eN e 4) && bndB (eI e 5) (eN e 0))) = true := hc
  try simp only [Bool.and_eq_true, decide_eq_true_eq, Nat.beq_eq] at hc
  exact by obtain ⟨h1, h2, h3⟩ := hc; exact boI (textAt H (19 + 0)) (textAt H (19 + 4)) (eN e 0) (eN e 4) (eB e 2 []) (eI e 5) (eI e 7 []) h1 h2 h3⟩
end Go.Proofs.YtcphocfnhekdaaaDoor

set_option linter.unusedSimpArgs false
set_option linter.unusedVariables false
set_option maxRecDepth 100000
namespace Go.Proofs.YtcphocfnhekdaaaDoor
open Go.Sx

open GramR
def sumsPO : List (FuncId × Summ) := [(12, psOkP.summ 38), (11, avP.summ 38), (13, rsP.summ 38), (18, boP.summ 38)]
theorem basePO : Base0 Tryd.prog sumsPO := ((((baseO.cons Tryd.func18 (by kernel_rfl) (PC.summ_ok boP_pc gtopG)).cons Tryd.func13 (by kernel_rfl) (PC.summ_ok rsP_pc gtopG)).cons Tryd.func11 (by kernel_rfl) (PC.summ_ok avP_pc gtopG)).cons Tryd.func12 (by kernel_rfl) (PC.summ_ok psOkP_pc gtopG))
def sumsPN : List (FuncId × Summ) := [(12, psFoP.summ 38), (11, avP.summ 38), (13, rsP.summ 38), (18, boP.summ 38)]
theorem basePN : Base0 Tryd.prog sumsPN := ((((baseO.cons Tryd.func18 (by kernel_rfl) (PC.summ_ok boP_pc gtopG)).cons Tryd.func13 (by kernel_rfl) (PC.summ_ok rsP_pc gtopG)).cons Tryd.func11 (by kernel_rfl) (PC.summ_ok avP_pc gtopG)).cons Tryd.func12 (by kernel_rfl) (PC.summ_ok psFoP_pc gtopG))
theorem gpLong_p0 (t0 t1 : List UInt8) (N : Nat) (raw : Bool) (B : Ix → Int) (c : Int) :
    isEnd (evTill Tryd.prog sumsPO 600 (99) 900 5 [.code (bodyOf Tryd.f5)] (envOf [vL 100 1 N, vB raw, vN c] Tryd.f5.ntmps) (sentEnts 19 144 [(4, t0), (0, t1)] ++ rB 100 N B ++ ([])) ⟨[.t, .f, .s true], 110⟩) (endP ([]) (YES) ([]) 12000) =
    (OkL [(decide ((↑N : Int) > (600 : Int)), true)] ∧ true = true ∧ True) := by kernel_rfl

set_option maxHeartbeats 4000000 in
theorem gpLong (t0 t1 : List UInt8) (N : Nat) (raw : Bool) (B : Ix → Int) (c : Int) (h : 600 < N)  :
    RunsTo Tryd.prog 5 [.code (bodyOf Tryd.f5)] (envOf [vL 100 1 N, vB raw, vN c] Tryd.f5.ntmps) (Sx.look (sentEnts 19 144 [(4, t0), (0, t1)] ++ rB 100 N B ++ ([]))) 110 (YES) (Sx.look ([])) 12000 := by
  refine runs_last basePO (Sx.Ends.of (gpLong_p0 t0 t1 N raw B c) ⟨?oo, ?rr⟩) (by kernel_rfl) rfl (gtL (by decide)) (by decide)
  case oo =>
    refine (okc ?_ okn)
    all_goals ((try simp (disch := omega) only [SS]); first | done | omega | assumption | (simp (disch := omega) only [SS] at *; first | done | omega | assumption) | (simp_all; done))
  case rr =>
    try simp (disch := omega) only [SS]
    repeat' apply And.intro
    all_goals first | exact True.intro | with_reducible rfl | omega | (intros; first | exact True.intro | with_reducible rfl | omega | (simp_all; done)) | (simp_all; done) | rfl

theorem gpForm_p0 (t0 t1 : List UInt8) (N : Nat) (raw : Bool) (B : Ix → Int) (c : Int) :
    isEnd (evTill Tryd.prog sumsPN 600 (99) 900 5 [.code (bodyOf Tryd.f5)] (envOf [vL 100 1 N, vB raw, vN c] Tryd.f5.ntmps) (sentEnts 19 144 [(4, t0), (0, t1)] ++ rB 100 N B ++ ([])) ⟨[.t, .f, .s false, .s true, .t], 110⟩) (endP ([]) (YES) ([]) 12000) =
    (OkL [(decide ((↑N : Int) > (600 : Int)), false), (decide (N ≤ (10000 : Nat)) && (decide (N ≤ N) && (bndB B N && (ptM raw N B).isNone)), true)] ∧ true = true ∧ True) := by kernel_rfl

set_option maxHeartbeats 4000000 in
theorem gpForm (t0 t1 : List UInt8) (N : Nat) (raw : Bool) (B : Ix → Int) (c : Int) (hN : N ≤ 600) (hB : bndB B N = true) (hr : (ptM raw N B).isNone = true)  :
    RunsTo Tryd.prog 5 [.code (bodyOf Tryd.f5)] (envOf [vL 100 1 N, vB raw, vN c] Tryd.f5.ntmps) (Sx.look (sentEnts 19 144 [(4, t0), (0, t1)] ++ rB 100 N B ++ ([]))) 110 (YES) (Sx.look ([])) 12000 := by
  refine runs_last basePN (Sx.Ends.of (gpForm_p0 t0 t1 N raw B c) ⟨?oo, ?rr⟩) (by kernel_rfl) rfl (gtL (by decide)) (by decide)
  case oo =>
    refine (okc ?_ (okc ?_ okn))
    all_goals first | exact hr | omega | (simp (disch := omega) only [SS]; first | done | omega) | (refine Bool.and_eq_true_iff.2 ⟨decide_eq_true (by omega), Bool.and_eq_true_iff.2 ⟨decide_eq_true (by omega), Bool.and_eq_true_iff.2 ⟨hB, hr⟩⟩⟩) | (simp_all; done)
  case rr =>
    try simp (disch := omega) only [SS]
    repeat' apply And.intro
    all_goals first | exact True.intro | with_reducible rfl | omega | (intros; first | exact True.intro | with_reducible rfl | omega | (simp_all; done)) | (simp_all; done) | rfl

theorem gpStart_p0 (t0 t1 : List UInt8) (N : Nat) (raw : Bool) (B : Ix → Int) (c : Int) (T K : List Itm) (n : Nat) :
    isMore (evTill Tryd.prog sumsPO 600 (behind Tryd.f5 0) 900 5 [.code (bodyOf Tryd.f5)] (envOf [vL 100 1 N, vB raw, vN c] Tryd.f5.ntmps) (sentEnts 19 144 [(4, t0), (0, t1)] ++ rB 100 N B ++ ([])) ⟨[.t, .f, .s false, .s true, .f, .s true, .s true, .s true, .s true, .f, .s false, .s true, .s true, .s true, .s false], 110⟩) (moreP (headOf Tryd.f5 0) ([((121 : Nat), Rn.to (3091 : Nat)), ((123 : Nat), Rn.to (3811 : Nat)), ((122 : Nat), Rn.to (3092 : Nat)), ((124 : Nat), Rn.to (3812 : Nat))]) Tryd.f5.ntmps ([(0, vL 100 1 N), (1, vB raw), (7, vL 121 6 T.length), (9, vN (n : Nat)), (60, vL 123 6 K.length), (61, vN K.length), (62, vN (0 : Nat))]) (itE 121 122 T ++ itE 123 124 K) 12000) =
    (OkL [(decide ((↑N : Int) > (600 : Int)), false), (decide (N ≤ (10000 : Nat)) && (decide (N ≤ N) && (bndB B N && (ptM raw N B).isSome)), true), (!IntKind.u64.wrap (IntKind.i64.wrap ((↑N : Int) + (1 : Int))) == (0 : Int), true), (((0 : Nat) + N).ble N, true), (decide ((0 : Int) ≤ IntKind.i64.wrap ((IntKind.u64.wrap c).tmod (IntKind.u64.wrap (IntKind.i64.wrap ((↑N : Int) + (1 : Int))))) ∧ IntKind.i64.wrap ((IntKind.u64.wrap c).tmod (IntKind.u64.wrap (IntKind.i64.wrap ((↑N : Int) + (1 : Int))))) + (↑(0 : Nat) : Int) ≤ (↑N : Int)), true), (decide ((IntKind.i64.wrap ((IntKind.u64.wrap c).tmod (IntKind.u64.wrap (IntKind.i64.wrap ((↑N : Int) + (1 : Int)))))).toNat ≤ (10000 : Nat)) && (decide ((IntKind.i64.wrap ((IntKind.u64.wrap c).tmod (IntKind.u64.wrap (IntKind.i64.wrap ((↑N : Int) + (1 : Int)))))).toNat ≤ N) && (bndB B (IntKind.i64.wrap ((IntKind.u64.wrap c).tmod (IntKind.u64.wrap (IntKind.i64.wrap ((↑N : Int) + (1 : Int)))))).toNat && (ptM raw (IntKind.i64.wrap ((IntKind.u64.wrap c).tmod (IntKind.u64.wrap (IntKind.i64.wrap ((↑N : Int) + (1 : Int)))))).toNat B).isSome)), true), (decide ((↑(ptT raw (IntKind.i64.wrap ((IntKind.u64.wrap c).tmod (IntKind.u64.wrap (IntKind.i64.wrap ((↑N : Int) + (1 : Int)))))).toNat B).length : Int) > (↑(ptT raw N B).length : Int)), false), (((0 : Nat) + N).ble N, true), (decide ((0 : Int) ≤ IntKind.i64.wrap ((IntKind.u64.wrap c).tmod (IntKind.u64.wrap (IntKind.i64.wrap ((↑N : Int) + (1 : Int))))) ∧ IntKind.i64.wrap ((IntKind.u64.wrap c).tmod (IntKind.u64.wrap (IntKind.i64.wrap ((↑N : Int) + (1 : Int))))) + (↑(0 : Nat) : Int) ≤ (↑N : Int)), true), (decide ((IntKind.i64.wrap ((IntKind.u64.wrap c).tmod (IntKind.u64.wrap (IntKind.i64.wrap ((↑N : Int) + (1 : Int)))))).toNat ≤ (10000 : Nat)) && (decide ((IntKind.i64.wrap ((IntKind.u64.wrap c).tmod (IntKind.u64.wrap (IntKind.i64.wrap ((↑N : Int) + (1 : Int)))))).toNat ≤ N) && bndB B (IntKind.i64.wrap ((IntKind.u64.wrap c).tmod (IntKind.u64.wrap (IntKind.i64.wrap ((↑N : Int) + (1 : Int)))))).toNat), true), (decide ((↑(restN raw (IntKind.i64.wrap ((IntKind.u64.wrap c).tmod (IntKind.u64.wrap (IntKind.i64.wrap ((↑N : Int) + (1 : Int)))))).toNat B) : Int) > IntKind.i64.wrap ((IntKind.u64.wrap c).tmod (IntKind.u64.wrap (IntKind.i64.wrap ((↑N : Int) + (1 : Int)))))), false)] ∧ headOf Tryd.f5 (0 : Nat) = headOf Tryd.f5 (0 : Nat) ∧ (((0 : Nat) = (0 : Nat) ∧ N = N) ∧ raw = raw ∧ ((0 : Nat) = (0 : Nat) ∧ T.length = (ptT raw N B).length) ∧ (↑n : Int) = IntKind.i64.wrap ((IntKind.u64.wrap c).tmod (IntKind.u64.wrap (IntKind.i64.wrap ((↑N : Int) + (1 : Int))))) ∧ ((0 : Nat) = (0 : Nat) ∧ K.length = (ptT raw (IntKind.i64.wrap ((IntKind.u64.wrap c).tmod (IntKind.u64.wrap (IntKind.i64.wrap ((↑N : Int) + (1 : Int)))))).toNat B).length) ∧ (↑K.length : Int) = (↑(ptT raw (IntKind.i64.wrap ((IntKind.u64.wrap c).tmod (IntKind.u64.wrap (IntKind.i64.wrap ((↑N : Int) + (1 : Int)))))).toNat B).length : Int) ∧ (↑(0 : Nat) : Int) = (0 : Int)) ∧ (T.length = (ptT raw N B).length ∧ (∀ (i : Nat), i < T.length → iK T [i] = iK (ptT raw N B) [i]) ∧ (∀ (i : Nat), i < T.length → iF T [i] = iF (ptT raw N B) [i]) ∧ (∀ (i : Nat), i < T.length → iT T [i] = iT (ptT raw N B) [i]) ∧ (∀ (i : Nat), i < T.length → iC T [i] = iC (ptT raw N B) [i]) ∧ (∀ (i : Nat), i < T.length → iO T [i] = iO (ptT raw N B) [i]) ∧ (∀ (i : Nat), i < T.length → iM T [i] = iM (ptT raw N B) [i]) ∧ ∀ (i : Nat), i < T.length → iW T [i] = iW (ptT raw N B) [i]) ∧ (T.length = (ptT raw N B).length ∧ ∀ (m : Nat), m < T.length → iL T m = iL (ptT raw N B) m ∧ ∀ (i : Nat), i < iL T m → iZ T [m, i] = iZ (ptT raw N B) [m, i]) ∧ (K.length = (ptT raw (IntKind.i64.wrap ((IntKind.u64.wrap c).tmod (IntKind.u64.wrap (IntKind.i64.wrap ((↑N : Int) + (1 : Int)))))).toNat B).length ∧ (∀ (i : Nat), i < K.length → iK K [i] = iK (ptT raw (IntKind.i64.wrap ((IntKind.u64.wrap c).tmod (IntKind.u64.wrap (IntKind.i64.wrap ((↑N : Int) + (1 : Int)))))).toNat B) [i]) ∧ (∀ (i : Nat), i < K.length → iF K [i] = iF (ptT raw (IntKind.i64.wrap ((IntKind.u64.wrap c).tmod (IntKind.u64.wrap (IntKind.i64.wrap ((↑N : Int) + (1 : Int)))))).toNat B) [i]) ∧ (∀ (i : Nat), i < K.length → iT K [i] = iT (ptT raw (IntKind.i64.wrap ((IntKind.u64.wrap c).tmod (IntKind.u64.wrap (IntKind.i64.wrap ((↑N : Int) + (1 : Int)))))).toNat B) [i]) ∧ (∀ (i : Nat), i < K.length → iC K [i] = iC (ptT raw (IntKind.i64.wrap ((IntKind.u64.wrap c).tmod (IntKind.u64.wrap (IntKind.i64.wrap ((↑N : Int) + (1 : Int)))))).toNat B) [i]) ∧ (∀ (i : Nat), i < K.length → iO K [i] = iO (ptT raw (IntKind.i64.wrap ((IntKind.u64.wrap c).tmod (IntKind.u64.wrap (IntKind.i64.wrap ((↑N : Int) + (1 : Int)))))).toNat B) [i]) ∧ (∀ (i : Nat), i < K.length → iM K [i] = iM (ptT raw (IntKind.i64.wrap ((IntKind.u64.wrap c).tmod (IntKind.u64.wrap (IntKind.i64.wrap ((↑N : Int) + (1 : Int)))))).toNat B) [i]) ∧ ∀ (i : Nat), i < K.length → iW K [i] = iW (ptT raw (IntKind.i64.wrap ((IntKind.u64.wrap c).tmod (IntKind.u64.wrap (IntKind.i64.wrap ((↑N : Int) + (1 : Int)))))).toNat B) [i]) ∧ K.length = (ptT raw (IntKind.i64.wrap ((IntKind.u64.wrap c).tmod (IntKind.u64.wrap (IntKind.i64.wrap ((↑N : Int) + (1 : Int)))))).toNat B).length ∧ ∀ (m : Nat), m < K.length → iL K m = iL (ptT raw (IntKind.i64.wrap ((IntKind.u64.wrap c).tmod (IntKind.u64.wrap (IntKind.i64.wrap ((↑N : Int) + (1 : Int)))))).toNat B) m ∧ ∀ (i : Nat), i < iL K m → iZ K [m, i] = iZ (ptT raw (IntKind.i64.wrap ((IntKind.u64.wrap c).tmod (IntKind.u64.wrap (IntKind.i64.wrap ((↑N : Int) + (1 : Int)))))).toNat B) [m, i]) := by kernel_rfl

set_option maxHeartbeats 4000000 in
theorem gpStart (t0 t1 : List UInt8) (N : Nat) (raw : Bool) (B : Ix → Int) (c : Int) (T K : List Itm) (n : Nat) (hN : N ≤ 600) (hB : bndB B N = true) (hnN : n ≤ N) (hn : IntKind.i64.wrap ((IntKind.u64.wrap c).tmod ((N + 1 : Nat) : Int)) = (n : Int)) (hr : (ptM raw N B).isSome = true) (hr2 : (ptM raw n B).isSome = true) (hT : ptT raw N B = T) (hK : ptT raw n B = K) (hl : T.length ≤ N) (hKl : K.length ≤ T.length) (hrest : restN raw n B ≤ n) (hb2 : bndB B n = true)  (next : RunsTo Tryd.prog 5 (headOf Tryd.f5 0) (envAt Tryd.f5.ntmps ([(0, vL 100 1 N), (1, vB raw), (7, vL 121 6 T.length), (9, vN (n : Nat)), (60, vL 123 6 K.length), (61, vN K.length), (62, vN (0 : Nat))])) (Sx.look (sentEnts 19 144 [(4, t0), (0, t1)] ++ rB 100 N B ++ (itE 121 122 T ++ itE 123 124 K))) 110 (YES) (Sx.look []) 12000) :
    RunsTo Tryd.prog 5 [.code (bodyOf Tryd.f5)] (envOf [vL 100 1 N, vB raw, vN c] Tryd.f5.ntmps) (Sx.look (sentEnts 19 144 [(4, t0), (0, t1)] ++ rB 100 N B ++ ([]))) 110 (YES) (Sx.look []) 12000 := by
  have w1 : IntKind.i64.wrap ((N : Int) + 1) = ((N + 1 : Nat) : Int) := by rw [wr64 (by omega)]; rfl
  have w2 : IntKind.u64.wrap ((N + 1 : Nat) : Int) = ((N + 1 : Nat) : Int) := by simp only [IntKind.wrap, IntKind.bits, IntKind.signed]; simp; omega
  have wi : IntKind.i64.wrap ((n : Int)) = (n : Int) := wr64 (by omega)
  refine runs_more basePO (More.of (gpStart_p0 t0 t1 N raw B c T K n) ⟨?oo, rfl, ?rr⟩) (by kernel_rfl) (by kernel_rfl) rfl (gtL (by decide)) (by decide) next
  case oo =>
    clear next
    refine (okc ?_ (okc ?_ (okc ?_ (okc ?_ (okc ?_ (okc ?_ (okc ?_ (okc ?_ (okc ?_ (okc ?_ (okc ?_ okn)))))))))))
    all_goals first | omega | (simp (disch := omega) only [SS, w1, w2, hn, hT, hK]; first | done | omega | exact ⟨by omega, by omega, hB, hr⟩ | exact ⟨by omega, by omega, hb2, hr2⟩ | exact ⟨by omega, by omega, hb2⟩ | exact ⟨by omega, by omega, hB⟩) | (simp_all; done) | (simp_all; omega)
  case rr =>
    clear next
    try simp (disch := omega) only [SS, w1, w2, hn, hT, hK]
    repeat' apply And.intro
    all_goals first | exact True.intro | with_reducible rfl | omega | (intros; first | exact True.intro | with_reducible rfl | omega | (simp_all; done)) | (simp_all; done) | rfl

theorem gpR_p0 (t0 t1 : List UInt8) (N : Nat) (raw : Bool) (B : Ix → Int) (c : Int) (T K : List Itm) (n i : Nat) :
    isMore (evTill Tryd.prog sumsPO 600 (behind Tryd.f5 0) 900 5 (headOf Tryd.f5 0) (envAt Tryd.f5.ntmps ([(0, vL 100 1 N), (1, vB raw), (7, vL 121 6 T.length), (9, vN (n : Nat)), (60, vL 123 6 K.length), (61, vN K.length), (62, vN (i : Nat))])) (sentEnts 19 144 [(4, t0), (0, t1)] ++ rB 100 N B ++ (itE 121 122 T ++ itE 123 124 K)) ⟨[.s true, .s true, .s true, .s true, .s true, .s true, .s true, .s false, .s true, .s true, .s true, .s false, .s true, .s true, .s true, .s false], 140⟩) (moreP (headOf Tryd.f5 0) ([]) Tryd.f5.ntmps ([(0, vL 100 1 N), (1, vB raw), (7, vL 121 6 T.length), (9, vN (n : Nat)), (60, vL 123 6 K.length), (61, vN K.length), (62, vN (i + 1 : Nat))]) (itE 121 122 T ++ itE 123 124 K) 12000) =
    (OkL [(decide ((↑i : Int) < (↑K.length : Int)), true), (decide ((0 : Int) ≤ (↑i : Int) ∧ (↑i : Int) < (↑K.length : Int)), true), (((0 : Nat) + (↑i : Int).toNat).blt K.length, true), (((0 : Nat) + (↑i : Int).toNat).blt K.length, true), (decide ((0 : Int) ≤ (↑i : Int) ∧ (↑i : Int) < (↑T.length : Int)), true), (((0 : Nat) + (↑i : Int).toNat).blt T.length, true), (((0 : Nat) + (↑i : Int).toNat).blt T.length, true), (iF K [(0 : Nat) + (↑i : Int).toNat] != iF T [(0 : Nat) + (↑i : Int).toNat], false), (decide ((0 : Int) ≤ (↑i : Int) ∧ (↑i : Int) < (↑T.length : Int)), true), (((0 : Nat) + (↑i : Int).toNat).blt T.length, true), (((0 : Nat) + (↑i : Int).toNat).blt T.length, true), (iT K [(0 : Nat) + (↑i : Int).toNat] != iT T [(0 : Nat) + (↑i : Int).toNat], false), (decide ((0 : Int) ≤ (↑i : Int) ∧ (↑i : Int) < (↑T.length : Int)), true), (((0 : Nat) + (↑i : Int).toNat).blt T.length, true), (((0 : Nat) + (↑i : Int).toNat).blt T.length, true), (iK K [(0 : Nat) + (↑i : Int).toNat] != iK T [(0 : Nat) + (↑i : Int).toNat], false)] ∧ headOf Tryd.f5 (0 : Nat) = headOf Tryd.f5 (0 : Nat) ∧ (((0 : Nat) = (0 : Nat) ∧ N = N) ∧ raw = raw ∧ ((0 : Nat) = (0 : Nat) ∧ T.length = T.length) ∧ (↑n : Int) = (↑n : Int) ∧ ((0 : Nat) = (0 : Nat) ∧ K.length = K.length) ∧ (↑K.length : Int) = (↑K.length : Int) ∧ (↑(i + (1 : Nat)) : Int) = IntKind.i64.wrap ((↑i : Int) + (1 : Int))) ∧ (T.length = T.length ∧ (∀ (i : Nat), i < T.length → iK T [i] = iK T [i]) ∧ (∀ (i : Nat), i < T.length → iF T [i] = iF T [i]) ∧ (∀ (i : Nat), i < T.length → iT T [i] = iT T [i]) ∧ (∀ (i : Nat), i < T.length → iC T [i] = iC T [i]) ∧ (∀ (i : Nat), i < T.length → iO T [i] = iO T [i]) ∧ (∀ (i : Nat), i < T.length → iM T [i] = iM T [i]) ∧ ∀ (i : Nat), i < T.length → iW T [i] = iW T [i]) ∧ (T.length = T.length ∧ ∀ (m : Nat), m < T.length → iL T m = iL T m ∧ ∀ (i : Nat), i < iL T m → iZ T [m, i] = iZ T [m, i]) ∧ (K.length = K.length ∧ (∀ (i : Nat), i < K.length → iK K [i] = iK K [i]) ∧ (∀ (i : Nat), i < K.length → iF K [i] = iF K [i]) ∧ (∀ (i : Nat), i < K.length → iT K [i] = iT K [i]) ∧ (∀ (i : Nat), i < K.length → iC K [i] = iC K [i]) ∧ (∀ (i : Nat), i < K.length → iO K [i] = iO K [i]) ∧ (∀ (i : Nat), i < K.length → iM K [i] = iM K [i]) ∧ ∀ (i : Nat), i < K.length → iW K [i] = iW K [i]) ∧ K.length = K.length ∧ ∀ (m : Nat), m < K.length → iL K m = iL K m ∧ ∀ (i : Nat), i < iL K m → iZ K [m, i] = iZ K [m, i]) := by kernel_rfl

set_option maxHeartbeats 4000000 in
theorem gpR (t0 t1 : List UInt8) (N : Nat) (raw : Bool) (B : Ix → Int) (c : Int) (T K : List Itm) (n i : Nat) (hN : N ≤ 600) (hi : i < K.length) (hl : T.length ≤ N) (hKl : K.length ≤ T.length) (h1 : iF K [i] = iF T [i]) (h2 : iT K [i] = iT T [i]) (h3 : iK K [i] = iK T [i])  (next : RunsTo Tryd.prog 5 (headOf Tryd.f5 0) (envAt Tryd.f5.ntmps ([(0, vL 100 1 N), (1, vB raw), (7, vL 121 6 T.length), (9, vN (n : Nat)), (60, vL 123 6 K.length), (61, vN K.length), (62, vN (i + 1 : Nat))])) (Sx.look (sentEnts 19 144 [(4, t0), (0, t1)] ++ rB 100 N B ++ (itE 121 122 T ++ itE 123 124 K))) 110 (YES) (Sx.look []) 12000) :
    RunsTo Tryd.prog 5 (headOf Tryd.f5 0) (envAt Tryd.f5.ntmps ([(0, vL 100 1 N), (1, vB raw), (7, vL 121 6 T.length), (9, vN (n : Nat)), (60, vL 123 6 K.length), (61, vN K.length), (62, vN (i : Nat))])) (Sx.look (sentEnts 19 144 [(4, t0), (0, t1)] ++ rB 100 N B ++ (itE 121 122 T ++ itE 123 124 K))) 110 (YES) (Sx.look []) 12000 := by
  have hw : IntKind.i64.wrap ((i : Int) + 1) = ((i + 1 : Nat) : Int) := by rw [wr64 (by omega)]; rfl
  refine runs_more basePO (More.of (gpR_p0 t0 t1 N raw B c T K n i) ⟨?oo, rfl, ?rr⟩) (by kernel_rfl) (by kernel_rfl) rfl (gtL (by decide)) (by decide) next
  case oo =>
    clear next
    refine (okc ?_ (okc ?_ (okc ?_ (okc ?_ (okc ?_ (okc ?_ (okc ?_ (okc ?_ (okc ?_ (okc ?_ (okc ?_ (okc ?_ (okc ?_ (okc ?_ (okc ?_ (okc ?_ okn))))))))))))))))
    all_goals ((try simp (disch := omega) only [SS, hw, h1, h2, h3]); first | done | omega | assumption | (simp (disch := omega) only [SS, hw, h1, h2, h3] at *; first | done | omega | assumption) | (simp_all; done))
  case rr =>
    clear next
    try simp (disch := omega) only [SS, hw, h1, h2, h3]
    repeat' apply And.intro
    all_goals first | exact True.intro | with_reducible rfl | omega | (intros; first | exact True.intro | with_reducible rfl | omega | (simp_all; done)) | (simp_all; done) | rfl

theorem gpE1_p0 (t0 t1 : List UInt8) (N : Nat) (raw : Bool) (B : Ix → Int) (c : Int) (T K : List Itm) (n i : Nat) :
    isEnd (evTill Tryd.prog sumsPO 600 (99) 900 5 (headOf Tryd.f5 0) (envAt Tryd.f5.ntmps ([(0, vL 100 1 N), (1, vB raw), (7, vL 121 6 T.length), (9, vN (n : Nat)), (60, vL 123 6 K.length), (61, vN K.length), (62, vN (i : Nat))])) (sentEnts 19 144 [(4, t0), (0, t1)] ++ rB 100 N B ++ (itE 121 122 T ++ itE 123 124 K)) ⟨[.s false, .s true, .s true, .s true, .s true], 140⟩) (endP ([]) (YES) ([]) 12000) =
    (OkL [(decide ((↑i : Int) < (↑K.length : Int)), false), (((0 : Nat) + N).ble N, true), (decide ((0 : Int) ≤ (↑n : Int) ∧ (↑n : Int) + (↑(0 : Nat) : Int) ≤ (↑N : Int)), true), (decide ((↑n : Int).toNat ≤ (10000 : Nat)) && (decide ((↑n : Int).toNat ≤ N) && bndB B (↑n : Int).toNat), true), (decide ((↑(restN raw (↑n : Int).toNat B) : Int) > (0 : Int)), true)] ∧ true = true ∧ True) := by kernel_rfl

set_option maxHeartbeats 4000000 in
theorem gpE1 (t0 t1 : List UInt8) (N : Nat) (raw : Bool) (B : Ix → Int) (c : Int) (T K : List Itm) (n i : Nat) (hN : N ≤ 600) (hB : bndB B N = true) (hi : i = K.length) (hnN : n ≤ N) (hb2 : bndB B n = true) (hz : 0 < restN raw n B)  :
    RunsTo Tryd.prog 5 (headOf Tryd.f5 0) (envAt Tryd.f5.ntmps ([(0, vL 100 1 N), (1, vB raw), (7, vL 121 6 T.length), (9, vN (n : Nat)), (60, vL 123 6 K.length), (61, vN K.length), (62, vN (i : Nat))])) (Sx.look (sentEnts 19 144 [(4, t0), (0, t1)] ++ rB 100 N B ++ (itE 121 122 T ++ itE 123 124 K))) 110 (YES) (Sx.look ([])) 12000 := by
  refine runs_last basePO (Sx.Ends.of (gpE1_p0 t0 t1 N raw B c T K n i) ⟨?oo, ?rr⟩) (by kernel_rfl) rfl (gtL (by decide)) (by decide)
  case oo =>
    refine (okc ?_ (okc ?_ (okc ?_ (okc ?_ (okc ?_ okn)))))
    all_goals first | omega | (simp (disch := omega) only [SS]; first | done | omega | exact ⟨by omega, by omega, hb2⟩ | exact ⟨by omega, by omega, hB⟩) | (simp_all; done) | (simp_all; omega)
  case rr =>
    try simp (disch := omega) only [SS]
    repeat' apply And.intro
    all_goals first | exact True.intro | with_reducible rfl | omega | (intros; first | exact True.intro | with_reducible rfl | omega | (simp_all; done)) | (simp_all; done) | rfl

theorem gpE2_p0 (t0 t1 : List UInt8) (N : Nat) (raw : Bool) (B : Ix → Int) (c : Int) (T K : List Itm) (n i : Nat) :
    isEnd (evTill Tryd.prog sumsPO 600 (99) 900 5 (headOf Tryd.f5 0) (envAt Tryd.f5.ntmps ([(0, vL 100 1 N), (1, vB raw), (7, vL 121 6 T.length), (9, vN (n : Nat)), (60, vL 123 6 K.length), (61, vN K.length), (62, vN (i : Nat))])) (sentEnts 19 144 [(4, t0), (0, t1)] ++ rB 100 N B ++ (itE 121 122 T ++ itE 123 124 K)) ⟨[.s false, .s true, .s true, .s true, .s false, .s true], 140⟩) (endP ([]) (YES) ([]) 12000) =
    (OkL [(decide ((↑i : Int) < (↑K.length : Int)), false), (((0 : Nat) + N).ble N, true), (decide ((0 : Int) ≤ (↑n : Int) ∧ (↑n : Int) + (↑(0 : Nat) : Int) ≤ (↑N : Int)), true), (decide ((↑n : Int).toNat ≤ (10000 : Nat)) && (decide ((↑n : Int).toNat ≤ N) && bndB B (↑n : Int).toNat), true), (decide ((↑(restN raw (↑n : Int).toNat B) : Int) > (0 : Int)), false), (decide (N ≤ (10000 : Nat)) && (decide (N ≤ N) && bndB B N), true)] ∧ true = brV raw N B (↑n : Int) ∧ True) := by kernel_rfl

set_option maxHeartbeats 4000000 in
theorem gpE2 (t0 t1 : List UInt8) (N : Nat) (raw : Bool) (B : Ix → Int) (c : Int) (T K : List Itm) (n i : Nat) (hN : N ≤ 600) (hB : bndB B N = true) (hi : i = K.length) (hnN : n ≤ N) (hb2 : bndB B n = true) (hz : restN raw n B = 0) (hbr : brV raw N B (n : Int) = true)  :
    RunsTo Tryd.prog 5 (headOf Tryd.f5 0) (envAt Tryd.f5.ntmps ([(0, vL 100 1 N), (1, vB raw), (7, vL 121 6 T.length), (9, vN (n : Nat)), (60, vL 123 6 K.length), (61, vN K.length), (62, vN (i : Nat))])) (Sx.look (sentEnts 19 144 [(4, t0), (0, t1)] ++ rB 100 N B ++ (itE 121 122 T ++ itE 123 124 K))) 110 (YES) (Sx.look ([])) 12000 := by
  refine runs_last basePO (Sx.Ends.of (gpE2_p0 t0 t1 N raw B c T K n i) ⟨?oo, ?rr⟩) (by kernel_rfl) rfl (gtL (by decide)) (by decide)
  case oo =>
    refine (okc ?_ (okc ?_ (okc ?_ (okc ?_ (okc ?_ (okc ?_ okn))))))
    all_goals first | omega | (simp (disch := omega) only [SS, hz, hbr]; first | done | omega | exact ⟨by omega, by omega, hb2⟩ | exact ⟨by omega, by omega, hB⟩) | (simp_all; done) | (simp_all; omega)
  case rr =>
    try simp (disch := omega) only [SS, hz, hbr]
    repeat' apply And.intro
    all_goals first | exact True.intro | with_reducible rfl | omega | (intros; first | exact True.intro | with_reducible rfl | omega | (simp_all; done)) | (simp_all; done) | rfl

end Go.Proofs.YtcphocfnhekdaaaDoor

