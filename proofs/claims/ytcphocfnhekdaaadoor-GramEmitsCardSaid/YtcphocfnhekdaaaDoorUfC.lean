/- Grammar: Parse, Rest. -/
import Derived.Test.YtcphocfnhekdaaaDoorUcC
set_option linter.unusedSimpArgs false
set_option linter.unusedVariables false
set_option maxRecDepth 100000
namespace Go.Proofs.YtcphocfnhekdaaaDoor
open Go.Sx

open GramR
def sumsP0 : List (FuncId × Summ) := [(39, rdOkP.summ 38)]
theorem baseP0 : Base0 Tryd.prog sumsP0 := (baseO.cons Tryd.func39 (by kernel_rfl) (PC.summ_ok rdOkP_pc gtopG))
def sumsP1 : List (FuncId × Summ) := [(39, rdFoP.summ 38)]
theorem baseP1 : Base0 Tryd.prog sumsP1 := (baseO.cons Tryd.func39 (by kernel_rfl) (PC.summ_ok rdFoP_pc gtopG))
theorem psOk_p0 (t0 t1 : List UInt8) (N M : Nat) (raw : Bool) (B : Ix → Int) :
    isEnd (evTill Tryd.prog sumsP0 300 (99) 900 12 [.code (bodyOf Tryd.f12)] (envOf [vL 60 1 N, vB raw] Tryd.f12.ntmps) (sentEnts 19 144 [(0, t0), (4, t1)] ++ rB 60 M B ++ ([])) ⟨[.s true, .f], 80⟩) (endP ([((141 : Nat), Rn.to (142 : Nat)), ((142 : Nat), Rn.to (143 : Nat))]) (.tup [(false, .vl 141 (fun _ => 0) 6 [] (fun _ => (ptT raw N B).length)), (false, .ve0)]) (itE 141 142 (ptT raw N B)) 800) =
    (OkL [(decide (N ≤ (100000 : Nat)) && (decide (N ≤ M) && (bndB B N && (ptM raw N B).isSome)), true)] ∧ (((0 : Nat) = (0 : Nat) ∧ (ptT raw N B).length = (ptT raw N B).length) ∧ True ∧ True) ∧ ((ptT raw N B).length = (ptT raw N B).length ∧ (∀ (i : Nat), i < (ptT raw N B).length → iK (ptT raw N B) [i] = iK (ptT raw N B) [i]) ∧ (∀ (i : Nat), i < (ptT raw N B).length → iF (ptT raw N B) [i] = iF (ptT raw N B) [i]) ∧ (∀ (i : Nat), i < (ptT raw N B).length → iT (ptT raw N B) [i] = iT (ptT raw N B) [i]) ∧ (∀ (i : Nat), i < (ptT raw N B).length → iC (ptT raw N B) [i] = iC (ptT raw N B) [i]) ∧ (∀ (i : Nat), i < (ptT raw N B).length → iO (ptT raw N B) [i] = iO (ptT raw N B) [i]) ∧ (∀ (i : Nat), i < (ptT raw N B).length → iM (ptT raw N B) [i] = iM (ptT raw N B) [i]) ∧ ∀ (i : Nat), i < (ptT raw N B).length → iW (ptT raw N B) [i] = iW (ptT raw N B) [i]) ∧ (ptT raw N B).length = (ptT raw N B).length ∧ ∀ (m : Nat), m < (ptT raw N B).length → iL (ptT raw N B) m = iL (ptT raw N B) m ∧ ∀ (i : Nat), i < iL (ptT raw N B) m → iZ (ptT raw N B) [m, i] = iZ (ptT raw N B) [m, i]) := by kernel_rfl

set_option maxHeartbeats 4000000 in
theorem psOk (t0 t1 : List UInt8) (N M : Nat) (raw : Bool) (B : Ix → Int) (hN : N ≤ 100000) (hM : N ≤ M) (hB : bndB B N = true) (hr : (ptM raw N B).isSome = true)  :
    RunsTo Tryd.prog 12 [.code (bodyOf Tryd.f12)] (envOf [vL 60 1 N, vB raw] Tryd.f12.ntmps) (Sx.look (sentEnts 19 144 [(0, t0), (4, t1)] ++ rB 60 M B ++ ([]))) 80 (.tup [(false, .vl 141 (fun _ => 0) 6 [] (fun _ => (ptT raw N B).length)), (false, .ve0)]) (Sx.look (itE 141 142 (ptT raw N B))) 800 := by
  refine runs_last baseP0 (Sx.Ends.of (psOk_p0 t0 t1 N M raw B) ⟨?oo, ?rr⟩) (by kernel_rfl) rfl (gtL (by decide)) (by decide)
  case oo =>
    refine (okc ?_ okn)
    all_goals first | exact hr | omega | (simp (disch := omega) only [SS]; first | done | omega) | (refine Bool.and_eq_true_iff.2 ⟨decide_eq_true (by omega), Bool.and_eq_true_iff.2 ⟨decide_eq_true (by omega), Bool.and_eq_true_iff.2 ⟨hB, hr⟩⟩⟩) | (simp_all; done)
  case rr =>
    try simp (disch := omega) only [SS]
    repeat' apply And.intro
    all_goals first | exact True.intro | with_reducible rfl | omega | (intros; first | exact True.intro | with_reducible rfl | omega | (simp_all; done)) | (simp_all; done) | rfl

theorem psFo_p0 (t0 t1 : List UInt8) (N M : Nat) (raw : Bool) (B : Ix → Int) :
    isEnd (evTill Tryd.prog sumsP1 300 (99) 900 12 [.code (bodyOf Tryd.f12)] (envOf [vL 60 1 N, vB raw] Tryd.f12.ntmps) (sentEnts 19 144 [(0, t0), (4, t1)] ++ rB 60 M B ++ ([])) ⟨[.s true, .t], 80⟩) (endP ([]) (.tup [(false, .vl0), (false, vErr 0)]) ([]) 800) =
    (OkL [(decide (N ≤ (100000 : Nat)) && (decide (N ≤ M) && (bndB B N && (ptM raw N B).isNone)), true)] ∧ (True ∧ (0 : Nat) = (0 : Nat) ∧ True) ∧ True) := by kernel_rfl

set_option maxHeartbeats 4000000 in
theorem psFo (t0 t1 : List UInt8) (N M : Nat) (raw : Bool) (B : Ix → Int) (hN : N ≤ 100000) (hM : N ≤ M) (hB : bndB B N = true) (hr : (ptM raw N B).isNone = true)  :
    RunsTo Tryd.prog 12 [.code (bodyOf Tryd.f12)] (envOf [vL 60 1 N, vB raw] Tryd.f12.ntmps) (Sx.look (sentEnts 19 144 [(0, t0), (4, t1)] ++ rB 60 M B ++ ([]))) 80 (.tup [(false, .vl0), (false, vErr 0)]) (Sx.look ([])) 800 := by
  refine runs_last baseP1 (Sx.Ends.of (psFo_p0 t0 t1 N M raw B) ⟨?oo, ?rr⟩) (by kernel_rfl) rfl (gtL (by decide)) (by decide)
  case oo =>
    refine (okc ?_ okn)
    all_goals first | exact hr | omega | (simp (disch := omega) only [SS]; first | done | omega) | (refine Bool.and_eq_true_iff.2 ⟨decide_eq_true (by omega), Bool.and_eq_true_iff.2 ⟨decide_eq_true (by omega), Bool.and_eq_true_iff.2 ⟨hB, hr⟩⟩⟩) | (simp_all; done)
  case rr =>
    try simp (disch := omega) only [SS]
    repeat' apply And.intro
    all_goals first | exact True.intro | with_reducible rfl | omega | (intros; first | exact True.intro | with_reducible rfl | omega | (simp_all; done)) | (simp_all; done) | rfl

theorem rsOk_p0 (t0 t1 : List UInt8) (N M : Nat) (raw : Bool) (B : Ix → Int) :
    isEnd (evTill Tryd.prog sumsP0 300 (99) 900 13 [.code (bodyOf Tryd.f13)] (envOf [vL 60 1 N, vB raw] Tryd.f13.ntmps) (sentEnts 19 144 [(0, t0), (4, t1)] ++ rB 60 M B ++ ([])) ⟨[.s true], 80⟩) (endP ([]) (vN (restN raw N B : Nat)) ([]) 800) =
    (OkL [(decide (N ≤ (100000 : Nat)) && (decide (N ≤ M) && (bndB B N && (ptM raw N B).isSome)), true)] ∧ (↑(restN raw N B) : Int) = (↑(restN raw N B) : Int) ∧ True) := by kernel_rfl

set_option maxHeartbeats 4000000 in
theorem rsOk (t0 t1 : List UInt8) (N M : Nat) (raw : Bool) (B : Ix → Int) (hN : N ≤ 100000) (hM : N ≤ M) (hB : bndB B N = true) (hr : (ptM raw N B).isSome = true)  :
    RunsTo Tryd.prog 13 [.code (bodyOf Tryd.f13)] (envOf [vL 60 1 N, vB raw] Tryd.f13.ntmps) (Sx.look (sentEnts 19 144 [(0, t0), (4, t1)] ++ rB 60 M B ++ ([]))) 80 (vN (restN raw N B : Nat)) (Sx.look ([])) 800 := by
  refine runs_last baseP0 (Sx.Ends.of (rsOk_p0 t0 t1 N M raw B) ⟨?oo, ?rr⟩) (by kernel_rfl) rfl (gtL (by decide)) (by decide)
  case oo =>
    refine (okc ?_ okn)
    all_goals first | exact hr | omega | (simp (disch := omega) only [SS]; first | done | omega) | (refine Bool.and_eq_true_iff.2 ⟨decide_eq_true (by omega), Bool.and_eq_true_iff.2 ⟨decide_eq_true (by omega), Bool.and_eq_true_iff.2 ⟨hB, hr⟩⟩⟩) | (simp_all; done)
  case rr =>
    try simp (disch := omega) only [SS]
    repeat' apply And.intro
    all_goals first | exact True.intro | with_reducible rfl | omega | (intros; first | exact True.intro | with_reducible rfl | omega | (simp_all; done)) | (simp_all; done) | rfl

theorem rsFo_p0 (t0 t1 : List UInt8) (N M : Nat) (raw : Bool) (B : Ix → Int) :
    isEnd (evTill Tryd.prog sumsP1 300 (99) 900 13 [.code (bodyOf Tryd.f13)] (envOf [vL 60 1 N, vB raw] Tryd.f13.ntmps) (sentEnts 19 144 [(0, t0), (4, t1)] ++ rB 60 M B ++ ([])) ⟨[.s true], 80⟩) (endP ([]) (vN 0) ([]) 800) =
    (OkL [(decide (N ≤ (100000 : Nat)) && (decide (N ≤ M) && (bndB B N && (ptM raw N B).isNone)), true)] ∧ (0 : Int) = (0 : Int) ∧ True) := by kernel_rfl

set_option maxHeartbeats 4000000 in
theorem rsFo (t0 t1 : List UInt8) (N M : Nat) (raw : Bool) (B : Ix → Int) (hN : N ≤ 100000) (hM : N ≤ M) (hB : bndB B N = true) (hr : (ptM raw N B).isNone = true)  :
    RunsTo Tryd.prog 13 [.code (bodyOf Tryd.f13)] (envOf [vL 60 1 N, vB raw] Tryd.f13.ntmps) (Sx.look (sentEnts 19 144 [(0, t0), (4, t1)] ++ rB 60 M B ++ ([]))) 80 (vN 0) (Sx.look ([])) 800 := by
  refine runs_last baseP1 (Sx.Ends.of (rsFo_p0 t0 t1 N M raw B) ⟨?oo, ?rr⟩) (by kernel_rfl) rfl (gtL (by decide)) (by decide)
  case oo =>
    refine (okc ?_ okn)
    all_goals first | exact hr | omega | (simp (disch := omega) only [SS]; first | done | omega) | (refine Bool.and_eq_true_iff.2 ⟨decide_eq_true (by omega), Bool.and_eq_true_iff.2 ⟨decide_eq_true (by omega), Bool.and_eq_true_iff.2 ⟨hB, hr⟩⟩⟩) | (simp_all; done)
  case rr =>
    try simp (disch := omega) only [SS]
    repeat' apply And.intro
    all_goals first | exact True.intro | with_reducible rfl | omega | (intros; first | exact True.intro | with_reducible rfl | omega | (simp_all; done)) | (simp_all; done) | rfl

def psOkP : PC := { args := [.v (.vl 60 1 0), .v (.vb 2)], heap := [⟨60, false, 1, .ta 4 (.vi .u8 5)⟩], gs := [0, 4], G := 19, tp := 144, n := 80, n' := 800, cond := fun e => decide (eN e 0 ≤ 100000) && (decide (eN e 0 ≤ eN e 4) && (bndB (eI e 5) (eN e 0) && (ptM (eB e 2 []) (eN e 0) (eI e 5)).isSome)), v := fun e => .tup [(false, .vl 141 (fun _ => 0) 6 [] (fun _ => (ptT (eB e 2 []) (eN e 0) (eI e 5)).length)), (false, .ve0)], post := fun e => itE 141 142 (ptT (eB e 2 []) (eN e 0) (eI e 5)) }
theorem psOkP_pc : PC.Runs Tryd.prog 12 Tryd.f12 (bodyOf Tryd.f12) psOkP := ⟨Tryd.func12, by kernel_rfl, (fun g hg => by first | (cases hg; done) | (revert g; show ∀ g ∈ ([0, 4] : List Nat), g < 19; decide)), fun e H hc => by
  have hc : (decide (eN e 0 ≤ 100000) && (decide (eN e 0 ≤ eN e 4) && (bndB (eI e 5) (eN e 0) && (ptM (eB e 2 []) (eN e 0) (eI e 5)).isSome))) = true := hc
  try simp only [Bool.and_eq_true, decide_eq_true_eq, Nat.beq_eq] at hc
  exact by obtain ⟨h1, h2, h3, h4⟩ := hc; exact psOk (textAt H (19 + 0)) (textAt H (19 + 4)) (eN e 0) (eN e 4) (eB e 2 []) (eI e 5) h1 h2 h3 h4⟩
def psFoP : PC := { args := [.v (.vl 60 1 0), .v (.vb 2)], heap := [⟨60, false, 1, .ta 4 (.vi .u8 5)⟩], gs := [0, 4], G := 19, tp := 144, n := 80, n' := 800, cond := fun e => decide (eN e 0 ≤ 100000) && (decide (eN e 0 ≤ eN e 4) && (bndB (eI e 5) (eN e 0) && (ptM (eB e 2 []) (eN e 0) (eI e 5)).isNone)), v := fun e => .tup [(false, .vl0), (false, vErr 0)], post := fun e => [] }
theorem psFoP_pc : PC.Runs Tryd.prog 12 Tryd.f12 (bodyOf Tryd.f12) psFoP := ⟨Tryd.func12, by kernel_rfl, (fun g hg => by first | (cases hg; done) | (revert g; show ∀ g ∈ ([0, 4] : List Nat), g < 19; decide)), fun e H hc => by
  have hc : (decide (eN e 0 ≤ 100000) && (decide (eN e 0 ≤ eN e 4) && (bndB (eI e 5) (eN e 0) && (ptM (eB e 2 []) (eN e 0) (eI e 5)).isNone))) = true := hc
  try simp only [Bool.and_eq_true, decide_eq_true_eq, Nat.beq_eq] at hc
  exact by obtain ⟨h1, h2, h3, h4⟩ := hc; exact psFo (textAt H (19 + 0)) (textAt H (19 + 4)) (eN e 0) (eN e 4) (eB e 2 []) (eI e 5) h1 h2 h3 h4⟩
theorem rsI (t0 t1 : List UInt8) (N M : Nat) (raw : Bool) (B : Ix → Int) (hN : N ≤ 100000) (hM : N ≤ M) (hB : bndB B N = true) : RunsTo Tryd.prog 13 [.code (bodyOf Tryd.f13)] (envOf [vL 60 1 N, vB raw] Tryd.f13.ntmps) (Sx.look (sentEnts 19 144 [(0, t0), (4, t1)] ++ rB 60 M B ++ ([]))) 80 (vN (restN raw N B : Nat)) (Sx.look []) 800 := by
  cases hz : ptM raw N B with
  | some m => exact rsOk t0 t1 N M raw B hN hM hB (by rw [hz]; rfl)
  | none =>
    have q := rsFo t0 t1 N M raw B hN hM hB (by rw [hz]; rfl)
    rw [show restN raw N B = 0 by unfold restN; rw [hz]; rfl]
    exact q
def rsP : PC := { args := [.v (.vl 60 1 0), .v (.vb 2)], heap := [⟨60, false, 1, .ta 4 (.vi .u8 5)⟩], gs := [0, 4], G := 19, tp := 144, n := 80, n' := 800, cond := fun e => decide (eN e 0 ≤ 100000) && (decide (eN e 0 ≤ eN e 4) && bndB (eI e 5) (eN e 0)), v := fun e => vN (restN (eB e 2 []) (eN e 0) (eI e 5) : Nat), post := fun e => [] }
theorem rsP_pc : PC.Runs Tryd.prog 13 Tryd.f13 (bodyOf Tryd.f13) rsP := ⟨Tryd.func13, by kernel_rfl, (fun g hg => by first | (cases hg; done) | (revert g; show ∀ g ∈ ([0, 4] : List Nat), g < 19; decide)), fun e H hc => by
  have hc : (decide (eN e 0 ≤ 100000) && (decide (eN e 0 ≤ eN e 4) && bndB (eI e 5) (eN e 0))) = true := hc
  try simp only [Bool.and_eq_true, decide_eq_true_eq, Nat.beq_eq] at hc
  exact by obtain ⟨h1, h2, h3⟩ := hc; exact rsI (textAt H (19 + 0)) (textAt H (19 + 4)) (eN e 0) (eN e 4) (eB e 2 []) (eI e 5) h1 h2 h3⟩
end Go.Proofs.YtcphocfnhekdaaaDoor

set_option linter.unusedSimpArgs false
set_option linter.unusedVariables false
set_option maxRecDepth 100000
namespace Go.Proofs.YtcphocfnhekdaaaDoor
open Go.Sx

open GramR
def txF (T : List Itm) : Nat → List UInt8
  | 0 => []
  | n + 1 => if (T.getD n zIt).1.kind = 1 then txF T n ++ [UInt8.ofNat (T.getD n zIt).1.code] else if (T.getD n zIt).1.kind = 2 ∧ (T.getD n zIt).1.code = 10 then txF T n ++ [13, 10] else if (T.getD n zIt).1.kind = 2 then txF T n ++ [13] else txF T n
def txL (raw : Bool) (N : Nat) (B : Ix → Int) : List UInt8 := txF (ptT raw N B) (ptT raw N B).length
def sumsT0 : List (FuncId × Summ) := [(12, psOkP.summ 38)]
theorem baseT0 : Base0 Tryd.prog sumsT0 := (baseO.cons Tryd.func12 (by kernel_rfl) (PC.summ_ok psOkP_pc gtopG))
def sumsT1 : List (FuncId × Summ) := [(12, psFoP.summ 38)]
theorem baseT1 : Base0 Tryd.prog sumsT1 := (baseO.cons Tryd.func12 (by kernel_rfl) (PC.summ_ok psFoP_pc gtopG))
theorem txStart_p0 (t0 t1 : List UInt8) (N M : Nat) (raw : Bool) (B : Ix → Int) :
    isMore (evTill Tryd.prog sumsT0 300 (behind Tryd.f15 0) 900 15 [.code (bodyOf Tryd.f15)] (envOf [vL 60 1 N, vB raw] Tryd.f15.ntmps) (sentEnts 19 144 [(0, t0), (4, t1)] ++ rB 60 M B ++ ([])) ⟨[.s true, .f], 80⟩) (moreP (headOf Tryd.f15 0) ([((104 : Nat), Rn.nil (1 : Nat)), ((102 : Nat), Rn.to (141 : Nat)), ((103 : Nat), Rn.to (142 : Nat))]) Tryd.f15.ntmps ([(8, vL 104 1 (([] : List UInt8)).length), (20, vL 102 6 ((ptT raw N B)).length), (21, vN ((ptT raw N B)).length), (22, vN (0 : Nat))]) (itE 102 103 ((ptT raw N B)) ++ bW 104 (([] : List UInt8))) 900) =
    (OkL [(decide (N ≤ (100000 : Nat)) && (decide (N ≤ M) && (bndB B N && (ptM raw N B).isSome)), true)] ∧ headOf Tryd.f15 (0 : Nat) = headOf Tryd.f15 (0 : Nat) ∧ ((0 : Nat) = (0 : Nat) ∧ ((0 : Nat) = (0 : Nat) ∧ (ptT raw N B).length = (ptT raw N B).length) ∧ (↑(ptT raw N B).length : Int) = (↑(ptT raw N B).length : Int) ∧ (↑(0 : Nat) : Int) = (0 : Int)) ∧ ((ptT raw N B).length = (ptT raw N B).length ∧ (∀ (i : Nat), i < (ptT raw N B).length → iK (ptT raw N B) [i] = iK (ptT raw N B) [i]) ∧ (∀ (i : Nat), i < (ptT raw N B).length → iF (ptT raw N B) [i] = iF (ptT raw N B) [i]) ∧ (∀ (i : Nat), i < (ptT raw N B).length → iT (ptT raw N B) [i] = iT (ptT raw N B) [i]) ∧ (∀ (i : Nat), i < (ptT raw N B).length → iC (ptT raw N B) [i] = iC (ptT raw N B) [i]) ∧ (∀ (i : Nat), i < (ptT raw N B).length → iO (ptT raw N B) [i] = iO (ptT raw N B) [i]) ∧ (∀ (i : Nat), i < (ptT raw N B).length → iM (ptT raw N B) [i] = iM (ptT raw N B) [i]) ∧ ∀ (i : Nat), i < (ptT raw N B).length → iW (ptT raw N B) [i] = iW (ptT raw N B) [i]) ∧ ((ptT raw N B).length = (ptT raw N B).length ∧ ∀ (m : Nat), m < (ptT raw N B).length → iL (ptT raw N B) m = iL (ptT raw N B) m ∧ ∀ (i : Nat), i < iL (ptT raw N B) m → iZ (ptT raw N B) [m, i] = iZ (ptT raw N B) [m, i]) ∧ (0 : Nat) = (0 : Nat)) := by kernel_rfl

set_option maxHeartbeats 4000000 in
theorem txStart (t0 t1 : List UInt8) (N M : Nat) (raw : Bool) (B : Ix → Int) (hN : N ≤ 100000) (hM : N ≤ M) (hB : bndB B N = true) (hr : (ptM raw N B).isSome = true)  (v : SV) (L' : HF) (next : RunsTo Tryd.prog 15 (headOf Tryd.f15 0) (envAt Tryd.f15.ntmps ([(8, vL 104 1 (([] : List UInt8)).length), (20, vL 102 6 ((ptT raw N B)).length), (21, vN ((ptT raw N B)).length), (22, vN (0 : Nat))])) (Sx.look (sentEnts 19 144 [(0, t0), (4, t1)] ++ rB 60 M B ++ (itE 102 103 ((ptT raw N B)) ++ bW 104 (([] : List UInt8))))) 80 (v) (L') 900) :
    RunsTo Tryd.prog 15 [.code (bodyOf Tryd.f15)] (envOf [vL 60 1 N, vB raw] Tryd.f15.ntmps) (Sx.look (sentEnts 19 144 [(0, t0), (4, t1)] ++ rB 60 M B ++ ([]))) 80 (v) (L') 900 := by
  refine runs_more baseT0 (More.of (txStart_p0 t0 t1 N M raw B) ⟨?oo, rfl, ?rr⟩) (by kernel_rfl) (by kernel_rfl) rfl (gtL (by decide)) (by decide) next
  case oo =>
    clear next
    refine (okc ?_ okn)
    all_goals first | exact hr | omega | (simp (disch := omega) only [SS]; first | done | omega) | (refine Bool.and_eq_true_iff.2 ⟨decide_eq_true (by omega), Bool.and_eq_true_iff.2 ⟨decide_eq_true (by omega), Bool.and_eq_true_iff.2 ⟨hB, hr⟩⟩⟩) | (simp_all; done)
  case rr =>
    clear next
    try simp (disch := omega) only [SS]
    repeat' apply And.intro
    all_goals first | exact True.intro | with_reducible rfl | omega | (intros; first | exact True.intro | with_reducible rfl | omega | (simp_all; done)) | (simp_all; done) | rfl

theorem txFo_p0 (t0 t1 : List UInt8) (N M : Nat) (raw : Bool) (B : Ix → Int) :
    isEnd (evTill Tryd.prog sumsT1 300 (99) 900 15 [.code (bodyOf Tryd.f15)] (envOf [vL 60 1 N, vB raw] Tryd.f15.ntmps) (sentEnts 19 144 [(0, t0), (4, t1)] ++ rB 60 M B ++ ([])) ⟨[.s true, .t], 80⟩) (endP ([]) (.tup [(false, .vl0), (false, vErr 0)]) ([]) 900) =
    (OkL [(decide (N ≤ (100000 : Nat)) && (decide (N ≤ M) && (bndB B N && (ptM raw N B).isNone)), true)] ∧ (True ∧ (0 : Nat) = (0 : Nat) ∧ True) ∧ True) := by kernel_rfl

set_option maxHeartbeats 4000000 in
theorem txFo (t0 t1 : List UInt8) (N M : Nat) (raw : Bool) (B : Ix → Int) (hN : N ≤ 100000) (hM : N ≤ M) (hB : bndB B N = true) (hr : (ptM raw N B).isNone = true)  :
    RunsTo Tryd.prog 15 [.code (bodyOf Tryd.f15)] (envOf [vL 60 1 N, vB raw] Tryd.f15.ntmps) (Sx.look (sentEnts 19 144 [(0, t0), (4, t1)] ++ rB 60 M B ++ ([]))) 80 (.tup [(false, .vl0), (false, vErr 0)]) (Sx.look ([])) 900 := by
  refine runs_last baseT1 (Sx.Ends.of (txFo_p0 t0 t1 N M raw B) ⟨?oo, ?rr⟩) (by kernel_rfl) rfl (gtL (by decide)) (by decide)
  case oo =>
    refine (okc ?_ okn)
    all_goals first | exact hr | omega | (simp (disch := omega) only [SS]; first | done | omega) | (refine Bool.and_eq_true_iff.2 ⟨decide_eq_true (by omega), Bool.and_eq_true_iff.2 ⟨decide_eq_true (by omega), Bool.and_eq_true_iff.2 ⟨hB, hr⟩⟩⟩) | (simp_all; done)
  case rr =>
    try simp (disch := omega) only [SS]
    repeat' apply And.intro
    all_goals first | exact True.intro | with_reducible rfl | omega | (intros; first | exact True.intro | with_reducible rfl | omega | (simp_all; done)) | (simp_all; done) | rfl

theorem tx1_p0 (t0 t1 : List UInt8) (N M : Nat) (raw : Bool) (B : Ix → Int) (T : List Itm) (o : List UInt8) (i : Nat) :
    isMore (evTill Tryd.prog sumsT0 300 (behind Tryd.f15 0) 900 15 (headOf Tryd.f15 0) (envAt Tryd.f15.ntmps ([(8, vL 104 1 (o).length), (20, vL 102 6 (T).length), (21, vN (T).length), (22, vN (i : Nat))])) (sentEnts 19 144 [(0, t0), (4, t1)] ++ rB 60 M B ++ (itE 102 103 (T) ++ bW 104 (o))) ⟨[.s true, .s true, .s true, .s true, .s true, .t, .s true, .s true], 160⟩) (moreP (headOf Tryd.f15 0) ([((104 : Nat), Rn.to (162 : Nat))]) Tryd.f15.ntmps ([(8, vL 104 1 (o ++ [UInt8.ofNat (T.getD i zIt).1.code]).length), (20, vL 102 6 (T).length), (21, vN (T).length), (22, vN (i + 1 : Nat))]) (itE 102 103 (T) ++ bW 104 (o ++ [UInt8.ofNat (T.getD i zIt).1.code])) 900) =
    (OkL [(decide ((↑i : Int) < (↑T.length : Int)), true), (decide ((0 : Int) ≤ (↑i : Int) ∧ (↑i : Int) < (↑T.length : Int)), true), (((0 : Nat) + (↑i : Int).toNat).blt T.length, true), (((0 : Nat) + (↑i : Int).toNat).blt T.length, true), (iK T [(0 : Nat) + (↑i : Int).toNat] == (1 : Int), true), (((0 : Nat) + o.length).ble o.length, true), (decide (((2 : Nat) * (o.length + (1 : Nat)) + (192 : Nat)) * (1 : Nat) ≤ (281474976710656 : Nat)), true)] ∧ headOf Tryd.f15 (0 : Nat) = headOf Tryd.f15 (0 : Nat) ∧ (((0 : Nat) = (0 : Nat) ∧ (o ++ [UInt8.ofNat (T.getD i zIt).1.2]).length = o.length + (1 : Nat)) ∧ ((0 : Nat) = (0 : Nat) ∧ T.length = T.length) ∧ (↑T.length : Int) = (↑T.length : Int) ∧ (↑(i + (1 : Nat)) : Int) = IntKind.i64.wrap ((↑i : Int) + (1 : Int))) ∧ (T.length = T.length ∧ (∀ (i : Nat), i < T.length → iK T [i] = iK T [i]) ∧ (∀ (i : Nat), i < T.length → iF T [i] = iF T [i]) ∧ (∀ (i : Nat), i < T.length → iT T [i] = iT T [i]) ∧ (∀ (i : Nat), i < T.length → iC T [i] = iC T [i]) ∧ (∀ (i : Nat), i < T.length → iO T [i] = iO T [i]) ∧ (∀ (i : Nat), i < T.length → iM T [i] = iM T [i]) ∧ ∀ (i : Nat), i < T.length → iW T [i] = iW T [i]) ∧ (T.length = T.length ∧ ∀ (m : Nat), m < T.length → iL T m = iL T m ∧ ∀ (i : Nat), i < iL T m → iZ T [m, i] = iZ T [m, i]) ∧ (o ++ [UInt8.ofNat (T.getD i zIt).1.2]).length = o.length + (1 : Nat) ∧ ∀ (i_1 : Nat), i_1 < (o ++ [UInt8.ofNat (T.getD i zIt).1.2]).length → (↑((o ++ [UInt8.ofNat (T.getD i zIt).1.2]).getD i_1 (0 : UInt8)).toNat : Int) = appF o.length (0 : Nat) (fun is => (↑(o.getD (List.headD is (0 : Nat)) (0 : UInt8)).toNat : Int)) (fun js => IntKind.u8.wrap (iC T [(0 : Nat) + (↑i : Int).toNat])) [i_1]) := by kernel_rfl

set_option maxHeartbeats 4000000 in
theorem tx1 (t0 t1 : List UInt8) (N M : Nat) (raw : Bool) (B : Ix → Int) (T : List Itm) (o : List UInt8) (i : Nat) (hi : i < T.length) (hT : T.length ≤ 100000) (ho : o.length ≤ 200000) (h : (T.getD i zIt).1.kind = 1) (h2 : (T.getD i zIt).1.code < 256)  (v : SV) (L' : HF) (next : RunsTo Tryd.prog 15 (headOf Tryd.f15 0) (envAt Tryd.f15.ntmps ([(8, vL 104 1 (o ++ [UInt8.ofNat (T.getD i zIt).1.code]).length), (20, vL 102 6 (T).length), (21, vN (T).length), (22, vN (i + 1 : Nat))])) (Sx.look (sentEnts 19 144 [(0, t0), (4, t1)] ++ rB 60 M B ++ (itE 102 103 (T) ++ bW 104 (o ++ [UInt8.ofNat (T.getD i zIt).1.code])))) 80 (v) (L') 900) :
    RunsTo Tryd.prog 15 (headOf Tryd.f15 0) (envAt Tryd.f15.ntmps ([(8, vL 104 1 (o).length), (20, vL 102 6 (T).length), (21, vN (T).length), (22, vN (i : Nat))])) (Sx.look (sentEnts 19 144 [(0, t0), (4, t1)] ++ rB 60 M B ++ (itE 102 103 (T) ++ bW 104 (o)))) 80 (v) (L') 900 := by
  have hw : IntKind.i64.wrap ((i : Int) + 1) = ((i + 1 : Nat) : Int) := by rw [wr64 (by omega)]; rfl
  have kt : iK T [i] = ((T.getD i zIt).1.kind : Int) := rfl
  have ct : iC T [i] = ((T.getD i zIt).1.code : Int) := rfl
  have hu : IntKind.u8.wrap (iC T [i]) = ((UInt8.ofNat (T.getD i zIt).1.code).toNat : Int) := by rw [ct]; exact u8w h2
  refine runs_more baseT0 (More.of (tx1_p0 t0 t1 N M raw B T o i) ⟨?oo, rfl, ?rr⟩) (by kernel_rfl) (by kernel_rfl) rfl (gtL (by decide)) (by decide) next
  case oo =>
    clear next
    refine (okc ?_ (okc ?_ (okc ?_ (okc ?_ (okc ?_ (okc ?_ (okc ?_ okn)))))))
    all_goals ((try simp (disch := omega) only [SS, hw, kt, ct, Go.Sx.sum, List.length_append, List.length_cons, List.length_nil, Nat.zero_add, h]); first | done | omega | assumption | (simp (disch := omega) only [SS, hw, kt, ct, Go.Sx.sum, List.length_append, List.length_cons, List.length_nil, Nat.zero_add, h] at *; first | done | omega | assumption) | (simp_all; done))
  case rr =>
    clear next
    simp (disch := omega) only [SS, hw, kt, ct, Go.Sx.sum, List.length_append, List.length_cons, List.length_nil, Nat.zero_add]
    repeat' apply And.intro
    all_goals first | exact True.intro | with_reducible rfl | omega | exact app_byte1 o _ _ hu | exact app_byte1 o _ _ (by first | exact hu | rfl | (simp_all; done)) | (intro k hk; exact app_bytes o _ _ (fun j hj => by have : j = 0 ∨ j = 1 := (by simp at hj; omega); rcases this with rfl | rfl <;> rfl) k (by simpa using hk)) | (simp_all; done)

theorem tx2_p0 (t0 t1 : List UInt8) (N M : Nat) (raw : Bool) (B : Ix → Int) (T : List Itm) (o : List UInt8) (i : Nat) :
    isMore (evTill Tryd.prog sumsT0 300 (behind Tryd.f15 0) 900 15 (headOf Tryd.f15 0) (envAt Tryd.f15.ntmps ([(8, vL 104 1 (o).length), (20, vL 102 6 (T).length), (21, vN (T).length), (22, vN (i : Nat))])) (sentEnts 19 144 [(0, t0), (4, t1)] ++ rB 60 M B ++ (itE 102 103 (T) ++ bW 104 (o))) ⟨[.s true, .s true, .s true, .s true, .s false, .s true, .s true, .t, .s true, .s true], 160⟩) (moreP (headOf Tryd.f15 0) ([((104 : Nat), Rn.to (162 : Nat))]) Tryd.f15.ntmps ([(8, vL 104 1 (o ++ [13, 10]).length), (20, vL 102 6 (T).length), (21, vN (T).length), (22, vN (i + 1 : Nat))]) (itE 102 103 (T) ++ bW 104 (o ++ [13, 10])) 900) =
    (OkL [(decide ((↑i : Int) < (↑T.length : Int)), true), (decide ((0 : Int) ≤ (↑i : Int) ∧ (↑i : Int) < (↑T.length : Int)), true), (((0 : Nat) + (↑i : Int).toNat).blt T.length, true), (((0 : Nat) + (↑i : Int).toNat).blt T.length, true), (iK T [(0 : Nat) + (↑i : Int).toNat] == (1 : Int), false), (iK T [(0 : Nat) + (↑i : Int).toNat] == (2 : Int), true), (iC T [(0 : Nat) + (↑i : Int).toNat] == (10 : Int), true), (((0 : Nat) + o.length).ble o.length, true), (decide (((2 : Nat) * (o.length + (2 : Nat)) + (192 : Nat)) * (1 : Nat) ≤ (281474976710656 : Nat)), true)] ∧ headOf Tryd.f15 (0 : Nat) = headOf Tryd.f15 (0 : Nat) ∧ (((0 : Nat) = (0 : Nat) ∧ (o ++ [(13 : UInt8), (10 : UInt8)]).length = o.length + (2 : Nat)) ∧ ((0 : Nat) = (0 : Nat) ∧ T.length = T.length) ∧ (↑T.length : Int) = (↑T.length : Int) ∧ (↑(i + (1 : Nat)) : Int) = IntKind.i64.wrap ((↑i : Int) + (1 : Int))) ∧ (T.length = T.length ∧ (∀ (i : Nat), i < T.length → iK T [i] = iK T [i]) ∧ (∀ (i : Nat), i < T.length → iF T [i] = iF T [i]) ∧ (∀ (i : Nat), i < T.length → iT T [i] = iT T [i]) ∧ (∀ (i : Nat), i < T.length → iC T [i] = iC T [i]) ∧ (∀ (i : Nat), i < T.length → iO T [i] = iO T [i]) ∧ (∀ (i : Nat), i < T.length → iM T [i] = iM T [i]) ∧ ∀ (i : Nat), i < T.length → iW T [i] = iW T [i]) ∧ (T.length = T.length ∧ ∀ (m : Nat), m < T.length → iL T m = iL T m ∧ ∀ (i : Nat), i < iL T m → iZ T [m, i] = iZ T [m, i]) ∧ (o ++ [(13 : UInt8), (10 : UInt8)]).length = o.length + (2 : Nat) ∧ ∀ (i : Nat), i < (o ++ [(13 : UInt8), (10 : UInt8)]).length → (↑((o ++ [(13 : UInt8), (10 : UInt8)]).getD i (0 : UInt8)).toNat : Int) = appF o.length (0 : Nat) (fun is => (↑(o.getD (List.headD is (0 : Nat)) (0 : UInt8)).toNat : Int)) (fun js => upd (upd (fun is => (0 : Int)) [(0 : Nat)] (13 : Int)) [(1 : Nat)] (10 : Int) (subIx (0 : Nat) js)) [i]) := by kernel_rfl

set_option maxHeartbeats 4000000 in
theorem tx2 (t0 t1 : List UInt8) (N M : Nat) (raw : Bool) (B : Ix → Int) (T : List Itm) (o : List UInt8) (i : Nat) (hi : i < T.length) (hT : T.length ≤ 100000) (ho : o.length ≤ 200000) (h : (T.getD i zIt).1.kind = 2) (h2 : (T.getD i zIt).1.code = 10)  (v : SV) (L' : HF) (next : RunsTo Tryd.prog 15 (headOf Tryd.f15 0) (envAt Tryd.f15.ntmps ([(8, vL 104 1 (o ++ [13, 10]).length), (20, vL 102 6 (T).length), (21, vN (T).length), (22, vN (i + 1 : Nat))])) (Sx.look (sentEnts 19 144 [(0, t0), (4, t1)] ++ rB 60 M B ++ (itE 102 103 (T) ++ bW 104 (o ++ [13, 10])))) 80 (v) (L') 900) :
    RunsTo Tryd.prog 15 (headOf Tryd.f15 0) (envAt Tryd.f15.ntmps ([(8, vL 104 1 (o).length), (20, vL 102 6 (T).length), (21, vN (T).length), (22, vN (i : Nat))])) (Sx.look (sentEnts 19 144 [(0, t0), (4, t1)] ++ rB 60 M B ++ (itE 102 103 (T) ++ bW 104 (o)))) 80 (v) (L') 900 := by
  have hw : IntKind.i64.wrap ((i : Int) + 1) = ((i + 1 : Nat) : Int) := by rw [wr64 (by omega)]; rfl
  have kt : iK T [i] = ((T.getD i zIt).1.kind : Int) := rfl
  have ct : iC T [i] = ((T.getD i zIt).1.code : Int) := rfl
  have hu : True := trivial
  refine runs_more baseT0 (More.of (tx2_p0 t0 t1 N M raw B T o i) ⟨?oo, rfl, ?rr⟩) (by kernel_rfl) (by kernel_rfl) rfl (gtL (by decide)) (by decide) next
  case oo =>
    clear next
    refine (okc ?_ (okc ?_ (okc ?_ (okc ?_ (okc ?_ (okc ?_ (okc ?_ (okc ?_ (okc ?_ okn)))))))))
    all_goals ((try simp (disch := omega) only [SS, hw, kt, ct, Go.Sx.sum, List.length_append, List.length_cons, List.length_nil, Nat.zero_add, h, h2]); first | done | omega | assumption | (simp (disch := omega) only [SS, hw, kt, ct, Go.Sx.sum, List.length_append, List.length_cons, List.length_nil, Nat.zero_add, h, h2] at *; first | done | omega | assumption) | (simp_all; done))
  case rr =>
    clear next
    simp (disch := omega) only [SS, hw, kt, ct, Go.Sx.sum, List.length_append, List.length_cons, List.length_nil, Nat.zero_add]
    repeat' apply And.intro
    all_goals first | exact True.intro | with_reducible rfl | omega | exact app_byte1 o _ _ hu | exact app_byte1 o _ _ (by first | exact hu | rfl | (simp_all; done)) | (intro k hk; exact app_bytes o _ _ (fun j hj => by have : j = 0 ∨ j = 1 := (by simp at hj; omega); rcases this with rfl | rfl <;> rfl) k (by simpa using hk)) | (simp_all; done)

theorem tx3_p0 (t0 t1 : List UInt8) (N M : Nat) (raw : Bool) (B : Ix → Int) (T : List Itm) (o : List UInt8) (i : Nat) :
    isMore (evTill Tryd.prog sumsT0 300 (behind Tryd.f15 0) 900 15 (headOf Tryd.f15 0) (envAt Tryd.f15.ntmps ([(8, vL 104 1 (o).length), (20, vL 102 6 (T).length), (21, vN (T).length), (22, vN (i : Nat))])) (sentEnts 19 144 [(0, t0), (4, t1)] ++ rB 60 M B ++ (itE 102 103 (T) ++ bW 104 (o))) ⟨[.s true, .s true, .s true, .s true, .s false, .s true, .s false, .s true, .t, .s true, .s true], 160⟩) (moreP (headOf Tryd.f15 0) ([((104 : Nat), Rn.to (162 : Nat))]) Tryd.f15.ntmps ([(8, vL 104 1 (o ++ [13]).length), (20, vL 102 6 (T).length), (21, vN (T).length), (22, vN (i + 1 : Nat))]) (itE 102 103 (T) ++ bW 104 (o ++ [13])) 900) =
    (OkL [(decide ((↑i : Int) < (↑T.length : Int)), true), (decide ((0 : Int) ≤ (↑i : Int) ∧ (↑i : Int) < (↑T.length : Int)), true), (((0 : Nat) + (↑i : Int).toNat).blt T.length, true), (((0 : Nat) + (↑i : Int).toNat).blt T.length, true), (iK T [(0 : Nat) + (↑i : Int).toNat] == (1 : Int), false), (iK T [(0 : Nat) + (↑i : Int).toNat] == (2 : Int), true), (iC T [(0 : Nat) + (↑i : Int).toNat] == (10 : Int), false), (iK T [(0 : Nat) + (↑i : Int).toNat] == (2 : Int), true), (((0 : Nat) + o.length).ble o.length, true), (decide (((2 : Nat) * (o.length + (1 : Nat)) + (192 : Nat)) * (1 : Nat) ≤ (281474976710656 : Nat)), true)] ∧ headOf Tryd.f15 (0 : Nat) = headOf Tryd.f15 (0 : Nat) ∧ (((0 : Nat) = (0 : Nat) ∧ (o ++ [(13 : UInt8)]).length = o.length + (1 : Nat)) ∧ ((0 : Nat) = (0 : Nat) ∧ T.length = T.length) ∧ (↑T.length : Int) = (↑T.length : Int) ∧ (↑(i + (1 : Nat)) : Int) = IntKind.i64.wrap ((↑i : Int) + (1 : Int))) ∧ (T.length = T.length ∧ (∀ (i : Nat), i < T.length → iK T [i] = iK T [i]) ∧ (∀ (i : Nat), i < T.length → iF T [i] = iF T [i]) ∧ (∀ (i : Nat), i < T.length → iT T [i] = iT T [i]) ∧ (∀ (i : Nat), i < T.length → iC T [i] = iC T [i]) ∧ (∀ (i : Nat), i < T.length → iO T [i] = iO T [i]) ∧ (∀ (i : Nat), i < T.length → iM T [i] = iM T [i]) ∧ ∀ (i : Nat), i < T.length → iW T [i] = iW T [i]) ∧ (T.length = T.length ∧ ∀ (m : Nat), m < T.length → iL T m = iL T m ∧ ∀ (i : Nat), i < iL T m → iZ T [m, i] = iZ T [m, i]) ∧ (o ++ [(13 : UInt8)]).length = o.length + (1 : Nat) ∧ ∀ (i : Nat), i < (o ++ [(13 : UInt8)]).length → (↑((o ++ [(13 : UInt8)]).getD i (0 : UInt8)).toNat : Int) = appF o.length (0 : Nat) (fun is => (↑(o.getD (List.headD is (0 : Nat)) (0 : UInt8)).toNat : Int)) (fun js => (13 : Int)) [i]) := by kernel_rfl

set_option maxHeartbeats 4000000 in
theorem tx3 (t0 t1 : List UInt8) (N M : Nat) (raw : Bool) (B : Ix → Int) (T : List Itm) (o : List UInt8) (i : Nat) (hi : i < T.length) (hT : T.length ≤ 100000) (ho : o.length ≤ 200000) (h : (T.getD i zIt).1.kind = 2) (h2 : (T.getD i zIt).1.code ≠ 10)  (v : SV) (L' : HF) (next : RunsTo Tryd.prog 15 (headOf Tryd.f15 0) (envAt Tryd.f15.ntmps ([(8, vL 104 1 (o ++ [13]).length), (20, vL 102 6 (T).length), (21, vN (T).length), (22, vN (i + 1 : Nat))])) (Sx.look (sentEnts 19 144 [(0, t0), (4, t1)] ++ rB 60 M B ++ (itE 102 103 (T) ++ bW 104 (o ++ [13])))) 80 (v) (L') 900) :
    RunsTo Tryd.prog 15 (headOf Tryd.f15 0) (envAt Tryd.f15.ntmps ([(8, vL 104 1 (o).length), (20, vL 102 6 (T).length), (21, vN (T).length), (22, vN (i : Nat))])) (Sx.look (sentEnts 19 144 [(0, t0), (4, t1)] ++ rB 60 M B ++ (itE 102 103 (T) ++ bW 104 (o)))) 80 (v) (L') 900 := by
  have hw : IntKind.i64.wrap ((i : Int) + 1) = ((i + 1 : Nat) : Int) := by rw [wr64 (by omega)]; rfl
  have kt : iK T [i] = ((T.getD i zIt).1.kind : Int) := rfl
  have ct : iC T [i] = ((T.getD i zIt).1.code : Int) := rfl
  have hu : True := trivial
  refine runs_more baseT0 (More.of (tx3_p0 t0 t1 N M raw B T o i) ⟨?oo, rfl, ?rr⟩) (by kernel_rfl) (by kernel_rfl) rfl (gtL (by decide)) (by decide) next
  case oo =>
    clear next
    refine (okc ?_ (okc ?_ (okc ?_ (okc ?_ (okc ?_ (okc ?_ (okc ?_ (okc ?_ (okc ?_ (okc ?_ okn))))))))))
    all_goals ((try simp (disch := omega) only [SS, hw, kt, ct, Go.Sx.sum, List.length_append, List.length_cons, List.length_nil, Nat.zero_add, h]); first | done | omega | assumption | (simp (disch := omega) only [SS, hw, kt, ct, Go.Sx.sum, List.length_append, List.length_cons, List.length_nil, Nat.zero_add, h] at *; first | done | omega | assumption) | (simp_all; done))
  case rr =>
    clear next
    simp (disch := omega) only [SS, hw, kt, ct, Go.Sx.sum, List.length_append, List.length_cons, List.length_nil, Nat.zero_add]
    repeat' apply And.intro
    all_goals first | exact True.intro | with_reducible rfl | omega | exact app_byte1 o _ _ hu | exact app_byte1 o _ _ (by first | exact hu | rfl | (simp_all; done)) | (intro k hk; exact app_bytes o _ _ (fun j hj => by have : j = 0 ∨ j = 1 := (by simp at hj; omega); rcases this with rfl | rfl <;> rfl) k (by simpa using hk)) | (simp_all; done)

theorem tx0_p0 (t0 t1 : List UInt8) (N M : Nat) (raw : Bool) (B : Ix → Int) (T : List Itm) (o : List UInt8) (i : Nat) :
    isMore (evTill Tryd.prog sumsT0 300 (behind Tryd.f15 0) 900 15 (headOf Tryd.f15 0) (envAt Tryd.f15.ntmps ([(8, vL 104 1 (o).length), (20, vL 102 6 (T).length), (21, vN (T).length), (22, vN (i : Nat))])) (sentEnts 19 144 [(0, t0), (4, t1)] ++ rB 60 M B ++ (itE 102 103 (T) ++ bW 104 (o))) ⟨[.s true, .s true, .s true, .s true, .s false, .s false, .s false], 160⟩) (moreP (headOf Tryd.f15 0) ([]) Tryd.f15.ntmps ([(8, vL 104 1 (o).length), (20, vL 102 6 (T).length), (21, vN (T).length), (22, vN (i + 1 : Nat))]) (itE 102 103 (T) ++ bW 104 (o)) 900) =
    (OkL [(decide ((↑i : Int) < (↑T.length : Int)), true), (decide ((0 : Int) ≤ (↑i : Int) ∧ (↑i : Int) < (↑T.length : Int)), true), (((0 : Nat) + (↑i : Int).toNat).blt T.length, true), (((0 : Nat) + (↑i : Int).toNat).blt T.length, true), (iK T [(0 : Nat) + (↑i : Int).toNat] == (1 : Int), false), (iK T [(0 : Nat) + (↑i : Int).toNat] == (2 : Int), false), (iK T [(0 : Nat) + (↑i : Int).toNat] == (2 : Int), false)] ∧ headOf Tryd.f15 (0 : Nat) = headOf Tryd.f15 (0 : Nat) ∧ (((0 : Nat) = (0 : Nat) ∧ o.length = o.length) ∧ ((0 : Nat) = (0 : Nat) ∧ T.length = T.length) ∧ (↑T.length : Int) = (↑T.length : Int) ∧ (↑(i + (1 : Nat)) : Int) = IntKind.i64.wrap ((↑i : Int) + (1 : Int))) ∧ (T.length = T.length ∧ (∀ (i : Nat), i < T.length → iK T [i] = iK T [i]) ∧ (∀ (i : Nat), i < T.length → iF T [i] = iF T [i]) ∧ (∀ (i : Nat), i < T.length → iT T [i] = iT T [i]) ∧ (∀ (i : Nat), i < T.length → iC T [i] = iC T [i]) ∧ (∀ (i : Nat), i < T.length → iO T [i] = iO T [i]) ∧ (∀ (i : Nat), i < T.length → iM T [i] = iM T [i]) ∧ ∀ (i : Nat), i < T.length → iW T [i] = iW T [i]) ∧ (T.length = T.length ∧ ∀ (m : Nat), m < T.length → iL T m = iL T m ∧ ∀ (i : Nat), i < iL T m → iZ T [m, i] = iZ T [m, i]) ∧ o.length = o.length ∧ ∀ (i : Nat), i < o.length → (↑(o.getD i (0 : UInt8)).toNat : Int) = (↑(o.getD i (0 : UInt8)).toNat : Int)) := by kernel_rfl

set_option maxHeartbeats 4000000 in
theorem tx0 (t0 t1 : List UInt8) (N M : Nat) (raw : Bool) (B : Ix → Int) (T : List Itm) (o : List UInt8) (i : Nat) (hi : i < T.length) (hT : T.length ≤ 100000) (ho : o.length ≤ 200000) (h : (T.getD i zIt).1.kind ≠ 1) (h2 : (T.getD i zIt).1.kind ≠ 2)  (v : SV) (L' : HF) (next : RunsTo Tryd.prog 15 (headOf Tryd.f15 0) (envAt Tryd.f15.ntmps ([(8, vL 104 1 (o).length), (20, vL 102 6 (T).length), (21, vN (T).length), (22, vN (i + 1 : Nat))])) (Sx.look (sentEnts 19 144 [(0, t0), (4, t1)] ++ rB 60 M B ++ (itE 102 103 (T) ++ bW 104 (o)))) 80 (v) (L') 900) :
    RunsTo Tryd.prog 15 (headOf Tryd.f15 0) (envAt Tryd.f15.ntmps ([(8, vL 104 1 (o).length), (20, vL 102 6 (T).length), (21, vN (T).length), (22, vN (i : Nat))])) (Sx.look (sentEnts 19 144 [(0, t0), (4, t1)] ++ rB 60 M B ++ (itE 102 103 (T) ++ bW 104 (o)))) 80 (v) (L') 900 := by
  have hw : IntKind.i64.wrap ((i : Int) + 1) = ((i + 1 : Nat) : Int) := by rw [wr64 (by omega)]; rfl
  have kt : iK T [i] = ((T.getD i zIt).1.kind : Int) := rfl
  have ct : iC T [i] = ((T.getD i zIt).1.code : Int) := rfl
  have hu : True := trivial
  refine runs_more baseT0 (More.of (tx0_p0 t0 t1 N M raw B T o i) ⟨?oo, rfl, ?rr⟩) (by kernel_rfl) (by kernel_rfl) rfl (gtL (by decide)) (by decide) next
  case oo =>
    clear next
    refine (okc ?_ (okc ?_ (okc ?_ (okc ?_ (okc ?_ (okc ?_ (okc ?_ okn)))))))
    all_goals ((try simp (disch := omega) only [SS, hw, kt, ct, Go.Sx.sum, List.length_append, List.length_cons, List.length_nil, Nat.zero_add]); first | done | omega | assumption | (simp (disch := omega) only [SS, hw, kt, ct, Go.Sx.sum, List.length_append, List.length_cons, List.length_nil, Nat.zero_add] at *; first | done | omega | assumption) | (simp_all; done))
  case rr =>
    clear next
    simp (disch := omega) only [SS, hw, kt, ct, Go.Sx.sum, List.length_append, List.length_cons, List.length_nil, Nat.zero_add]
    repeat' apply And.intro
    all_goals first | exact True.intro | with_reducible rfl | omega | exact app_byte1 o _ _ hu | exact app_byte1 o _ _ (by first | exact hu | rfl | (simp_all; done)) | (intro k hk; exact app_bytes o _ _ (fun j hj => by have : j = 0 ∨ j = 1 := (by simp at hj; omega); rcases this with rfl | rfl <;> rfl) k (by simpa using hk)) | (simp_all; done)

theorem txEnd_p0 (t0 t1 : List UInt8) (N M : Nat) (raw : Bool) (B : Ix → Int) (T : List Itm) (o : List UInt8) (i : Nat) :
    isEnd (evTill Tryd.prog sumsT0 300 (99) 900 15 (headOf Tryd.f15 0) (envAt Tryd.f15.ntmps ([(8, vL 104 1 (o).length), (20, vL 102 6 (T).length), (21, vN (T).length), (22, vN (i : Nat))])) (sentEnts 19 144 [(0, t0), (4, t1)] ++ rB 60 M B ++ (itE 102 103 (T) ++ bW 104 (o))) ⟨[.s false], 160⟩) (endP ([((141 : Nat), Rn.to (104 : Nat))]) (.tup [(false, .vl 141 (fun _ => 0) 1 [] (fun _ => (o).length)), (false, .ve0)]) (bW 141 o) 900) =
    (OkL [(decide ((↑i : Int) < (↑T.length : Int)), false)] ∧ (((0 : Nat) = (0 : Nat) ∧ o.length = o.length) ∧ True ∧ True) ∧ o.length = o.length ∧ ∀ (i : Nat), i < o.length → (↑(o.getD i (0 : UInt8)).toNat : Int) = (↑(o.getD i (0 : UInt8)).toNat : Int)) := by kernel_rfl

set_option maxHeartbeats 4000000 in
theorem txEnd (t0 t1 : List UInt8) (N M : Nat) (raw : Bool) (B : Ix → Int) (T : List Itm) (o : List UInt8) (i : Nat) (hi : i = T.length)  :
    RunsTo Tryd.prog 15 (headOf Tryd.f15 0) (envAt Tryd.f15.ntmps ([(8, vL 104 1 (o).length), (20, vL 102 6 (T).length), (21, vN (T).length), (22, vN (i : Nat))])) (Sx.look (sentEnts 19 144 [(0, t0), (4, t1)] ++ rB 60 M B ++ (itE 102 103 (T) ++ bW 104 (o)))) 80 (.tup [(false, .vl 141 (fun _ => 0) 1 [] (fun _ => (o).length)), (false, .ve0)]) (Sx.look (bW 141 o)) 900 := by
  refine runs_last baseT0 (Sx.Ends.of (txEnd_p0 t0 t1 N M raw B T o i) ⟨?oo, ?rr⟩) (by kernel_rfl) rfl (gtL (by decide)) (by decide)
  case oo =>
    refine (okc ?_ okn)
    all_goals ((try simp (disch := omega) only [SS]); first | done | omega | assumption | (simp (disch := omega) only [SS] at *; first | done | omega | assumption) | (simp_all; done))
  case rr =>
    try simp (disch := omega) only [SS]
    repeat' apply And.intro
    all_goals first | exact True.intro | with_reducible rfl | omega | (intros; first | exact True.intro | with_reducible rfl | omega | (simp_all; done)) | (simp_all; done) | rfl

theorem item_code {raw : Bool} {s : List UInt8} {x : It} {n : Nat} (h : itemI raw s = .ok x n) : x.code < 256 := by
  match s, h with
  | [], h => cases h
  | c :: r, h =>
    have hc := c.toNat_lt
    by_cases h255 : c = 255
    · subst h255
      match r, h with
      | [], h => simp [itemI, cmdI] at h
      | d :: r', h =>
        have hd := d.toNat_lt
        by_cases d250 : d = 250
        · subst d250; have := (item_x h).2; omega
        · have ec : itemI raw (255 :: d :: r') = cmdI (d :: r') := by simp [itemI]
          rw [ec] at h
          simp only [cmdI, if_neg d250] at h
          split at h
          · simp only [Res.ok.injEq] at h; rw [← h.1]; decide
          · split at h
            · simp only [Res.ok.injEq] at h; rw [← h.1]; exact hd
            · split at h
              · split at h
                · cases h
                · simp only [Res.ok.injEq] at h; rw [← h.1]; exact hd
              · cases h
    · rw [itemI.eq_def] at h
      simp only [if_neg h255] at h
      split at h
      · simp only [Res.ok.injEq] at h; rw [← h.1]; exact hc
      · split at h
        · cases h
        · rename_i d _
          have hd := d.toNat_lt
          split at h
          · simp only [Res.ok.injEq] at h; rw [← h.1]; exact hd
          · simp only [Res.ok.injEq] at h; rw [← h.1]; exact hc
theorem goI_code (raw : Bool) : ∀ (k a : Nat) (s : List UInt8), ∀ x ∈ (goI raw k a s).1, x.1.code < 256
  | 0, a, s => by simp [goI]
  | k + 1, a, s => by
    simp only [goI]
    by_cases h : s = []
    · rw [if_pos h]; simp
    · rw [if_neg h]
      cases hi : itemI raw s with
      | ok x n =>
        intro y hy
        rcases List.mem_cons.1 hy with rfl | hy
        · exact item_code hi
        · exact goI_code raw k (a + n) (s.drop n) y hy
      | short => simp
      | form => simp
theorem getD_all {α : Type} {p : α → Prop} {l : List α} {d : α} (h : ∀ x ∈ l, p x) (hd : p d) (i : Nat) : p (l.getD i d) := by
  rw [List.getD_eq_getElem?_getD]
  by_cases hi : i < l.length
  · rw [List.getElem?_eq_getElem hi]; exact h _ (List.getElem_mem hi)
  · rw [List.getElem?_eq_none (by omega)]; exact hd
theorem pt_code (raw : Bool) (N : Nat) (B : Ix → Int) (i : Nat) : ((ptT raw N B).getD i zIt).1.code < 256 := getD_all (p := fun x : Itm => x.1.code < 256) (goI_code raw _ _ _) (by decide) i
theorem pt_len (raw : Bool) (N : Nat) (B : Ix → Int) : (ptT raw N B).length ≤ N := by
  have := allI_len raw (bytesOf B [] 0 N)
  rwa [bytesOf_len] at this
theorem txF_len (T : List Itm) : ∀ n, (txF T n).length ≤ 2 * n
  | 0 => by simp [txF]
  | n + 1 => by
    have := txF_len T n
    simp only [txF]
    (repeat' split) <;> (try simp only [List.length_append, List.length_cons, List.length_nil]) <;> omega
theorem txI (t0 t1 : List UInt8) (N M : Nat) (raw : Bool) (B : Ix → Int) (hN : N ≤ 100000) (hM : N ≤ M) (hB : bndB B N = true) (hr : (ptM raw N B).isSome = true) : RunsTo Tryd.prog 15 [.code (bodyOf Tryd.f15)] (envOf [vL 60 1 N, vB raw] Tryd.f15.ntmps) (Sx.look (sentEnts 19 144 [(0, t0), (4, t1)] ++ rB 60 M B ++ ([]))) 80 (.tup [(false, .vl 141 (fun _ => 0) 1 [] (fun _ => (txL raw N B).length)), (false, .ve0)]) (Sx.look (bW 141 (txL raw N B))) 900 := by
  unfold txL
  refine txStart t0 t1 N M raw B hN hM hB hr _ _ ?_
  have hc := pt_code raw N B
  have hl := pt_len raw N B
  generalize ptT raw N B = T at *
  suffices q : ∀ (k i : Nat), i + k = T.length → RunsTo Tryd.prog 15 (headOf Tryd.f15 0) (envAt Tryd.f15.ntmps ([(8, vL 104 1 (txF T i).length), (20, vL 102 6 (T).length), (21, vN (T).length), (22, vN (i : Nat))])) (Sx.look (sentEnts 19 144 [(0, t0), (4, t1)] ++ rB 60 M B ++ (itE 102 103 (T) ++ bW 104 (txF T i)))) 80 (.tup [(false, .vl 141 (fun _ => 0) 1 [] (fun _ => (txF T T.length).length)), (false, .ve0)]) (Sx.look (bW 141 (txF T T.length))) 900 from q T.length 0 (by omega)
  intro k
  induction k with
  | zero => intro i hi; rw [show i = T.length by omega]; exact txEnd t0 t1 N M raw B T _ _ rfl
  | succ k ih =>
    intro i hi
    have q := ih (i + 1) (by omega)
    have ol := txF_len T i
    have hT : T.length ≤ 100000 := by omega
    by_cases h1 : (T.getD i zIt).1.kind = 1
    · simp only [txF, if_pos h1] at q; exact tx1 t0 t1 N M raw B T _ i (by omega) hT (by omega) h1 (hc i) _ _ q
    · by_cases h2 : (T.getD i zIt).1.kind = 2
      · by_cases h3 : (T.getD i zIt).1.code = 10
        · simp only [txF, if_neg h1] at q; rw [if_pos ⟨h2, h3⟩] at q; exact tx2 t0 t1 N M raw B T _ i (by omega) hT (by omega) h2 h3 _ _ q
        · simp only [txF, if_neg h1] at q; rw [if_neg (fun e => h3 e.2), if_pos h2] at q; exact tx3 t0 t1 N M raw B T _ i (by omega) hT (by omega) h2 h3 _ _ q
      · simp only [txF, if_neg h1] at q; rw [if_neg (fun e => h2 e.1), if_neg h2] at q; exact tx0 t0 t1 N M raw B T _ i (by omega) hT (by omega) h1 h2 _ _ q
def txOkP : PC := { args := [.v (.vl 60 1 0), .v (.vb 2)], heap := [⟨60, false, 1, .ta 4 (.vi .u8 5)⟩], gs := [0, 4], G := 19, tp := 144, n := 80, n' := 900, cond := fun e => decide (eN e 0 ≤ 100000) && (decide (eN e 0 ≤ eN e 4) && (bndB (eI e 5) (eN e 0) && (ptM (eB e 2 []) (eN e 0) (eI e 5)).isSome)), v := fun e => .tup [(false, .vl 141 (fun _ => 0) 1 [] (fun _ => (txL (eB e 2 []) (eN e 0) (eI e 5)).length)), (false, .ve0)], post := fun e => bW 141 (txL (eB e 2 []) (eN e 0) (eI e 5)) }
theorem txOkP_pc : PC.Runs Tryd.prog 15 Tryd.f15 (bodyOf Tryd.f15) txOkP := ⟨Tryd.func15, by kernel_rfl, (fun g hg => by first | (cases hg; done) | (revert g; show ∀ g ∈ ([0, 4] : List Nat), g < 19; decide)), fun e H hc => by
  have hc : (decide (eN e 0 ≤ 100000) && (decide (eN e 0 ≤ eN e 4) && (bndB (eI e 5) (eN e 0) && (ptM (eB e 2 []) (eN e 0) (eI e 5)).isSome))) = true := hc
  try simp only [Bool.and_eq_true, decide_eq_true_eq, Nat.beq_eq] at hc
  exact by obtain ⟨h1, h2, h3, h4⟩ := hc; exact txI (textAt H (19 + 0)) (textAt H (19 + 4)) (eN e 0) (eN e 4) (eB e 2 []) (eI e 5) h1 h2 h3 h4⟩
def txFoP : PC := { args := [.v (.vl 60 1 0), .v (.vb 2)], heap := [⟨60, false, 1, .ta 4 (.vi .u8 5)⟩], gs := [0, 4], G := 19, tp := 144, n := 80, n' := 900, cond := fun e => decide (eN e 0 ≤ 100000) && (decide (eN e 0 ≤ eN e 4) && (bndB (eI e 5) (eN e 0) && (ptM (eB e 2 []) (eN e 0) (eI e 5)).isNone)), v := fun e => .tup [(false, .vl0), (false, vErr 0)], post := fun e => [] }
theorem txFoP_pc : PC.Runs Tryd.prog 15 Tryd.f15 (bodyOf Tryd.f15) txFoP := ⟨Tryd.func15, by kernel_rfl, (fun g hg => by first | (cases hg; done) | (revert g; show ∀ g ∈ ([0, 4] : List Nat), g < 19; decide)), fun e H hc => by
  have hc : (decide (eN e 0 ≤ 100000) && (decide (eN e 0 ≤ eN e 4) && (bndB (eI e 5) (eN e 0) && (ptM (eB e 2 []) (eN e 0) (eI e 5)).isNone))) = true := hc
  try simp only [Bool.and_eq_true, decide_eq_true_eq, Nat.beq_eq] at hc
  exact by obtain ⟨h1, h2, h3, h4⟩ := hc; exact txFo (textAt H (19 + 0)) (textAt H (19 + 4)) (eN e 0) (eN e 4) (eB e 2 []) (eI e 5) h1 h2 h3 h4⟩
def sumsV : List (FuncId × Summ) := [(12, psOkP.summ 38), (15, txOkP.summ 38), (13, rsP.summ 38)]
theorem baseV : Base0 Tryd.prog sumsV := (((baseO.cons Tryd.func13 (by kernel_rfl) (PC.summ_ok rsP_pc gtopG)).cons Tryd.func15 (by kernel_rfl) (PC.summ_ok txOkP_pc gtopG)).cons Tryd.func12 (by kernel_rfl) (PC.summ_ok psOkP_pc gtopG))
theorem avI_p0 (t0 t1 : List UInt8) :
    isEnd (evTill Tryd.prog sumsV 600 (99) 900 11 [.code (bodyOf Tryd.f11)] (envOf [] Tryd.f11.ntmps) (sentEnts 19 144 [(0, t0), (4, t1)] ++ ([])) ⟨[.t, .t, .t, .t, .t, .t, .t, .t, .t, .t, .t, .t], 80⟩) (endP ([]) (YES) ([]) 3000) =
    (OkL [] ∧ true = true ∧ True) := by kernel_rfl

set_option maxHeartbeats 4000000 in
theorem avI (t0 t1 : List UInt8)  :
    RunsTo Tryd.prog 11 [.code (bodyOf Tryd.f11)] (envOf [] Tryd.f11.ntmps) (Sx.look (sentEnts 19 144 [(0, t0), (4, t1)] ++ ([]))) 80 (YES) (Sx.look ([])) 3000 := by
  refine runs_last baseV (Sx.Ends.of (avI_p0 t0 t1) ⟨?oo, ?rr⟩) (by kernel_rfl) rfl (gtL (by decide)) (by decide)
  case oo =>
    refine okn
    all_goals first | omega | (with_reducible rfl) | kernel_rfl | (simp only [SS]; done) | decide
  case rr =>
    refine ⟨?_, ?_⟩ <;> first | exact True.intro | kernel_rfl | rfl

def avP : PC := { args := [], heap := [], gs := [0, 4], G := 19, tp := 144, n := 80, n' := 3000, cond := fun e => true, v := fun e => YES, post := fun e => [] }
theorem avP_pc : PC.Runs Tryd.prog 11 Tryd.f11 (bodyOf Tryd.f11) avP := ⟨Tryd.func11, by kernel_rfl, (fun g hg => by first | (cases hg; done) | (revert g; show ∀ g ∈ ([0, 4] : List Nat), g < 19; decide)), fun e H hc => by
  have hc : (true) = true := hc
  try simp only [Bool.and_eq_true, decide_eq_true_eq, Nat.beq_eq] at hc
  exact avI (textAt H (19 + 0)) (textAt H (19 + 4))⟩
end Go.Proofs.YtcphocfnhekdaaaDoor

