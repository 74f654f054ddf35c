/- Cleaning: marks, and the tokens that are told. -/
import Derived.Test.YtcphocfnhekdaaaOpC
import Derived.Test.YtcphocfnhekdaaaSyKit
import Derived.Test.YtcphocfnhekdaaaSyPc
import Derived.Test.YtcphocfnhekdaaaSyPl
set_option linter.unusedSimpArgs false
set_option linter.unusedVariables false
set_option maxRecDepth 100000
namespace Go.Proofs.Ytcphocfnhekdaaa
open Go.Sx

theorem goodP : PGood Try.prog := good_of (by kernel_rfl) (by kernel_rfl)
theorem gtopP : gtop Try.prog ≤ 100 := of_decide_eq_true (by kernel_rfl)
theorem gtopG : gtop Try.prog = 0 := of_decide_eq_true (by kernel_rfl)
theorem gtL {n : Nat} (h : 0 ≤ n) : gtop Try.prog ≤ n := Nat.le_trans (Nat.le_of_eq gtopG) h
theorem baseO : Base0 Try.prog [] := Base0.nil goodP
abbrev YES : SV := .v (.vb fun _ => true)
abbrev vN (a : Int) : SV := .v (.vi .i64 fun _ => a)
abbrev vU (a : Int) : SV := .v (.vi .u8 fun _ => a)
abbrev vB (a : Bool) : SV := .v (.vb fun _ => a)
abbrev vS (a : List UInt8) : SV := .v (.vs fun _ => a)
abbrev vP (l : Nat) : SV := .v (.vp l (fun _ => 0) [])
abbrev vL (l w n : Nat) : SV := .v (.vl l (fun _ => 0) w [] (fun _ => n))
open CleanR
/-- The first place from i on, of k, at which a row has a number; -1: none. -/
def idxF (U : Ix → Int) (v : Int) : Nat → Nat → Int
  | 0, _ => -1
  | k + 1, i => if U [i] = v then (i : Int) else idxF U v k (i + 1)
def hasM (U : Ix → Int) (n : Nat) (v : Int) : Bool := decide (idxF U v n 0 ≥ 0)
def tk (k c o : Nat) (b : List UInt8) : Tok := ⟨k, c, o, b⟩
def tK (T : List Tok) : Ix → Int := fun is => ((T.getD (is.headD 0) z0).kind : Int)
def tC (T : List Tok) : Ix → Int := fun is => ((T.getD (is.headD 0) z0).code : Int)
def tO (T : List Tok) : Ix → Int := fun is => ((T.getD (is.headD 0) z0).opt : Int)
def tU : Ix → Bool := fun _ => false
def tM (T : List Tok) : Ix → Nat := fun is => T.length - 1 - is.headD 0
def tL (T : List Tok) : Ix → Nat := fun is => (T.getD (is.headD 0) z0).body.length
def fL (T : List Tok) : Nat → Nat := fun m => (T.getD (T.length - 1 - m) z0).body.length
def fB (T : List Tok) : Ix → Int := fun is => (((T.getD (T.length - 1 - is.headD 0) z0).body.getD (is.tail.headD 0) 0).toNat : Int)
def toE (l f : Nat) (T : List Tok) : List Ent := [⟨l, true, none, 5, .ta T.length (.tc (.vi .i64 (tK T)) (.tc (.vi .i64 (tC T)) (.tc (.vi .i64 (tO T)) (.tc (.vl f (tM T) 1 [] (tL T)) (.tc (.vb tU) .t0)))))⟩, ⟨f, true, some (T.length, fL T), 1, .vi .u8 (fB T)⟩]
def bW (l : Nat) (b : List UInt8) : List Ent := [⟨l, true, none, 1, .ta b.length (.vi .u8 fun is => ((b.getD (is.headD 0) 0).toNat : Int))⟩]
def clE (p l st cd op : Nat) (b : List UInt8) (bh df : Bool) : List Ent := ⟨p, true, none, 8, .tc (.tc (.vi .i64 fun _ => st) (.tc (.tc (.vi .i64 fun _ => 0) (.tc (.vi .i64 fun _ => cd) (.tc (.vi .i64 fun _ => op) (.tc (.vl l (fun _ => 0) 1 [] (fun _ => b.length)) (.tc (.vb fun _ => false) .t0))))) .t0)) (.tc (.tc (.vb fun _ => bh) .t0) (.tc (.vb fun _ => df) .t0))⟩ :: bW l b
def rB (l n : Nat) (B : Ix → Int) : List Ent := [⟨l, false, none, 1, .ta n (.vi .u8 B)⟩]
def rI (l n : Nat) (B : Ix → Int) : List Ent := [⟨l, false, none, 1, .ta n (.vi .i64 B)⟩]
theorem idx_hit {U : Ix → Int} {v : Int} {k i : Nat} (h : U [i] = v) : idxF U v (k + 1) i = (i : Int) := by simp only [idxF, if_pos h]
theorem idx_miss {U : Ix → Int} {v : Int} {k i : Nat} (h : U [i] ≠ v) : idxF U v (k + 1) i = idxF U v k (i + 1) := by simp only [idxF, if_neg h]
theorem ixStart_p0 (Q : Nat) (U : Ix → Int) (x : Int) :
    isMore (evTill Try.prog [] 300 (behind Try.f30 0) 900 30 [.code (bodyOf Try.f30)] (envOf [vL 61 1 Q, vN x] Try.f30.ntmps) (rI 61 Q U ++ ([])) ⟨[], 80⟩) (moreP (headOf Try.f30 0) ([]) Try.f30.ntmps ([(0, vL 61 1 Q), (1, vN x), (7, vN Q), (8, vN (0 : Nat))]) ([]) 140) =
    (OkL [] ∧ headOf Try.f30 (0 : Nat) = headOf Try.f30 (0 : Nat) ∧ (((0 : Nat) = (0 : Nat) ∧ Q = Q) ∧ x = x ∧ (↑Q : Int) = (↑Q : Int) ∧ (↑(0 : Nat) : Int) = (0 : Int)) ∧ True) := by kernel_rfl

set_option maxHeartbeats 4000000 in
theorem ixStart (Q : Nat) (U : Ix → Int) (x : Int)  (v : SV) (L' : HF) (next : RunsTo Try.prog 30 (headOf Try.f30 0) (envAt Try.f30.ntmps ([(0, vL 61 1 Q), (1, vN x), (7, vN Q), (8, vN (0 : Nat))])) (Sx.look (rI 61 Q U ++ ([]))) 80 (v) (L') 140) :
    RunsTo Try.prog 30 [.code (bodyOf Try.f30)] (envOf [vL 61 1 Q, vN x] Try.f30.ntmps) (Sx.look (rI 61 Q U ++ ([]))) 80 (v) (L') 140 := by
  refine runs_more baseO (More.of (ixStart_p0 Q U x) ⟨?oo, rfl, ?rr⟩) (by kernel_rfl) (by kernel_rfl) rfl (gtL (by decide)) (by decide) next
  case oo =>
    clear next
    refine okn
    all_goals ((try simp (disch := omega) only [SS]); first | done | omega | assumption | (simp (disch := omega) only [SS] at *; first | done | omega | assumption) | (simp_all; done))
  case rr =>
    clear next
    try simp (disch := omega) only [SS]
    repeat' apply And.intro
    all_goals first | exact True.intro | with_reducible rfl | omega | (intros; first | exact True.intro | with_reducible rfl | omega | (simp_all; done)) | (simp_all; done) | rfl

theorem ixMiss_p0 (Q : Nat) (U : Ix → Int) (x : Int) (i : Nat) :
    isMore (evTill Try.prog [] 300 (behind Try.f30 0) 900 30 (headOf Try.f30 0) (envAt Try.f30.ntmps ([(0, vL 61 1 Q), (1, vN x), (7, vN Q), (8, vN (i : Nat))])) (rI 61 Q U ++ ([])) ⟨[.s true, .s true, .s true, .s true, .s false], 110⟩) (moreP (headOf Try.f30 0) ([]) Try.f30.ntmps ([(0, vL 61 1 Q), (1, vN x), (7, vN Q), (8, vN (i + 1 : Nat))]) ([]) 140) =
    (OkL [(decide ((↑i : Int) < (↑Q : Int)), true), (decide ((0 : Int) ≤ (↑i : Int) ∧ (↑i : Int) < (↑Q : Int)), true), (((0 : Nat) + (↑i : Int).toNat).blt Q, true), (((0 : Nat) + (↑i : Int).toNat).blt Q, true), (x == U [(0 : Nat) + (↑i : Int).toNat], false)] ∧ headOf Try.f30 (0 : Nat) = headOf Try.f30 (0 : Nat) ∧ (((0 : Nat) = (0 : Nat) ∧ Q = Q) ∧ x = x ∧ (↑Q : Int) = (↑Q : Int) ∧ (↑(i + (1 : Nat)) : Int) = IntKind.i64.wrap ((↑i : Int) + (1 : Int))) ∧ True) := by kernel_rfl

set_option maxHeartbeats 4000000 in
theorem ixMiss (Q : Nat) (U : Ix → Int) (x : Int) (i : Nat) (hi : i < Q) (hQ : Q ≤ 1000) (h : U [i] ≠ x) (v : SV) (L' : HF) (next : RunsTo Try.prog 30 (headOf Try.f30 0) (envAt Try.f30.ntmps ([(0, vL 61 1 Q), (1, vN x), (7, vN Q), (8, vN (i + 1 : Nat))])) (Sx.look (rI 61 Q U ++ ([]))) 80 (v) (L') 140) :
    RunsTo Try.prog 30 (headOf Try.f30 0) (envAt Try.f30.ntmps ([(0, vL 61 1 Q), (1, vN x), (7, vN Q), (8, vN (i : Nat))])) (Sx.look (rI 61 Q U ++ ([]))) 80 (v) (L') 140 := by
  have hw : IntKind.i64.wrap ((i : Int) + 1) = ((i + 1 : Nat) : Int) := by rw [wr64 (by omega)]; rfl
  refine runs_more baseO (More.of (ixMiss_p0 Q U x i) ⟨?oo, rfl, ?rr⟩) (by kernel_rfl) (by kernel_rfl) rfl (gtL (by decide)) (by decide) next
  case oo =>
    clear next
    refine (okc ?_ (okc ?_ (okc ?_ (okc ?_ (okc ?_ okn)))))
    all_goals ((try simp (disch := omega) only [SS, hw]); first | done | omega | assumption | (simp (disch := omega) only [SS, hw] at *; first | done | omega | assumption) | (simp_all; done))
  case rr =>
    clear next
    try simp (disch := omega) only [SS, hw]
    repeat' apply And.intro
    all_goals first | exact True.intro | with_reducible rfl | omega | (intros; first | exact True.intro | with_reducible rfl | omega | (simp_all; done)) | (simp_all; done) | rfl

theorem ixHit_p0 (Q : Nat) (U : Ix → Int) (x : Int) (i : Nat) :
    isEnd (evTill Try.prog [] 300 (99) 900 30 (headOf Try.f30 0) (envAt Try.f30.ntmps ([(0, vL 61 1 Q), (1, vN x), (7, vN Q), (8, vN (i : Nat))])) (rI 61 Q U ++ ([])) ⟨[.s true, .s true, .s true, .s true, .s true], 110⟩) (endP ([]) (vN i) ([]) 140) =
    (OkL [(decide ((↑i : Int) < (↑Q : Int)), true), (decide ((0 : Int) ≤ (↑i : Int) ∧ (↑i : Int) < (↑Q : Int)), true), (((0 : Nat) + (↑i : Int).toNat).blt Q, true), (((0 : Nat) + (↑i : Int).toNat).blt Q, true), (x == U [(0 : Nat) + (↑i : Int).toNat], true)] ∧ (↑i : Int) = (↑i : Int) ∧ True) := by kernel_rfl

set_option maxHeartbeats 4000000 in
theorem ixHit (Q : Nat) (U : Ix → Int) (x : Int) (i : Nat) (hi : i < Q) (h : U [i] = x) :
    RunsTo Try.prog 30 (headOf Try.f30 0) (envAt Try.f30.ntmps ([(0, vL 61 1 Q), (1, vN x), (7, vN Q), (8, vN (i : Nat))])) (Sx.look (rI 61 Q U ++ ([]))) 80 (vN i) (Sx.look ([])) 140 := by
  refine runs_last baseO (Sx.Ends.of (ixHit_p0 Q U x i) ⟨?oo, ?rr⟩) (by kernel_rfl) rfl (gtL (by decide)) (by decide)
  case oo =>
    refine (okc ?_ (okc ?_ (okc ?_ (okc ?_ (okc ?_ okn)))))
    all_goals ((try simp (disch := omega) only [SS]); first | done | omega | assumption | (simp (disch := omega) only [SS] at *; first | done | omega | assumption) | (simp_all; done))
  case rr =>
    try simp (disch := omega) only [SS]
    repeat' apply And.intro
    all_goals first | exact True.intro | with_reducible rfl | omega | (intros; first | exact True.intro | with_reducible rfl | omega | (simp_all; done)) | (simp_all; done) | rfl

theorem ixEnd_p0 (Q : Nat) (U : Ix → Int) (x : Int) (i : Nat) :
    isEnd (evTill Try.prog [] 300 (99) 900 30 (headOf Try.f30 0) (envAt Try.f30.ntmps ([(0, vL 61 1 Q), (1, vN x), (7, vN Q), (8, vN (i : Nat))])) (rI 61 Q U ++ ([])) ⟨[.s false], 110⟩) (endP ([]) (vN (-1)) ([]) 140) =
    (OkL [(decide ((↑i : Int) < (↑Q : Int)), false)] ∧ (-1 : Int) = (-1 : Int) ∧ True) := by kernel_rfl

set_option maxHeartbeats 4000000 in
theorem ixEnd (Q : Nat) (U : Ix → Int) (x : Int) (i : Nat) (hi : i = Q) :
    RunsTo Try.prog 30 (headOf Try.f30 0) (envAt Try.f30.ntmps ([(0, vL 61 1 Q), (1, vN x), (7, vN Q), (8, vN (i : Nat))])) (Sx.look (rI 61 Q U ++ ([]))) 80 (vN (-1)) (Sx.look ([])) 140 := by
  refine runs_last baseO (Sx.Ends.of (ixEnd_p0 Q U x i) ⟨?oo, ?rr⟩) (by kernel_rfl) rfl (gtL (by decide)) (by decide)
  case oo =>
    refine (okc ?_ okn)
    all_goals ((try simp (disch := omega) only [SS]); first | done | omega | assumption | (simp (disch := omega) only [SS] at *; first | done | omega | assumption) | (simp_all; done))
  case rr =>
    try simp (disch := omega) only [SS]
    repeat' apply And.intro
    all_goals first | exact True.intro | with_reducible rfl | omega | (intros; first | exact True.intro | with_reducible rfl | omega | (simp_all; done)) | (simp_all; done) | rfl

theorem ixI (Q : Nat) (U : Ix → Int) (x : Int) (hQ : Q ≤ 1000) : RunsTo Try.prog 30 [.code (bodyOf Try.f30)] (envOf [vL 61 1 Q, vN x] Try.f30.ntmps) (Sx.look (rI 61 Q U ++ ([]))) 80 (vN (idxF U x Q 0)) (Sx.look []) 140 := by
  refine ixStart Q U x _ _ ?_
  suffices q : ∀ (k i : Nat), i + k = Q → RunsTo Try.prog 30 (headOf Try.f30 0) (envAt Try.f30.ntmps ([(0, vL 61 1 Q), (1, vN x), (7, vN Q), (8, vN (i : Nat))])) (Sx.look (rI 61 Q U ++ ([]))) 80 (vN (idxF U x k i)) (Sx.look []) 140 from q Q 0 (by omega)
  intro k
  induction k with
  | zero => intro i hi; exact ixEnd Q U x i (by omega)
  | succ k ih =>
    intro i hi
    by_cases h : U [i] = x
    · rw [idx_hit h]; exact ixHit Q U x i (by omega) h
    · rw [idx_miss h]; exact ixMiss Q U x i (by omega) hQ h _ _ (ih (i + 1) (by omega))
def ixP : PC := { args := [.v (.vl 61 1 0), .v (.vi .i64 2)], heap := [⟨61, false, 1, .ta 0 (.vi .i64 1)⟩], gs := [], G := 0, tp := 999, n := 80, n' := 140, cond := fun e => decide (eN e 0 ≤ 1000), v := fun e => vN (idxF (eI e 1) (eI e 2 []) (eN e 0) 0), post := fun e => [] }
theorem ixP_pc : PC.Runs Try.prog 30 Try.f30 (bodyOf Try.f30) ixP := ⟨Try.func30, by kernel_rfl, (fun g hg => by first | (cases hg; done) | (revert g; show ∀ g ∈ ([] : List Nat), g < 0; decide)), fun e H hc => by
  have hc : (decide (eN e 0 ≤ 1000)) = true := hc
  try simp only [Bool.and_eq_true, decide_eq_true_eq, Nat.beq_eq] at hc
  exact ixI (eN e 0) (eI e 1) (eI e 2 []) hc⟩
def sumsI : List (FuncId × Summ) := [(30, ixP.summ 0)]
theorem baseI : Base0 Try.prog sumsI := (baseO.cons Try.func30 (by kernel_rfl) (PC.summ_ok ixP_pc gtopG))
theorem cnI_p0 (Q : Nat) (U : Ix → Int) (x : Int) :
    isEnd (evTill Try.prog sumsI 300 (99) 900 24 [.code (bodyOf Try.f24)] (envOf [vL 61 1 Q, vN x] Try.f24.ntmps) (rI 61 Q U ++ ([])) ⟨[.s true, .s true], 80⟩) (endP ([]) (vB (hasM U Q x)) ([]) 260) =
    (OkL [(Q.beq Q, true), (decide (Q ≤ (1000 : Nat)), true)] ∧ hasM U Q x = decide (idxF U x Q (0 : Nat) ≥ (0 : Int)) ∧ True) := by kernel_rfl

set_option maxHeartbeats 4000000 in
theorem cnI (Q : Nat) (U : Ix → Int) (x : Int) (hQ : Q ≤ 1000) :
    RunsTo Try.prog 24 [.code (bodyOf Try.f24)] (envOf [vL 61 1 Q, vN x] Try.f24.ntmps) (Sx.look (rI 61 Q U ++ ([]))) 80 (vB (hasM U Q x)) (Sx.look ([])) 260 := by
  refine runs_last baseI (Sx.Ends.of (cnI_p0 Q U x) ⟨?oo, ?rr⟩) (by kernel_rfl) rfl (gtL (by decide)) (by decide)
  case oo =>
    refine (okc ?_ (okc ?_ okn))
    all_goals ((try simp (disch := omega) only [SS]); first | done | omega | assumption | (simp (disch := omega) only [SS] at *; first | done | omega | assumption) | (simp_all; done))
  case rr =>
    try simp (disch := omega) only [SS]
    repeat' apply And.intro
    all_goals first | exact True.intro | with_reducible rfl | omega | (intros; first | exact True.intro | with_reducible rfl | omega | (simp_all; done)) | (simp_all; done) | rfl

def cnP : PC := { args := [.v (.vl 61 1 0), .v (.vi .i64 2)], heap := [⟨61, false, 1, .ta 0 (.vi .i64 1)⟩], gs := [], G := 0, tp := 999, n := 80, n' := 260, cond := fun e => decide (eN e 0 ≤ 1000), v := fun e => vB (hasM (eI e 1) (eN e 0) (eI e 2 [])), post := fun e => [] }
theorem cnP_pc : PC.Runs Try.prog 24 Try.f24 (bodyOf Try.f24) cnP := ⟨Try.func24, by kernel_rfl, (fun g hg => by first | (cases hg; done) | (revert g; show ∀ g ∈ ([] : List Nat), g < 0; decide)), fun e H hc => by
  have hc : (decide (eN e 0 ≤ 1000)) = true := hc
  try simp only [Bool.and_eq_true, decide_eq_true_eq, Nat.beq_eq] at hc
  exact cnI (eN e 0) (eI e 1) (eI e 2 []) hc⟩
end Go.Proofs.Ytcphocfnhekdaaa
