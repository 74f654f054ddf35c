/- Status: rows of entries, and a report's body. -/
import Derived.Test.YtealbjkhjpmilaaDoorVeC
import Derived.Test.YtealbjkhjpmilaaDoorXjC
import Derived.Test.YtealbjkhjpmilaaDoorXgC
set_option linter.unusedSimpArgs false
set_option linter.unusedVariables false
set_option maxRecDepth 100000
namespace Go.Proofs.YtealbjkhjpmilaaDoor
open Go.Sx

open DecR
def eE (l N : Nat) (V O : Ix → Int) : List Ent := [⟨l, false, none, 2, .ta N (.tc (.vi .i64 V) (.tc (.vi .i64 O) .t0))⟩]
def eW (l N : Nat) (V O : Ix → Int) : List Ent := [⟨l, true, none, 2, .ta N (.tc (.vi .i64 V) (.tc (.vi .i64 O) .t0))⟩]
def sameF (N M : Nat) (V V2 O O2 : Ix → Int) : Bool := decide (N = M) && (allEq V V2 N && allEq O O2 N)
def okV (v : Int) : Bool := decide (251 ≤ v) && decide (v ≤ 254)
def okO (o : Int) : Bool := decide (0 ≤ o) && decide (o ≤ 255)
/-- What is wrong with the first of k entries from i on that isn't right: 9 its verb, 1 its option; 0: all are right. -/
def fb (V O : Ix → Int) : Nat → Nat → Int
  | 0, _ => 0
  | k + 1, i => if okV (V [i]) = false then 9 else if okO (O [i]) = false then 1 else fb V O k (i + 1)
def bodyL (V O : Ix → Int) : Nat → List UInt8
  | 0 => [0]
  | i + 1 => bodyL V O i ++ [UInt8.ofNat (V [i]).toNat, UInt8.ofNat (O [i]).toNat]
theorem bodyL_len (V O : Ix → Int) : ∀ i, (bodyL V O i).length = 2 * i + 1
  | 0 => rfl
  | i + 1 => by simp only [bodyL, List.length_append, bodyL_len V O i, List.length_cons, List.length_nil]; omega
theorem okV_iff {v : Int} : okV v = true ↔ 251 ≤ v ∧ v ≤ 254 := by simp [okV]
theorem okO_iff {v : Int} : okO v = true ↔ 0 ≤ v ∧ v ≤ 255 := by simp [okO]
theorem app_one (V : Ix → Int) (i : Nat) (g : Ix → Int) (hg : g [0] = V [i]) : ∀ k, k < i + 1 → V [k] = appF i 0 (fun is => V is) g [k] := fun k hk => by
  simp only [appF, Nat.zero_add]
  split
  · rfl
  · have : k = i := by omega
    subst this
    rw [Nat.sub_self]; exact hg.symm
theorem app_two (a : List UInt8) {v o : Int} (hv : 0 ≤ v ∧ v < 256) (ho : 0 ≤ o ∧ o < 256) (g : Ix → Int) (g0 : g [0] = IntKind.u8.wrap v) (g1 : g [1] = IntKind.u8.wrap o) :
    ∀ k, k < a.length + 2 → (((a ++ [UInt8.ofNat v.toNat, UInt8.ofNat o.toNat]).getD k 0).toNat : Int) = appF a.length 0 (fun is => ((a.getD (is.headD 0) 0).toNat : Int)) g [k] := fun k hk =>
  app_bytes a [UInt8.ofNat v.toNat, UInt8.ofNat o.toNat] g (fun j hj => by
    have hj2 : j = 0 ∨ j = 1 := by simp at hj; omega
    rcases hj2 with rfl | rfl
    · rw [g0, u8id hv]; exact (u8of hv).symm
    · rw [g1, u8id ho]; exact (u8of ho).symm) k (by simp; omega)
theorem ofStart_p0 (N : Nat) (V O : Ix → Int) :
    isMore (evTill Tryd.prog [] 300 (behind Tryd.f54 0) 900 54 [.code (bodyOf Tryd.f54)] (envOf [vL 60 2 N] Tryd.f54.ntmps) (eE 60 N V O ++ ([])) ⟨[], 80⟩) (moreP (headOf Tryd.f54 0) ([((101 : Nat), Rn.to (80 : Nat))]) Tryd.f54.ntmps ([(3, vL 101 2 (0)), (7, vL 60 2 N), (8, vN N), (9, vN (0 : Nat))]) (eW 101 (0) V O) 140) =
    (OkL [] ∧ headOf Tryd.f54 (0 : Nat) = headOf Tryd.f54 (0 : Nat) ∧ (((0 : Nat) = (0 : Nat) ∧ (0 : Nat) = (0 : Nat)) ∧ ((0 : Nat) = (0 : Nat) ∧ N = N) ∧ (↑N : Int) = (↑N : Int) ∧ (↑(0 : Nat) : Int) = (0 : Int)) ∧ (0 : Nat) = (0 : Nat) ∧ (∀ (i : Nat), i < (0 : Nat) → V [i] = (0 : Int)) ∧ ∀ (i : Nat), i < (0 : Nat) → O [i] = (0 : Int)) := by kernel_rfl

set_option maxHeartbeats 4000000 in
theorem ofStart (N : Nat) (V O : Ix → Int)  (v : SV) (L' : HF) (next : RunsTo Tryd.prog 54 (headOf Tryd.f54 0) (envAt Tryd.f54.ntmps ([(3, vL 101 2 (0)), (7, vL 60 2 N), (8, vN N), (9, vN (0 : Nat))])) (Sx.look (eE 60 N V O ++ (eW 101 (0) V O))) 80 (v) (L') 140) :
    RunsTo Tryd.prog 54 [.code (bodyOf Tryd.f54)] (envOf [vL 60 2 N] Tryd.f54.ntmps) (Sx.look (eE 60 N V O ++ ([]))) 80 (v) (L') 140 := by
  refine runs_more baseO (More.of (ofStart_p0 N V O) ⟨?oo, rfl, ?rr⟩) (by kernel_rfl) (by kernel_rfl) rfl (gtL (by decide)) (by decide) next
  case oo =>
    clear next
    refine okn
    all_goals ((try simp (disch := omega) only [SS]); first | done | omega | assumption | (simp (disch := omega) only [SS] at *; first | done | omega | assumption) | (simp_all; done))
  case rr =>
    clear next
    try simp (disch := omega) only [SS]
    repeat' apply And.intro
    all_goals first | exact True.intro | with_reducible rfl | omega | (intros; first | exact True.intro | with_reducible rfl | omega | (simp_all; done)) | (simp_all; done) | rfl

theorem ofRound_p0 (N : Nat) (V O : Ix → Int) (i : Nat) :
    isMore (evTill Tryd.prog [] 300 (behind Tryd.f54 0) 900 54 (headOf Tryd.f54 0) (envAt Tryd.f54.ntmps ([(3, vL 101 2 (i)), (7, vL 60 2 N), (8, vN N), (9, vN (i : Nat))])) (eE 60 N V O ++ (eW 101 (i) V O)) ⟨[.s true, .s true, .s true, .s true, .t, .s true, .s true], 110⟩) (moreP (headOf Tryd.f54 0) ([((101 : Nat), Rn.to (112 : Nat))]) Tryd.f54.ntmps ([(3, vL 101 2 (i + 1)), (7, vL 60 2 N), (8, vN N), (9, vN (i + 1 : Nat))]) (eW 101 (i + 1) V O) 140) =
    (OkL [(decide ((↑i : Int) < (↑N : Int)), true), (decide ((0 : Int) ≤ (↑i : Int) ∧ (↑i : Int) < (↑N : Int)), true), (((0 : Nat) + (↑i : Int).toNat).blt N, true), (((0 : Nat) + (↑i : Int).toNat).blt N, true), (((0 : Nat) + i).ble i, true), (decide (((2 : Nat) * (i + (1 : Nat)) + (192 : Nat)) * (16 : Nat) ≤ (281474976710656 : Nat)), true)] ∧ headOf Tryd.f54 (0 : Nat) = headOf Tryd.f54 (0 : Nat) ∧ (((0 : Nat) = (0 : Nat) ∧ i + (1 : Nat) = i + (1 : Nat)) ∧ ((0 : Nat) = (0 : Nat) ∧ N = N) ∧ (↑N : Int) = (↑N : Int) ∧ (↑(i + (1 : Nat)) : Int) = IntKind.i64.wrap ((↑i : Int) + (1 : Int))) ∧ i + (1 : Nat) = i + (1 : Nat) ∧ (∀ (i_1 : Nat), i_1 < i + (1 : Nat) → V [i_1] = appF i (0 : Nat) V (fun js => V (((0 : Nat) + (↑i : Int).toNat) :: List.tail (subIx (sum []) js))) [i_1]) ∧ ∀ (i_1 : Nat), i_1 < i + (1 : Nat) → O [i_1] = appF i (0 : Nat) O (fun js => O (((0 : Nat) + (↑i : Int).toNat) :: List.tail (subIx (sum []) js))) [i_1]) := by kernel_rfl

set_option maxHeartbeats 4000000 in
theorem ofRound (N : Nat) (V O : Ix → Int) (i : Nat) (hi : i < N) (hN : N ≤ 1000) (v : SV) (L' : HF) (next : RunsTo Tryd.prog 54 (headOf Tryd.f54 0) (envAt Tryd.f54.ntmps ([(3, vL 101 2 (i + 1)), (7, vL 60 2 N), (8, vN N), (9, vN (i + 1 : Nat))])) (Sx.look (eE 60 N V O ++ (eW 101 (i + 1) V O))) 80 (v) (L') 140) :
    RunsTo Tryd.prog 54 (headOf Tryd.f54 0) (envAt Tryd.f54.ntmps ([(3, vL 101 2 (i)), (7, vL 60 2 N), (8, vN N), (9, vN (i : Nat))])) (Sx.look (eE 60 N V O ++ (eW 101 (i) V O))) 80 (v) (L') 140 := by
  have hw : IntKind.i64.wrap ((i : Int) + 1) = ((i + 1 : Nat) : Int) := by rw [wr64 (by omega)]; rfl
  refine runs_more baseO (More.of (ofRound_p0 N V O i) ⟨?oo, rfl, ?rr⟩) (by kernel_rfl) (by kernel_rfl) rfl (gtL (by decide)) (by decide) next
  case oo =>
    clear next
    refine (okc ?_ (okc ?_ (okc ?_ (okc ?_ (okc ?_ (okc ?_ okn))))))
    all_goals ((try simp (disch := omega) only [SS, hw]); first | done | omega | assumption | (simp (disch := omega) only [SS, hw] at *; first | done | omega | assumption) | (simp_all; done))
  case rr =>
    clear next
    simp (disch := omega) only [SS, hw, Go.Sx.sum]
    repeat' apply And.intro
    all_goals first | exact True.intro | with_reducible rfl | omega | exact app_one _ _ _ rfl | (intro k hk; exact app_one _ _ _ rfl k hk) | (intros; rfl) | (simp_all; done)

theorem ofEnd_p0 (N : Nat) (V O : Ix → Int) (i : Nat) :
    isEnd (evTill Tryd.prog [] 300 (99) 900 54 (headOf Tryd.f54 0) (envAt Tryd.f54.ntmps ([(3, vL 101 2 (i)), (7, vL 60 2 N), (8, vN N), (9, vN (i : Nat))])) (eE 60 N V O ++ (eW 101 (i) V O)) ⟨[.s false], 110⟩) (endP ([]) (vL 101 2 N) (eW 101 N V O) 140) =
    (OkL [(decide ((↑i : Int) < (↑N : Int)), false)] ∧ ((0 : Nat) = (0 : Nat) ∧ N = i) ∧ N = i ∧ (∀ (i : Nat), i < N → V [i] = V [i]) ∧ ∀ (i : Nat), i < N → O [i] = O [i]) := by kernel_rfl

set_option maxHeartbeats 4000000 in
theorem ofEnd (N : Nat) (V O : Ix → Int) (i : Nat) (hi : i = N) :
    RunsTo Tryd.prog 54 (headOf Tryd.f54 0) (envAt Tryd.f54.ntmps ([(3, vL 101 2 (i)), (7, vL 60 2 N), (8, vN N), (9, vN (i : Nat))])) (Sx.look (eE 60 N V O ++ (eW 101 (i) V O))) 80 (vL 101 2 N) (Sx.look (eW 101 N V O)) 140 := by
  refine runs_last baseO (Sx.Ends.of (ofEnd_p0 N V O i) ⟨?oo, ?rr⟩) (by kernel_rfl) rfl (gtL (by decide)) (by decide)
  case oo =>
    refine (okc ?_ okn)
    all_goals ((try simp (disch := omega) only [SS]); first | done | omega | assumption | (simp (disch := omega) only [SS] at *; first | done | omega | assumption) | (simp_all; done))
  case rr =>
    try simp (disch := omega) only [SS]
    repeat' apply And.intro
    all_goals first | exact True.intro | with_reducible rfl | omega | (intros; first | exact True.intro | with_reducible rfl | omega | (simp_all; done)) | (simp_all; done) | rfl

theorem of2I (N : Nat) (V O : Ix → Int) (hN : N ≤ 1000) : RunsTo Tryd.prog 54 [.code (bodyOf Tryd.f54)] (envOf [vL 60 2 N] Tryd.f54.ntmps) (Sx.look (eE 60 N V O ++ ([]))) 80 (vL 101 2 N) (Sx.look (eW 101 N V O)) 140 := by
  refine ofStart N V O _ _ ?_
  suffices h : ∀ (k i : Nat), i + k = N → RunsTo Tryd.prog 54 (headOf Tryd.f54 0) (envAt Tryd.f54.ntmps ([(3, vL 101 2 (i)), (7, vL 60 2 N), (8, vN N), (9, vN (i : Nat))])) (Sx.look (eE 60 N V O ++ (eW 101 (i) V O))) 80 (vL 101 2 N) (Sx.look (eW 101 N V O)) 140 from h N 0 (by omega)
  intro k
  induction k with
  | zero => intro i hi; exact ofEnd N V O i (by omega)
  | succ k ih => intro i hi; exact ofRound N V O i (by omega) hN _ _ (ih (i + 1) (by omega))
def of2P : PC := { args := [.v (.vl 60 2 0)], heap := [⟨60, false, 2, .ta 0 (.tc (.vi .i64 1) (.tc (.vi .i64 2) .t0))⟩], gs := [], G := 25, tp := 223, n := 80, n' := 140, cond := fun e => decide (eN e 0 ≤ 1000), v := fun e => vL 101 2 (eN e 0), post := fun e => eW 101 (eN e 0) (eI e 1) (eI e 2) }
theorem of2P_pc : PC.Runs Tryd.prog 54 Tryd.f54 (bodyOf Tryd.f54) of2P := ⟨Tryd.func54, by kernel_rfl, (fun g hg => by first | cases hg | (revert g; decide)), fun e H hc => by
  have hc : (decide (eN e 0 ≤ 1000)) = true := hc
  try simp only [Bool.and_eq_true, decide_eq_true_eq, Nat.beq_eq] at hc
  exact of2I (eN e 0) (eI e 1) (eI e 2) hc⟩
theorem saLen_p0 (N M : Nat) (V O V2 O2 : Ix → Int) :
    isEnd (evTill Tryd.prog [] 300 (99) 900 60 [.code (bodyOf Tryd.f60)] (envOf [vL 60 2 N, vL 61 2 M] Tryd.f60.ntmps) ((eE 60 N V O ++ eE 61 M V2 O2) ++ ([])) ⟨[.s true], 80⟩) (endP ([]) (vB false) ([]) 140) =
    (OkL [((↑N : Int) != (↑M : Int), true)] ∧ false = false ∧ True) := by kernel_rfl

set_option maxHeartbeats 4000000 in
theorem saLen (N M : Nat) (V O V2 O2 : Ix → Int) (h : N ≠ M) :
    RunsTo Tryd.prog 60 [.code (bodyOf Tryd.f60)] (envOf [vL 60 2 N, vL 61 2 M] Tryd.f60.ntmps) (Sx.look ((eE 60 N V O ++ eE 61 M V2 O2) ++ ([]))) 80 (vB false) (Sx.look ([])) 140 := by
  refine runs_last baseO (Sx.Ends.of (saLen_p0 N M V O V2 O2) ⟨?oo, ?rr⟩) (by kernel_rfl) rfl (gtL (by decide)) (by decide)
  case oo =>
    refine (okc ?_ okn)
    all_goals ((try simp (disch := omega) only [SS]); first | done | omega | assumption | (simp (disch := omega) only [SS] at *; first | done | omega | assumption) | (simp_all; done))
  case rr =>
    try simp (disch := omega) only [SS]
    repeat' apply And.intro
    all_goals first | exact True.intro | with_reducible rfl | omega | (intros; first | exact True.intro | with_reducible rfl | omega | (simp_all; done)) | (simp_all; done) | rfl

theorem saStart_p0 (N M : Nat) (V O V2 O2 : Ix → Int) :
    isMore (evTill Tryd.prog [] 300 (behind Tryd.f60 0) 900 60 [.code (bodyOf Tryd.f60)] (envOf [vL 60 2 N, vL 61 2 M] Tryd.f60.ntmps) ((eE 60 N V O ++ eE 61 M V2 O2) ++ ([])) ⟨[.s false], 80⟩) (moreP (headOf Tryd.f60 0) ([]) Tryd.f60.ntmps ([(0, vL 60 2 N), (1, vL 61 2 M), (12, vN N), (13, vN (0 : Nat))]) ([]) 140) =
    (OkL [((↑N : Int) != (↑M : Int), false)] ∧ headOf Tryd.f60 (0 : Nat) = headOf Tryd.f60 (0 : Nat) ∧ (((0 : Nat) = (0 : Nat) ∧ N = N) ∧ ((0 : Nat) = (0 : Nat) ∧ M = M) ∧ (↑N : Int) = (↑N : Int) ∧ (↑(0 : Nat) : Int) = (0 : Int)) ∧ True) := by kernel_rfl

set_option maxHeartbeats 4000000 in
theorem saStart (N M : Nat) (V O V2 O2 : Ix → Int) (h : N = M) (v : SV) (L' : HF) (next : RunsTo Tryd.prog 60 (headOf Tryd.f60 0) (envAt Tryd.f60.ntmps ([(0, vL 60 2 N), (1, vL 61 2 M), (12, vN N), (13, vN (0 : Nat))])) (Sx.look ((eE 60 N V O ++ eE 61 M V2 O2) ++ ([]))) 80 (v) (L') 140) :
    RunsTo Tryd.prog 60 [.code (bodyOf Tryd.f60)] (envOf [vL 60 2 N, vL 61 2 M] Tryd.f60.ntmps) (Sx.look ((eE 60 N V O ++ eE 61 M V2 O2) ++ ([]))) 80 (v) (L') 140 := by
  refine runs_more baseO (More.of (saStart_p0 N M V O V2 O2) ⟨?oo, rfl, ?rr⟩) (by kernel_rfl) (by kernel_rfl) rfl (gtL (by decide)) (by decide) next
  case oo =>
    clear next
    refine (okc ?_ okn)
    all_goals ((try simp (disch := omega) only [SS]); first | done | omega | assumption | (simp (disch := omega) only [SS] at *; first | done | omega | assumption) | (simp_all; done))
  case rr =>
    clear next
    try simp (disch := omega) only [SS]
    repeat' apply And.intro
    all_goals first | exact True.intro | with_reducible rfl | omega | (intros; first | exact True.intro | with_reducible rfl | omega | (simp_all; done)) | (simp_all; done) | rfl

theorem saRound_p0 (N M : Nat) (V O V2 O2 : Ix → Int) (i : Nat) :
    isMore (evTill Tryd.prog [] 300 (behind Tryd.f60 0) 900 60 (headOf Tryd.f60 0) (envAt Tryd.f60.ntmps ([(0, vL 60 2 N), (1, vL 61 2 M), (12, vN N), (13, vN (i : Nat))])) ((eE 60 N V O ++ eE 61 M V2 O2) ++ ([])) ⟨[.s true, .s true, .s true, .s true, .s true, .s true, .s true, .s false], 110⟩) (moreP (headOf Tryd.f60 0) ([]) Tryd.f60.ntmps ([(0, vL 60 2 N), (1, vL 61 2 M), (12, vN N), (13, vN (i + 1 : Nat))]) ([]) 140) =
    (OkL [(decide ((↑i : Int) < (↑N : Int)), true), (decide ((0 : Int) ≤ (↑i : Int) ∧ (↑i : Int) < (↑N : Int)), true), (((0 : Nat) + (↑i : Int).toNat).blt N, true), (((0 : Nat) + (↑i : Int).toNat).blt N, true), (decide ((0 : Int) ≤ (↑i : Int) ∧ (↑i : Int) < (↑M : Int)), true), (((0 : Nat) + (↑i : Int).toNat).blt M, true), (((0 : Nat) + (↑i : Int).toNat).blt M, true), (!(V [(0 : Nat) + (↑i : Int).toNat] == V2 [(0 : Nat) + (↑i : Int).toNat] && (O [(0 : Nat) + (↑i : Int).toNat] == O2 [(0 : Nat) + (↑i : Int).toNat] && true)), false)] ∧ headOf Tryd.f60 (0 : Nat) = headOf Tryd.f60 (0 : Nat) ∧ (((0 : Nat) = (0 : Nat) ∧ N = N) ∧ ((0 : Nat) = (0 : Nat) ∧ M = M) ∧ (↑N : Int) = (↑N : Int) ∧ (↑(i + (1 : Nat)) : Int) = IntKind.i64.wrap ((↑i : Int) + (1 : Int))) ∧ True) := by kernel_rfl

set_option maxHeartbeats 4000000 in
theorem saRound (N M : Nat) (V O V2 O2 : Ix → Int) (i : Nat) (h : N = M) (hi : i < N) (hN : N ≤ 1000) (e1 : V [i] = V2 [i]) (e2 : O [i] = O2 [i]) (v : SV) (L' : HF) (next : RunsTo Tryd.prog 60 (headOf Tryd.f60 0) (envAt Tryd.f60.ntmps ([(0, vL 60 2 N), (1, vL 61 2 M), (12, vN N), (13, vN (i + 1 : Nat))])) (Sx.look ((eE 60 N V O ++ eE 61 M V2 O2) ++ ([]))) 80 (v) (L') 140) :
    RunsTo Tryd.prog 60 (headOf Tryd.f60 0) (envAt Tryd.f60.ntmps ([(0, vL 60 2 N), (1, vL 61 2 M), (12, vN N), (13, vN (i : Nat))])) (Sx.look ((eE 60 N V O ++ eE 61 M V2 O2) ++ ([]))) 80 (v) (L') 140 := by
  have hw : IntKind.i64.wrap ((i : Int) + 1) = ((i + 1 : Nat) : Int) := by rw [wr64 (by omega)]; rfl
  refine runs_more baseO (More.of (saRound_p0 N M V O V2 O2 i) ⟨?oo, rfl, ?rr⟩) (by kernel_rfl) (by kernel_rfl) rfl (gtL (by decide)) (by decide) next
  case oo =>
    clear next
    refine (okc ?_ (okc ?_ (okc ?_ (okc ?_ (okc ?_ (okc ?_ (okc ?_ (okc ?_ okn))))))))
    all_goals ((try simp (disch := omega) only [SS, hw, e1, e2]); first | done | omega | assumption | (simp (disch := omega) only [SS, hw, e1, e2] at *; first | done | omega | assumption) | (simp_all; done))
  case rr =>
    clear next
    try simp (disch := omega) only [SS, hw, e1, e2]
    repeat' apply And.intro
    all_goals first | exact True.intro | with_reducible rfl | omega | (intros; first | exact True.intro | with_reducible rfl | omega | (simp_all; done)) | (simp_all; done) | rfl

theorem saV_p0 (N M : Nat) (V O V2 O2 : Ix → Int) (i : Nat) :
    isEnd (evTill Tryd.prog [] 300 (99) 900 60 (headOf Tryd.f60 0) (envAt Tryd.f60.ntmps ([(0, vL 60 2 N), (1, vL 61 2 M), (12, vN N), (13, vN (i : Nat))])) ((eE 60 N V O ++ eE 61 M V2 O2) ++ ([])) ⟨[.s true, .s true, .s true, .s true, .s true, .s true, .s true, .s true], 110⟩) (endP ([]) (vB false) ([]) 140) =
    (OkL [(decide ((↑i : Int) < (↑N : Int)), true), (decide ((0 : Int) ≤ (↑i : Int) ∧ (↑i : Int) < (↑N : Int)), true), (((0 : Nat) + (↑i : Int).toNat).blt N, true), (((0 : Nat) + (↑i : Int).toNat).blt N, true), (decide ((0 : Int) ≤ (↑i : Int) ∧ (↑i : Int) < (↑M : Int)), true), (((0 : Nat) + (↑i : Int).toNat).blt M, true), (((0 : Nat) + (↑i : Int).toNat).blt M, true), (!(V [(0 : Nat) + (↑i : Int).toNat] == V2 [(0 : Nat) + (↑i : Int).toNat] && (O [(0 : Nat) + (↑i : Int).toNat] == O2 [(0 : Nat) + (↑i : Int).toNat] && true)), true)] ∧ false = false ∧ True) := by kernel_rfl

set_option maxHeartbeats 4000000 in
theorem saV (N M : Nat) (V O V2 O2 : Ix → Int) (i : Nat) (h : N = M) (hi : i < N) (e1 : V [i] ≠ V2 [i]) :
    RunsTo Tryd.prog 60 (headOf Tryd.f60 0) (envAt Tryd.f60.ntmps ([(0, vL 60 2 N), (1, vL 61 2 M), (12, vN N), (13, vN (i : Nat))])) (Sx.look ((eE 60 N V O ++ eE 61 M V2 O2) ++ ([]))) 80 (vB false) (Sx.look ([])) 140 := by
  refine runs_last baseO (Sx.Ends.of (saV_p0 N M V O V2 O2 i) ⟨?oo, ?rr⟩) (by kernel_rfl) rfl (gtL (by decide)) (by decide)
  case oo =>
    refine (okc ?_ (okc ?_ (okc ?_ (okc ?_ (okc ?_ (okc ?_ (okc ?_ (okc ?_ okn))))))))
    all_goals ((try simp (disch := omega) only [SS, e1]); first | done | omega | assumption | (simp (disch := omega) only [SS, e1] at *; first | done | omega | assumption) | (simp_all; done))
  case rr =>
    try simp (disch := omega) only [SS, e1]
    repeat' apply And.intro
    all_goals first | exact True.intro | with_reducible rfl | omega | (intros; first | exact True.intro | with_reducible rfl | omega | (simp_all; done)) | (simp_all; done) | rfl

theorem saO_p0 (N M : Nat) (V O V2 O2 : Ix → Int) (i : Nat) :
    isEnd (evTill Tryd.prog [] 300 (99) 900 60 (headOf Tryd.f60 0) (envAt Tryd.f60.ntmps ([(0, vL 60 2 N), (1, vL 61 2 M), (12, vN N), (13, vN (i : Nat))])) ((eE 60 N V O ++ eE 61 M V2 O2) ++ ([])) ⟨[.s true, .s true, .s true, .s true, .s true, .s true, .s true, .s true], 110⟩) (endP ([]) (vB false) ([]) 140) =
    (OkL [(decide ((↑i : Int) < (↑N : Int)), true), (decide ((0 : Int) ≤ (↑i : Int) ∧ (↑i : Int) < (↑N : Int)), true), (((0 : Nat) + (↑i : Int).toNat).blt N, true), (((0 : Nat) + (↑i : Int).toNat).blt N, true), (decide ((0 : Int) ≤ (↑i : Int) ∧ (↑i : Int) < (↑M : Int)), true), (((0 : Nat) + (↑i : Int).toNat).blt M, true), (((0 : Nat) + (↑i : Int).toNat).blt M, true), (!(V [(0 : Nat) + (↑i : Int).toNat] == V2 [(0 : Nat) + (↑i : Int).toNat] && (O [(0 : Nat) + (↑i : Int).toNat] == O2 [(0 : Nat) + (↑i : Int).toNat] && true)), true)] ∧ false = false ∧ True) := by kernel_rfl

set_option maxHeartbeats 4000000 in
theorem saO (N M : Nat) (V O V2 O2 : Ix → Int) (i : Nat) (h : N = M) (hi : i < N) (e1 : V [i] = V2 [i]) (e2 : O [i] ≠ O2 [i]) :
    RunsTo Tryd.prog 60 (headOf Tryd.f60 0) (envAt Tryd.f60.ntmps ([(0, vL 60 2 N), (1, vL 61 2 M), (12, vN N), (13, vN (i : Nat))])) (Sx.look ((eE 60 N V O ++ eE 61 M V2 O2) ++ ([]))) 80 (vB false) (Sx.look ([])) 140 := by
  refine runs_last baseO (Sx.Ends.of (saO_p0 N M V O V2 O2 i) ⟨?oo, ?rr⟩) (by kernel_rfl) rfl (gtL (by decide)) (by decide)
  case oo =>
    refine (okc ?_ (okc ?_ (okc ?_ (okc ?_ (okc ?_ (okc ?_ (okc ?_ (okc ?_ okn))))))))
    all_goals ((try simp (disch := omega) only [SS, e1, e2]); first | done | omega | assumption | (simp (disch := omega) only [SS, e1, e2] at *; first | done | omega | assumption) | (simp_all; done))
  case rr =>
    try simp (disch := omega) only [SS, e1, e2]
    repeat' apply And.intro
    all_goals first | exact True.intro | with_reducible rfl | omega | (intros; first | exact True.intro | with_reducible rfl | omega | (simp_all; done)) | (simp_all; done) | rfl

theorem saEnd_p0 (N M : Nat) (V O V2 O2 : Ix → Int) (i : Nat) :
    isEnd (evTill Tryd.prog [] 300 (99) 900 60 (headOf Tryd.f60 0) (envAt Tryd.f60.ntmps ([(0, vL 60 2 N), (1, vL 61 2 M), (12, vN N), (13, vN (i : Nat))])) ((eE 60 N V O ++ eE 61 M V2 O2) ++ ([])) ⟨[.s false], 110⟩) (endP ([]) (vB true) ([]) 140) =
    (OkL [(decide ((↑i : Int) < (↑N : Int)), false)] ∧ true = true ∧ True) := by kernel_rfl

set_option maxHeartbeats 4000000 in
theorem saEnd (N M : Nat) (V O V2 O2 : Ix → Int) (i : Nat) (hi : i = N) :
    RunsTo Tryd.prog 60 (headOf Tryd.f60 0) (envAt Tryd.f60.ntmps ([(0, vL 60 2 N), (1, vL 61 2 M), (12, vN N), (13, vN (i : Nat))])) (Sx.look ((eE 60 N V O ++ eE 61 M V2 O2) ++ ([]))) 80 (vB true) (Sx.look ([])) 140 := by
  refine runs_last baseO (Sx.Ends.of (saEnd_p0 N M V O V2 O2 i) ⟨?oo, ?rr⟩) (by kernel_rfl) rfl (gtL (by decide)) (by decide)
  case oo =>
    refine (okc ?_ okn)
    all_goals ((try simp (disch := omega) only [SS]); first | done | omega | assumption | (simp (disch := omega) only [SS] at *; first | done | omega | assumption) | (simp_all; done))
  case rr =>
    try simp (disch := omega) only [SS]
    repeat' apply And.intro
    all_goals first | exact True.intro | with_reducible rfl | omega | (intros; first | exact True.intro | with_reducible rfl | omega | (simp_all; done)) | (simp_all; done) | rfl

theorem saI (N M : Nat) (V O V2 O2 : Ix → Int) (hN : N ≤ 1000) : RunsTo Tryd.prog 60 [.code (bodyOf Tryd.f60)] (envOf [vL 60 2 N, vL 61 2 M] Tryd.f60.ntmps) (Sx.look ((eE 60 N V O ++ eE 61 M V2 O2) ++ ([]))) 80 (vB (sameF N M V V2 O O2)) (Sx.look []) 140 := by
  by_cases h : N = M
  · refine saStart N M V O V2 O2 h _ _ ?_
    suffices q : ∀ (k i : Nat), i + k = N → (∀ j, j < i → V [j] = V2 [j] ∧ O [j] = O2 [j]) → RunsTo Tryd.prog 60 (headOf Tryd.f60 0) (envAt Tryd.f60.ntmps ([(0, vL 60 2 N), (1, vL 61 2 M), (12, vN N), (13, vN (i : Nat))])) (Sx.look ((eE 60 N V O ++ eE 61 M V2 O2) ++ ([]))) 80 (vB (sameF N M V V2 O O2)) (Sx.look []) 140 from q N 0 (by omega) (fun j hj => by omega)
    intro k
    induction k with
    | zero =>
      intro i hi ha
      have : sameF N M V V2 O O2 = true := by
        unfold sameF
        rw [decide_eq_true h, allEq_of (fun j hj => (ha j (by omega)).1), allEq_of (fun j hj => (ha j (by omega)).2)]
        rfl
      rw [this]; exact saEnd N M V O V2 O2 i (by omega)
    | succ k ih =>
      intro i hi ha
      by_cases e1 : V [i] = V2 [i]
      · by_cases e2 : O [i] = O2 [i]
        · refine saRound N M V O V2 O2 i h (by omega) hN e1 e2 _ _ (ih (i + 1) (by omega) fun j hj => ?_)
          by_cases e : j = i
          · subst e; exact ⟨e1, e2⟩
          · exact ha j (by omega)
        · have : sameF N M V V2 O O2 = false := by
            rw [Bool.eq_false_iff]; intro hs
            simp only [sameF, Bool.and_eq_true] at hs
            exact e2 (allEq_iff.1 hs.2.2 i (by omega))
          rw [this]; exact saO N M V O V2 O2 i h (by omega) e1 e2
      · have : sameF N M V V2 O O2 = false := by
          rw [Bool.eq_false_iff]; intro hs
          simp only [sameF, Bool.and_eq_true] at hs
          exact e1 (allEq_iff.1 hs.2.1 i (by omega))
        rw [this]; exact saV N M V O V2 O2 i h (by omega) e1
  · have : sameF N M V V2 O O2 = false := by unfold sameF; rw [decide_eq_false h, Bool.false_and]
    rw [this]; exact saLen N M V O V2 O2 h
def saP : PC := { args := [.v (.vl 60 2 0), .v (.vl 61 2 3)], heap := [⟨60, false, 2, .ta 0 (.tc (.vi .i64 1) (.tc (.vi .i64 2) .t0))⟩, ⟨61, false, 2, .ta 3 (.tc (.vi .i64 4) (.tc (.vi .i64 5) .t0))⟩], gs := [], G := 25, tp := 223, n := 80, n' := 140, cond := fun e => decide (eN e 0 ≤ 1000), v := fun e => vB (sameF (eN e 0) (eN e 3) (eI e 1) (eI e 4) (eI e 2) (eI e 5)), post := fun e => [] }
theorem saP_pc : PC.Runs Tryd.prog 60 Tryd.f60 (bodyOf Tryd.f60) saP := ⟨Tryd.func60, by kernel_rfl, (fun g hg => by first | cases hg | (revert g; decide)), fun e H hc => by
  have hc : (decide (eN e 0 ≤ 1000)) = true := hc
  try simp only [Bool.and_eq_true, decide_eq_true_eq, Nat.beq_eq] at hc
  exact saI (eN e 0) (eN e 3) (eI e 1) (eI e 2) (eI e 4) (eI e 5) hc⟩
theorem bdLong_p0 (t0 t1 t2 : List UInt8) (N : Nat) (V O : Ix → Int) :
    isEnd (evTill Tryd.prog [] 300 (99) 900 55 [.code (bodyOf Tryd.f55)] (envOf [vL 60 2 N] Tryd.f55.ntmps) ((sentEnts 25 223 [(4, t0), (5, t1), (7, t2)] ++ eE 60 N V O) ++ ([])) ⟨[.s true], 80⟩) (endP ([]) (.tup [(false, .vl0), (false, .ve 223 (.vp 29 (fun _ => 0) []))]) ([]) 180) =
    (OkL [(decide ((↑N : Int) > (120 : Int)), true)] ∧ (True ∧ (0 : Nat) = (0 : Nat) ∧ True) ∧ True) := by kernel_rfl

set_option maxHeartbeats 4000000 in
theorem bdLong (t0 t1 t2 : List UInt8) (N : Nat) (V O : Ix → Int) (h : 120 < N) :
    RunsTo Tryd.prog 55 [.code (bodyOf Tryd.f55)] (envOf [vL 60 2 N] Tryd.f55.ntmps) (Sx.look ((sentEnts 25 223 [(4, t0), (5, t1), (7, t2)] ++ eE 60 N V O) ++ ([]))) 80 (.tup [(false, .vl0), (false, .ve 223 (.vp 29 (fun _ => 0) []))]) (Sx.look ([])) 180 := by
  refine runs_last baseO (Sx.Ends.of (bdLong_p0 t0 t1 t2 N V O) ⟨?oo, ?rr⟩) (by kernel_rfl) rfl (gtL (by decide)) (by decide)
  case oo =>
    refine (okc ?_ okn)
    all_goals ((try simp (disch := omega) only [SS]); first | done | omega | assumption | (simp (disch := omega) only [SS] at *; first | done | omega | assumption) | (simp_all; done))
  case rr =>
    try simp (disch := omega) only [SS]
    repeat' apply And.intro
    all_goals first | exact True.intro | with_reducible rfl | omega | (intros; first | exact True.intro | with_reducible rfl | omega | (simp_all; done)) | (simp_all; done) | rfl

theorem bdStart_p0 (t0 t1 t2 : List UInt8) (N : Nat) (V O : Ix → Int) :
    isMore (evTill Tryd.prog [] 300 (behind Tryd.f55 0) 900 55 [.code (bodyOf Tryd.f55)] (envOf [vL 60 2 N] Tryd.f55.ntmps) ((sentEnts 25 223 [(4, t0), (5, t1), (7, t2)] ++ eE 60 N V O) ++ ([])) ⟨[.s false], 80⟩) (moreP (headOf Tryd.f55 0) ([((101 : Nat), Rn.to (80 : Nat))]) Tryd.f55.ntmps ([(4, rS 101 ([0])), (12, vL 60 2 N), (13, vN N), (14, vN (0 : Nat))]) (rE 101 ([0])) 180) =
    (OkL [(decide ((↑N : Int) > (120 : Int)), false)] ∧ headOf Tryd.f55 (0 : Nat) = headOf Tryd.f55 (0 : Nat) ∧ (((0 : Nat) = (0 : Nat) ∧ (1 : Nat) = (1 : Nat)) ∧ ((0 : Nat) = (0 : Nat) ∧ N = N) ∧ (↑N : Int) = (↑N : Int) ∧ (↑(0 : Nat) : Int) = (0 : Int)) ∧ (1 : Nat) = (1 : Nat) ∧ ∀ (i : Nat), i < (1 : Nat) → (↑([(0 : UInt8)].getD i (0 : UInt8)).toNat : Int) = (0 : Int)) := by kernel_rfl

set_option maxHeartbeats 4000000 in
theorem bdStart (t0 t1 t2 : List UInt8) (N : Nat) (V O : Ix → Int) (h : N ≤ 120) (v : SV) (L' : HF) (next : RunsTo Tryd.prog 55 (headOf Tryd.f55 0) (envAt Tryd.f55.ntmps ([(4, rS 101 ([0])), (12, vL 60 2 N), (13, vN N), (14, vN (0 : Nat))])) (Sx.look ((sentEnts 25 223 [(4, t0), (5, t1), (7, t2)] ++ eE 60 N V O) ++ (rE 101 ([0])))) 80 (v) (L') 180) :
    RunsTo Tryd.prog 55 [.code (bodyOf Tryd.f55)] (envOf [vL 60 2 N] Tryd.f55.ntmps) (Sx.look ((sentEnts 25 223 [(4, t0), (5, t1), (7, t2)] ++ eE 60 N V O) ++ ([]))) 80 (v) (L') 180 := by
  refine runs_more baseO (More.of (bdStart_p0 t0 t1 t2 N V O) ⟨?oo, rfl, ?rr⟩) (by kernel_rfl) (by kernel_rfl) rfl (gtL (by decide)) (by decide) next
  case oo =>
    clear next
    refine (okc ?_ okn)
    all_goals ((try simp (disch := omega) only [SS]); first | done | omega | assumption | (simp (disch := omega) only [SS] at *; first | done | omega | assumption) | (simp_all; done))
  case rr =>
    clear next
    simp (disch := omega) only [SS]
    repeat' apply And.intro
    all_goals first | exact True.intro | with_reducible rfl | omega | (intro k hk; have : k = 0 := (by simp at hk; omega); subst this; rfl) | (intros; rfl) | (simp_all; done)

theorem bdRound_p0 (t0 t1 t2 : List UInt8) (N : Nat) (V O : Ix → Int) (a : List UInt8) (i : Nat) :
    isMore (evTill Tryd.prog [] 300 (behind Tryd.f55 0) 900 55 (headOf Tryd.f55 0) (envAt Tryd.f55.ntmps ([(4, rS 101 (a)), (12, vL 60 2 N), (13, vN N), (14, vN (i : Nat))])) ((sentEnts 25 223 [(4, t0), (5, t1), (7, t2)] ++ eE 60 N V O) ++ (rE 101 (a))) ⟨[.s true, .s true, .s true, .s true, .s true, .s false, .s false, .s false, .t, .s true, .s true], 110⟩) (moreP (headOf Tryd.f55 0) ([((101 : Nat), Rn.to (112 : Nat))]) Tryd.f55.ntmps ([(4, rS 101 (a ++ [UInt8.ofNat (V [i]).toNat, UInt8.ofNat (O [i]).toNat])), (12, vL 60 2 N), (13, vN N), (14, vN (i + 1 : Nat))]) (rE 101 (a ++ [UInt8.ofNat (V [i]).toNat, UInt8.ofNat (O [i]).toNat])) 180) =
    (OkL [(decide ((↑i : Int) < (↑N : Int)), true), (decide ((0 : Int) ≤ (↑i : Int) ∧ (↑i : Int) < (↑N : Int)), true), (((0 : Nat) + (↑i : Int).toNat).blt N, true), (((0 : Nat) + (↑i : Int).toNat).blt N, true), (decide (V [(0 : Nat) + (↑i : Int).toNat] ≥ (251 : Int)), true), (!decide (V [(0 : Nat) + (↑i : Int).toNat] ≤ (254 : Int)), false), (decide (O [(0 : Nat) + (↑i : Int).toNat] < (0 : Int)), false), (decide (O [(0 : Nat) + (↑i : Int).toNat] > (255 : Int)), false), (((0 : Nat) + a.length).ble a.length, true), (decide (((2 : Nat) * (a.length + (2 : Nat)) + (192 : Nat)) * (1 : Nat) ≤ (281474976710656 : Nat)), true)] ∧ headOf Tryd.f55 (0 : Nat) = headOf Tryd.f55 (0 : Nat) ∧ (((0 : Nat) = (0 : Nat) ∧ (a ++ [UInt8.ofNat (V [i]).toNat, UInt8.ofNat (O [i]).toNat]).length = a.length + (2 : Nat)) ∧ ((0 : Nat) = (0 : Nat) ∧ N = N) ∧ (↑N : Int) = (↑N : Int) ∧ (↑(i + (1 : Nat)) : Int) = IntKind.i64.wrap ((↑i : Int) + (1 : Int))) ∧ (a ++ [UInt8.ofNat (V [i]).toNat, UInt8.ofNat (O [i]).toNat]).length = a.length + (2 : Nat) ∧ ∀ (i_1 : Nat), i_1 < (a ++ [UInt8.ofNat (V [i]).toNat, UInt8.ofNat (O [i]).toNat]).length → (↑((a ++ [UInt8.ofNat (V [i]).toNat, UInt8.ofNat (O [i]).toNat]).getD i_1 (0 : UInt8)).toNat : Int) = appF a.length (0 : Nat) (fun is => (↑(a.getD (List.headD is (0 : Nat)) (0 : UInt8)).toNat : Int)) (fun js => upd (upd (fun is => (0 : Int)) [(0 : Nat)] (IntKind.u8.wrap (V [(0 : Nat) + (↑i : Int).toNat]))) [(1 : Nat)] (IntKind.u8.wrap (O [(0 : Nat) + (↑i : Int).toNat])) (subIx (sum []) js)) [i_1]) := by kernel_rfl

set_option maxHeartbeats 4000000 in
theorem bdRound (t0 t1 t2 : List UInt8) (N : Nat) (V O : Ix → Int) (a : List UInt8) (i : Nat) (hi : i < N) (hN : N ≤ 120) (ha : a.length ≤ 1000) (h1 : 251 ≤ V [i] ∧ V [i] ≤ 254) (h2 : 0 ≤ O [i] ∧ O [i] ≤ 255) (v : SV) (L' : HF) (next : RunsTo Tryd.prog 55 (headOf Tryd.f55 0) (envAt Tryd.f55.ntmps ([(4, rS 101 (a ++ [UInt8.ofNat (V [i]).toNat, UInt8.ofNat (O [i]).toNat])), (12, vL 60 2 N), (13, vN N), (14, vN (i + 1 : Nat))])) (Sx.look ((sentEnts 25 223 [(4, t0), (5, t1), (7, t2)] ++ eE 60 N V O) ++ (rE 101 (a ++ [UInt8.ofNat (V [i]).toNat, UInt8.ofNat (O [i]).toNat])))) 80 (v) (L') 180) :
    RunsTo Tryd.prog 55 (headOf Tryd.f55 0) (envAt Tryd.f55.ntmps ([(4, rS 101 (a)), (12, vL 60 2 N), (13, vN N), (14, vN (i : Nat))])) (Sx.look ((sentEnts 25 223 [(4, t0), (5, t1), (7, t2)] ++ eE 60 N V O) ++ (rE 101 (a)))) 80 (v) (L') 180 := by
  have hw : IntKind.i64.wrap ((i : Int) + 1) = ((i + 1 : Nat) : Int) := by rw [wr64 (by omega)]; rfl
  refine runs_more baseO (More.of (bdRound_p0 t0 t1 t2 N V O a i) ⟨?oo, rfl, ?rr⟩) (by kernel_rfl) (by kernel_rfl) rfl (gtL (by decide)) (by decide) next
  case oo =>
    clear next
    refine (okc ?_ (okc ?_ (okc ?_ (okc ?_ (okc ?_ (okc ?_ (okc ?_ (okc ?_ (okc ?_ (okc ?_ okn))))))))))
    all_goals ((try simp (disch := omega) only [SS, hw, List.length_append, List.length_cons, List.length_nil]); first | done | omega | assumption | (simp (disch := omega) only [SS, hw, List.length_append, List.length_cons, List.length_nil] at *; first | done | omega | assumption) | (simp_all; done))
  case rr =>
    clear next
    simp (disch := omega) only [SS, hw, List.length_append, List.length_cons, List.length_nil, Go.Sx.sum]
    repeat' apply And.intro
    all_goals first | exact True.intro | with_reducible rfl | omega | exact app_two a (by omega) (by omega) _ rfl rfl | (intros; rfl) | (simp_all; done)

theorem bdKind_p0 (t0 t1 t2 : List UInt8) (N : Nat) (V O : Ix → Int) (a : List UInt8) (i : Nat) :
    isEnd (evTill Tryd.prog [] 300 (99) 900 55 (headOf Tryd.f55 0) (envAt Tryd.f55.ntmps ([(4, rS 101 (a)), (12, vL 60 2 N), (13, vN N), (14, vN (i : Nat))])) ((sentEnts 25 223 [(4, t0), (5, t1), (7, t2)] ++ eE 60 N V O) ++ (rE 101 (a))) ⟨[.s true, .s true, .s true, .s true, .s false, .t], 110⟩) (endP ([]) (.tup [(false, .vl0), (false, .ve 223 (.vp 30 (fun _ => 0) []))]) ([]) 180) =
    (OkL [(decide ((↑i : Int) < (↑N : Int)), true), (decide ((0 : Int) ≤ (↑i : Int) ∧ (↑i : Int) < (↑N : Int)), true), (((0 : Nat) + (↑i : Int).toNat).blt N, true), (((0 : Nat) + (↑i : Int).toNat).blt N, true), (decide (V [(0 : Nat) + (↑i : Int).toNat] ≥ (251 : Int)), false)] ∧ (True ∧ (0 : Nat) = (0 : Nat) ∧ True) ∧ True) := by kernel_rfl
theorem bdKind_p1 (t0 t1 t2 : List UInt8) (N : Nat) (V O : Ix → Int) (a : List UInt8) (i : Nat) :
    isEnd (evTill Tryd.prog [] 300 (99) 900 55 (headOf Tryd.f55 0) (envAt Tryd.f55.ntmps ([(4, rS 101 (a)), (12, vL 60 2 N), (13, vN N), (14, vN (i : Nat))])) ((sentEnts 25 223 [(4, t0), (5, t1), (7, t2)] ++ eE 60 N V O) ++ (rE 101 (a))) ⟨[.s true, .s true, .s true, .s true, .s true, .s true], 110⟩) (endP ([]) (.tup [(false, .vl0), (false, .ve 223 (.vp 30 (fun _ => 0) []))]) ([]) 180) =
    (OkL [(decide ((↑i : Int) < (↑N : Int)), true), (decide ((0 : Int) ≤ (↑i : Int) ∧ (↑i : Int) < (↑N : Int)), true), (((0 : Nat) + (↑i : Int).toNat).blt N, true), (((0 : Nat) + (↑i : Int).toNat).blt N, true), (decide (V [(0 : Nat) + (↑i : Int).toNat] ≥ (251 : Int)), true), (!decide (V [(0 : Nat) + (↑i : Int).toNat] ≤ (254 : Int)), true)] ∧ (True ∧ (0 : Nat) = (0 : Nat) ∧ True) ∧ True) := by kernel_rfl

set_option maxHeartbeats 4000000 in
theorem bdKind (t0 t1 t2 : List UInt8) (N : Nat) (V O : Ix → Int) (a : List UInt8) (i : Nat) (hi : i < N) (h1 : ¬ (251 ≤ V [i] ∧ V [i] ≤ 254)) :
    RunsTo Tryd.prog 55 (headOf Tryd.f55 0) (envAt Tryd.f55.ntmps ([(4, rS 101 (a)), (12, vL 60 2 N), (13, vN N), (14, vN (i : Nat))])) (Sx.look ((sentEnts 25 223 [(4, t0), (5, t1), (7, t2)] ++ eE 60 N V O) ++ (rE 101 (a)))) 80 (.tup [(false, .vl0), (false, .ve 223 (.vp 30 (fun _ => 0) []))]) (Sx.look ([])) 180 := by
  refine bcase (c := (decide (V [(0 : Nat) + (↑i : Int).toNat] ≥ (251 : Int)))) (fun gg0 => ?_) (fun gg0 => ?_)
  · refine runs_last baseO (Sx.Ends.of (bdKind_p0 t0 t1 t2 N V O a i) ⟨?oo, ?rr⟩) (by kernel_rfl) rfl (gtL (by decide)) (by decide)
    case oo =>
      refine (okc ?_ (okc ?_ (okc ?_ (okc ?_ (okc gg0 okn)))))
      all_goals ((try simp (disch := omega) only [SS]); first | done | omega | assumption | (simp (disch := omega) only [SS] at *; first | done | omega | assumption) | (simp_all; done))
    case rr =>
      try simp (disch := omega) only [SS]
      repeat' apply And.intro
      all_goals first | exact True.intro | with_reducible rfl | omega | (intros; first | exact True.intro | with_reducible rfl | omega | (simp_all; done)) | (simp_all; done) | rfl
  · refine runs_last baseO (Sx.Ends.of (bdKind_p1 t0 t1 t2 N V O a i) ⟨?oo, ?rr⟩) (by kernel_rfl) rfl (gtL (by decide)) (by decide)
    case oo =>
      refine (okc ?_ (okc ?_ (okc ?_ (okc ?_ (okc gg0 (okc ?_ okn))))))
      all_goals ((try simp (disch := omega) only [SS]); first | done | omega | assumption | (simp (disch := omega) only [SS] at *; first | done | omega | assumption) | (simp_all; done))
    case rr =>
      try simp (disch := omega) only [SS]
      repeat' apply And.intro
      all_goals first | exact True.intro | with_reducible rfl | omega | (intros; first | exact True.intro | with_reducible rfl | omega | (simp_all; done)) | (simp_all; done) | rfl

theorem bdRange_p0 (t0 t1 t2 : List UInt8) (N : Nat) (V O : Ix → Int) (a : List UInt8) (i : Nat) :
    isEnd (evTill Tryd.prog [] 300 (99) 900 55 (headOf Tryd.f55 0) (envAt Tryd.f55.ntmps ([(4, rS 101 (a)), (12, vL 60 2 N), (13, vN N), (14, vN (i : Nat))])) ((sentEnts 25 223 [(4, t0), (5, t1), (7, t2)] ++ eE 60 N V O) ++ (rE 101 (a))) ⟨[.s true, .s true, .s true, .s true, .s true, .s false, .s false, .s true], 110⟩) (endP ([]) (.tup [(false, .vl0), (false, .ve 223 (.vp 32 (fun _ => 0) []))]) ([]) 180) =
    (OkL [(decide ((↑i : Int) < (↑N : Int)), true), (decide ((0 : Int) ≤ (↑i : Int) ∧ (↑i : Int) < (↑N : Int)), true), (((0 : Nat) + (↑i : Int).toNat).blt N, true), (((0 : Nat) + (↑i : Int).toNat).blt N, true), (decide (V [(0 : Nat) + (↑i : Int).toNat] ≥ (251 : Int)), true), (!decide (V [(0 : Nat) + (↑i : Int).toNat] ≤ (254 : Int)), false), (decide (O [(0 : Nat) + (↑i : Int).toNat] < (0 : Int)), false), (decide (O [(0 : Nat) + (↑i : Int).toNat] > (255 : Int)), true)] ∧ (True ∧ (0 : Nat) = (0 : Nat) ∧ True) ∧ True) := by kernel_rfl
theorem bdRange_p1 (t0 t1 t2 : List UInt8) (N : Nat) (V O : Ix → Int) (a : List UInt8) (i : Nat) :
    isEnd (evTill Tryd.prog [] 300 (99) 900 55 (headOf Tryd.f55 0) (envAt Tryd.f55.ntmps ([(4, rS 101 (a)), (12, vL 60 2 N), (13, vN N), (14, vN (i : Nat))])) ((sentEnts 25 223 [(4, t0), (5, t1), (7, t2)] ++ eE 60 N V O) ++ (rE 101 (a))) ⟨[.s true, .s true, .s true, .s true, .s true, .s false, .s true], 110⟩) (endP ([]) (.tup [(false, .vl0), (false, .ve 223 (.vp 32 (fun _ => 0) []))]) ([]) 180) =
    (OkL [(decide ((↑i : Int) < (↑N : Int)), true), (decide ((0 : Int) ≤ (↑i : Int) ∧ (↑i : Int) < (↑N : Int)), true), (((0 : Nat) + (↑i : Int).toNat).blt N, true), (((0 : Nat) + (↑i : Int).toNat).blt N, true), (decide (V [(0 : Nat) + (↑i : Int).toNat] ≥ (251 : Int)), true), (!decide (V [(0 : Nat) + (↑i : Int).toNat] ≤ (254 : Int)), false), (decide (O [(0 : Nat) + (↑i : Int).toNat] < (0 : Int)), true)] ∧ (True ∧ (0 : Nat) = (0 : Nat) ∧ True) ∧ True) := by kernel_rfl

set_option maxHeartbeats 4000000 in
theorem bdRange (t0 t1 t2 : List UInt8) (N : Nat) (V O : Ix → Int) (a : List UInt8) (i : Nat) (hi : i < N) (h1 : 251 ≤ V [i] ∧ V [i] ≤ 254) (h2 : ¬ (0 ≤ O [i] ∧ O [i] ≤ 255)) :
    RunsTo Tryd.prog 55 (headOf Tryd.f55 0) (envAt Tryd.f55.ntmps ([(4, rS 101 (a)), (12, vL 60 2 N), (13, vN N), (14, vN (i : Nat))])) (Sx.look ((sentEnts 25 223 [(4, t0), (5, t1), (7, t2)] ++ eE 60 N V O) ++ (rE 101 (a)))) 80 (.tup [(false, .vl0), (false, .ve 223 (.vp 32 (fun _ => 0) []))]) (Sx.look ([])) 180 := by
  refine bcase (c := (decide (O [(0 : Nat) + (↑i : Int).toNat] < (0 : Int)))) (fun gg0 => ?_) (fun gg0 => ?_)
  · refine runs_last baseO (Sx.Ends.of (bdRange_p0 t0 t1 t2 N V O a i) ⟨?oo, ?rr⟩) (by kernel_rfl) rfl (gtL (by decide)) (by decide)
    case oo =>
      refine (okc ?_ (okc ?_ (okc ?_ (okc ?_ (okc ?_ (okc ?_ (okc gg0 (okc ?_ okn))))))))
      all_goals ((try simp (disch := omega) only [SS]); first | done | omega | assumption | (simp (disch := omega) only [SS] at *; first | done | omega | assumption) | (simp_all; done))
    case rr =>
      try simp (disch := omega) only [SS]
      repeat' apply And.intro
      all_goals first | exact True.intro | with_reducible rfl | omega | (intros; first | exact True.intro | with_reducible rfl | omega | (simp_all; done)) | (simp_all; done) | rfl
  · refine runs_last baseO (Sx.Ends.of (bdRange_p1 t0 t1 t2 N V O a i) ⟨?oo, ?rr⟩) (by kernel_rfl) rfl (gtL (by decide)) (by decide)
    case oo =>
      refine (okc ?_ (okc ?_ (okc ?_ (okc ?_ (okc ?_ (okc ?_ (okc gg0 okn)))))))
      all_goals ((try simp (disch := omega) only [SS]); first | done | omega | assumption | (simp (disch := omega) only [SS] at *; first | done | omega | assumption) | (simp_all; done))
    case rr =>
      try simp (disch := omega) only [SS]
      repeat' apply And.intro
      all_goals first | exact True.intro | with_reducible rfl | omega | (intros; first | exact True.intro | with_reducible rfl | omega | (simp_all; done)) | (simp_all; done) | rfl

theorem bdEnd_p0 (t0 t1 t2 : List UInt8) (N : Nat) (V O : Ix → Int) (a : List UInt8) (i : Nat) :
    isEnd (evTill Tryd.prog [] 300 (99) 900 55 (headOf Tryd.f55 0) (envAt Tryd.f55.ntmps ([(4, rS 101 (a)), (12, vL 60 2 N), (13, vN N), (14, vN (i : Nat))])) ((sentEnts 25 223 [(4, t0), (5, t1), (7, t2)] ++ eE 60 N V O) ++ (rE 101 (a))) ⟨[.s false], 110⟩) (endP ([]) (.tup [(false, .vl 101 (fun _ => 0) 1 [] (fun _ => (a).length)), (false, .ve0)]) (rE 101 (a)) 180) =
    (OkL [(decide ((↑i : Int) < (↑N : Int)), false)] ∧ (((0 : Nat) = (0 : Nat) ∧ a.length = a.length) ∧ True ∧ True) ∧ a.length = a.length ∧ ∀ (i : Nat), i < a.length → (↑(a.getD i (0 : UInt8)).toNat : Int) = (↑(a.getD i (0 : UInt8)).toNat : Int)) := by kernel_rfl

set_option maxHeartbeats 4000000 in
theorem bdEnd (t0 t1 t2 : List UInt8) (N : Nat) (V O : Ix → Int) (a : List UInt8) (i : Nat) (hi : i = N) :
    RunsTo Tryd.prog 55 (headOf Tryd.f55 0) (envAt Tryd.f55.ntmps ([(4, rS 101 (a)), (12, vL 60 2 N), (13, vN N), (14, vN (i : Nat))])) (Sx.look ((sentEnts 25 223 [(4, t0), (5, t1), (7, t2)] ++ eE 60 N V O) ++ (rE 101 (a)))) 80 (.tup [(false, .vl 101 (fun _ => 0) 1 [] (fun _ => (a).length)), (false, .ve0)]) (Sx.look (rE 101 (a))) 180 := by
  refine runs_last baseO (Sx.Ends.of (bdEnd_p0 t0 t1 t2 N V O a i) ⟨?oo, ?rr⟩) (by kernel_rfl) rfl (gtL (by decide)) (by decide)
  case oo =>
    refine (okc ?_ okn)
    all_goals ((try simp (disch := omega) only [SS]); first | done | omega | assumption | (simp (disch := omega) only [SS] at *; first | done | omega | assumption) | (simp_all; done))
  case rr =>
    try simp (disch := omega) only [SS]
    repeat' apply And.intro
    all_goals first | exact True.intro | with_reducible rfl | omega | (intros; first | exact True.intro | with_reducible rfl | omega | (simp_all; done)) | (simp_all; done) | rfl

end Go.Proofs.YtealbjkhjpmilaaDoor

set_option linter.unusedSimpArgs false
set_option linter.unusedVariables false
set_option maxRecDepth 100000
namespace Go.Proofs.YtealbjkhjpmilaaDoor
open Go.Sx

open DecR
theorem fb_cases (V O : Ix → Int) : ∀ k i, fb V O k i = 0 ∨ fb V O k i = 9 ∨ fb V O k i = 1
  | 0, _ => .inl rfl
  | k + 1, i => by
    simp only [fb]
    split
    · exact .inr (.inl rfl)
    · split
      · exact .inr (.inr rfl)
      · exact fb_cases V O k (i + 1)
theorem bdL (t0 t1 t2 : List UInt8) (N : Nat) (V O : Ix → Int) (hN : N ≤ 120) : ∀ (k i : Nat), i + k = N →
    (fb V O k i = 0 → RunsTo Tryd.prog 55 (headOf Tryd.f55 0) (envAt Tryd.f55.ntmps ([(4, rS 101 (bodyL V O i)), (12, vL 60 2 N), (13, vN N), (14, vN (i : Nat))])) (Sx.look ((sentEnts 25 223 [(4, t0), (5, t1), (7, t2)] ++ eE 60 N V O) ++ (rE 101 (bodyL V O i)))) 80 (.tup [(false, .vl 101 (fun _ => 0) 1 [] (fun _ => (bodyL V O N).length)), (false, .ve0)]) (Sx.look (rE 101 (bodyL V O N))) 180) ∧ (fb V O k i = 9 → RunsTo Tryd.prog 55 (headOf Tryd.f55 0) (envAt Tryd.f55.ntmps ([(4, rS 101 (bodyL V O i)), (12, vL 60 2 N), (13, vN N), (14, vN (i : Nat))])) (Sx.look ((sentEnts 25 223 [(4, t0), (5, t1), (7, t2)] ++ eE 60 N V O) ++ (rE 101 (bodyL V O i)))) 80 (.tup [(false, .vl0), (false, .ve 223 (.vp 30 (fun _ => 0) []))]) (Sx.look []) 180) ∧ (fb V O k i = 1 → RunsTo Tryd.prog 55 (headOf Tryd.f55 0) (envAt Tryd.f55.ntmps ([(4, rS 101 (bodyL V O i)), (12, vL 60 2 N), (13, vN N), (14, vN (i : Nat))])) (Sx.look ((sentEnts 25 223 [(4, t0), (5, t1), (7, t2)] ++ eE 60 N V O) ++ (rE 101 (bodyL V O i)))) 80 (.tup [(false, .vl0), (false, .ve 223 (.vp 32 (fun _ => 0) []))]) (Sx.look []) 180) := by
  intro k
  induction k with
  | zero =>
    intro i hi
    refine ⟨fun _ => ?_, fun h => ?_, fun h => ?_⟩
    · have : i = N := by omega
      subst this
      exact bdEnd t0 t1 t2 i V O _ i rfl
    · simp [fb] at h
    · simp [fb] at h
  | succ k ih =>
    intro i hi
    have hl := bodyL_len V O i
    by_cases h1 : 251 ≤ V [i] ∧ V [i] ≤ 254
    · by_cases h2 : 0 ≤ O [i] ∧ O [i] ≤ 255
      · have e : fb V O (k + 1) i = fb V O k (i + 1) := by simp only [fb]; rw [if_neg (by rw [okV_iff.2 h1]; simp), if_neg (by rw [okO_iff.2 h2]; simp)]
        rw [e]
        obtain ⟨a, b, c⟩ := ih (i + 1) (by omega)
        exact ⟨fun h => bdRound t0 t1 t2 N V O _ i (by omega) hN (by omega) h1 h2 _ _ (a h), fun h => bdRound t0 t1 t2 N V O _ i (by omega) hN (by omega) h1 h2 _ _ (b h), fun h => bdRound t0 t1 t2 N V O _ i (by omega) hN (by omega) h1 h2 _ _ (c h)⟩
      · have e : fb V O (k + 1) i = 1 := by
          have : okO (O [i]) = false := by rw [Bool.eq_false_iff]; exact fun x => h2 (okO_iff.1 x)
          simp only [fb]; rw [if_neg (by rw [okV_iff.2 h1]; simp), if_pos this]
        rw [e]
        exact ⟨fun h => by simp at h, fun h => by simp at h, fun _ => bdRange t0 t1 t2 N V O _ i (by omega) h1 h2⟩
    · have e : fb V O (k + 1) i = 9 := by
        have : okV (V [i]) = false := by rw [Bool.eq_false_iff]; exact fun x => h1 (okV_iff.1 x)
        simp only [fb]; rw [if_pos this]
      rw [e]
      exact ⟨fun h => by simp at h, fun _ => bdKind t0 t1 t2 N V O _ i (by omega) h1, fun h => by simp at h⟩
def bdOkP : PC := { args := [.v (.vl 60 2 0)], heap := [⟨60, false, 2, .ta 0 (.tc (.vi .i64 1) (.tc (.vi .i64 2) .t0))⟩], gs := [4, 5, 7], G := 25, tp := 223, n := 80, n' := 180, cond := fun e => decide (eN e 0 ≤ 120) && decide (fb (eI e 1) (eI e 2) (eN e 0) 0 = 0), v := fun e => .tup [(false, .vl 101 (fun _ => 0) 1 [] (fun _ => (bodyL (eI e 1) (eI e 2) (eN e 0)).length)), (false, .ve0)], post := fun e => rE 101 (bodyL (eI e 1) (eI e 2) (eN e 0)) }
theorem bdOkP_pc : PC.Runs Tryd.prog 55 Tryd.f55 (bodyOf Tryd.f55) bdOkP := ⟨Tryd.func55, by kernel_rfl, (fun g hg => by first | (cases hg; done) | (revert g; show ∀ g ∈ ([4, 5, 7] : List Nat), g < 25; decide)), fun e H hc => by
  have hc : (decide (eN e 0 ≤ 120) && decide (fb (eI e 1) (eI e 2) (eN e 0) 0 = 0)) = true := hc
  try simp only [Bool.and_eq_true, decide_eq_true_eq, Nat.beq_eq] at hc
  exact bdStart _ _ _ (eN e 0) (eI e 1) (eI e 2) hc.1 _ _ (((bdL _ _ _ (eN e 0) (eI e 1) (eI e 2) hc.1 (eN e 0) 0 (by omega)).1 hc.2))⟩
def bdKiP : PC := { args := [.v (.vl 60 2 0)], heap := [⟨60, false, 2, .ta 0 (.tc (.vi .i64 1) (.tc (.vi .i64 2) .t0))⟩], gs := [4, 5, 7], G := 25, tp := 223, n := 80, n' := 180, cond := fun e => decide (eN e 0 ≤ 120) && decide (fb (eI e 1) (eI e 2) (eN e 0) 0 = 9), v := fun e => .tup [(false, .vl0), (false, .ve 223 (.vp 30 (fun _ => 0) []))], post := fun e => [] }
theorem bdKiP_pc : PC.Runs Tryd.prog 55 Tryd.f55 (bodyOf Tryd.f55) bdKiP := ⟨Tryd.func55, by kernel_rfl, (fun g hg => by first | (cases hg; done) | (revert g; show ∀ g ∈ ([4, 5, 7] : List Nat), g < 25; decide)), fun e H hc => by
  have hc : (decide (eN e 0 ≤ 120) && decide (fb (eI e 1) (eI e 2) (eN e 0) 0 = 9)) = true := hc
  try simp only [Bool.and_eq_true, decide_eq_true_eq, Nat.beq_eq] at hc
  exact bdStart _ _ _ (eN e 0) (eI e 1) (eI e 2) hc.1 _ _ (((bdL _ _ _ (eN e 0) (eI e 1) (eI e 2) hc.1 (eN e 0) 0 (by omega)).2.1 hc.2))⟩
def bdRaP : PC := { args := [.v (.vl 60 2 0)], heap := [⟨60, false, 2, .ta 0 (.tc (.vi .i64 1) (.tc (.vi .i64 2) .t0))⟩], gs := [4, 5, 7], G := 25, tp := 223, n := 80, n' := 180, cond := fun e => decide (eN e 0 ≤ 120) && decide (fb (eI e 1) (eI e 2) (eN e 0) 0 = 1), v := fun e => .tup [(false, .vl0), (false, .ve 223 (.vp 32 (fun _ => 0) []))], post := fun e => [] }
theorem bdRaP_pc : PC.Runs Tryd.prog 55 Tryd.f55 (bodyOf Tryd.f55) bdRaP := ⟨Tryd.func55, by kernel_rfl, (fun g hg => by first | (cases hg; done) | (revert g; show ∀ g ∈ ([4, 5, 7] : List Nat), g < 25; decide)), fun e H hc => by
  have hc : (decide (eN e 0 ≤ 120) && decide (fb (eI e 1) (eI e 2) (eN e 0) 0 = 1)) = true := hc
  try simp only [Bool.and_eq_true, decide_eq_true_eq, Nat.beq_eq] at hc
  exact bdStart _ _ _ (eN e 0) (eI e 1) (eI e 2) hc.1 _ _ (((bdL _ _ _ (eN e 0) (eI e 1) (eI e 2) hc.1 (eN e 0) 0 (by omega)).2.2 hc.2))⟩
def bdLoP : PC := { args := [.v (.vl 60 2 0)], heap := [⟨60, false, 2, .ta 0 (.tc (.vi .i64 1) (.tc (.vi .i64 2) .t0))⟩], gs := [4, 5, 7], G := 25, tp := 223, n := 80, n' := 180, cond := fun e => decide (120 < eN e 0), v := fun e => .tup [(false, .vl0), (false, .ve 223 (.vp 29 (fun _ => 0) []))], post := fun e => [] }
theorem bdLoP_pc : PC.Runs Tryd.prog 55 Tryd.f55 (bodyOf Tryd.f55) bdLoP := ⟨Tryd.func55, by kernel_rfl, (fun g hg => by first | (cases hg; done) | (revert g; show ∀ g ∈ ([4, 5, 7] : List Nat), g < 25; decide)), fun e H hc => by
  have hc : (decide (120 < eN e 0)) = true := hc
  try simp only [Bool.and_eq_true, decide_eq_true_eq, Nat.beq_eq] at hc
  exact bdLong _ _ _ (eN e 0) (eI e 1) (eI e 2) hc⟩
theorem rbLong_p0 (N : Nat) (V O : Ix → Int) :
    isEnd (evTill Tryd.prog [] 300 (99) 900 56 [.code (bodyOf Tryd.f56)] (envOf [vL 60 2 N] Tryd.f56.ntmps) (eE 60 N V O ++ ([])) ⟨[.s true], 80⟩) (endP ([]) (.tup [(false, .vs fun _ => []), (false, .vi .i64 fun _ => 4)]) ([]) 180) =
    (OkL [(decide ((↑N : Int) > (120 : Int)), true)] ∧ (([] : List UInt8) = [] ∧ (4 : Int) = (4 : Int) ∧ True) ∧ True) := by kernel_rfl

set_option maxHeartbeats 4000000 in
theorem rbLong (N : Nat) (V O : Ix → Int) (h : 120 < N) :
    RunsTo Tryd.prog 56 [.code (bodyOf Tryd.f56)] (envOf [vL 60 2 N] Tryd.f56.ntmps) (Sx.look (eE 60 N V O ++ ([]))) 80 (.tup [(false, .vs fun _ => []), (false, .vi .i64 fun _ => 4)]) (Sx.look ([])) 180 := by
  refine runs_last baseO (Sx.Ends.of (rbLong_p0 N V O) ⟨?oo, ?rr⟩) (by kernel_rfl) rfl (gtL (by decide)) (by decide)
  case oo =>
    refine (okc ?_ okn)
    all_goals ((try simp (disch := omega) only [SS]); first | done | omega | assumption | (simp (disch := omega) only [SS] at *; first | done | omega | assumption) | (simp_all; done))
  case rr =>
    try simp (disch := omega) only [SS]
    repeat' apply And.intro
    all_goals first | exact True.intro | with_reducible rfl | omega | (intros; first | exact True.intro | with_reducible rfl | omega | (simp_all; done)) | (simp_all; done) | rfl

theorem rbStart_p0 (N : Nat) (V O : Ix → Int) :
    isMore (evTill Tryd.prog [] 300 (behind Tryd.f56 0) 900 56 [.code (bodyOf Tryd.f56)] (envOf [vL 60 2 N] Tryd.f56.ntmps) (eE 60 N V O ++ ([])) ⟨[.s false], 80⟩) (moreP (headOf Tryd.f56 0) ([]) Tryd.f56.ntmps ([(4, vS ([0])), (10, vL 60 2 N), (11, vN N), (12, vN (0 : Nat))]) ([]) 180) =
    (OkL [(decide ((↑N : Int) > (120 : Int)), false)] ∧ headOf Tryd.f56 (0 : Nat) = headOf Tryd.f56 (0 : Nat) ∧ ([(0 : UInt8)] = [(0 : UInt8)] ∧ ((0 : Nat) = (0 : Nat) ∧ N = N) ∧ (↑N : Int) = (↑N : Int) ∧ (↑(0 : Nat) : Int) = (0 : Int)) ∧ True) := by kernel_rfl

set_option maxHeartbeats 4000000 in
theorem rbStart (N : Nat) (V O : Ix → Int) (h : N ≤ 120) (v : SV) (L' : HF) (next : RunsTo Tryd.prog 56 (headOf Tryd.f56 0) (envAt Tryd.f56.ntmps ([(4, vS ([0])), (10, vL 60 2 N), (11, vN N), (12, vN (0 : Nat))])) (Sx.look (eE 60 N V O ++ ([]))) 80 (v) (L') 180) :
    RunsTo Tryd.prog 56 [.code (bodyOf Tryd.f56)] (envOf [vL 60 2 N] Tryd.f56.ntmps) (Sx.look (eE 60 N V O ++ ([]))) 80 (v) (L') 180 := by
  refine runs_more baseO (More.of (rbStart_p0 N V O) ⟨?oo, rfl, ?rr⟩) (by kernel_rfl) (by kernel_rfl) rfl (gtL (by decide)) (by decide) next
  case oo =>
    clear next
    refine (okc ?_ okn)
    all_goals ((try simp (disch := omega) only [SS]); first | done | omega | assumption | (simp (disch := omega) only [SS] at *; first | done | omega | assumption) | (simp_all; done))
  case rr =>
    clear next
    try simp (disch := omega) only [SS]
    repeat' apply And.intro
    all_goals first | exact True.intro | with_reducible rfl | omega | (intros; first | exact True.intro | with_reducible rfl | omega | (simp_all; done)) | (simp_all; done) | rfl

theorem rbRound_p0 (N : Nat) (V O : Ix → Int) (a : List UInt8) (i : Nat) :
    isMore (evTill Tryd.prog [] 300 (behind Tryd.f56 0) 900 56 (headOf Tryd.f56 0) (envAt Tryd.f56.ntmps ([(4, vS (a)), (10, vL 60 2 N), (11, vN N), (12, vN (i : Nat))])) (eE 60 N V O ++ ([])) ⟨[.s true, .s true, .s true, .s true, .s false, .s false, .s false, .s false, .t, .s true], 110⟩) (moreP (headOf Tryd.f56 0) ([]) Tryd.f56.ntmps ([(4, vS (a ++ [UInt8.ofNat (V [i]).toNat, UInt8.ofNat (O [i]).toNat])), (10, vL 60 2 N), (11, vN N), (12, vN (i + 1 : Nat))]) ([]) 180) =
    (OkL [(decide ((↑i : Int) < (↑N : Int)), true), (decide ((0 : Int) ≤ (↑i : Int) ∧ (↑i : Int) < (↑N : Int)), true), (((0 : Nat) + (↑i : Int).toNat).blt N, true), (((0 : Nat) + (↑i : Int).toNat).blt N, true), (decide (V [(0 : Nat) + (↑i : Int).toNat] < (251 : Int)), false), (decide (V [(0 : Nat) + (↑i : Int).toNat] > (254 : Int)), false), (decide (O [(0 : Nat) + (↑i : Int).toNat] < (0 : Int)), false), (decide (O [(0 : Nat) + (↑i : Int).toNat] > (255 : Int)), false), (decide (a.length + (bytesOf (upd (upd (fun is => (0 : Int)) [(0 : Nat)] (IntKind.u8.wrap (V [(0 : Nat) + (↑i : Int).toNat]))) [(1 : Nat)] (IntKind.u8.wrap (O [(0 : Nat) + (↑i : Int).toNat]))) [] (0 : Nat) (2 : Nat)).length ≤ (9223372036854775807 : Nat)), true)] ∧ headOf Tryd.f56 (0 : Nat) = headOf Tryd.f56 (0 : Nat) ∧ (a ++ [UInt8.ofNat (V [i]).toNat, UInt8.ofNat (O [i]).toNat] = a ++ bytesOf (upd (upd (fun is => (0 : Int)) [(0 : Nat)] (IntKind.u8.wrap (V [(0 : Nat) + (↑i : Int).toNat]))) [(1 : Nat)] (IntKind.u8.wrap (O [(0 : Nat) + (↑i : Int).toNat]))) [] (0 : Nat) (2 : Nat) ∧ ((0 : Nat) = (0 : Nat) ∧ N = N) ∧ (↑N : Int) = (↑N : Int) ∧ (↑(i + (1 : Nat)) : Int) = IntKind.i64.wrap ((↑i : Int) + (1 : Int))) ∧ True) := by kernel_rfl

set_option maxHeartbeats 4000000 in
theorem rbRound (N : Nat) (V O : Ix → Int) (a : List UInt8) (i : Nat) (hi : i < N) (hN : N ≤ 120) (ha : a.length ≤ 1000) (h1 : 251 ≤ V [i] ∧ V [i] ≤ 254) (h2 : 0 ≤ O [i] ∧ O [i] ≤ 255) (v : SV) (L' : HF) (next : RunsTo Tryd.prog 56 (headOf Tryd.f56 0) (envAt Tryd.f56.ntmps ([(4, vS (a ++ [UInt8.ofNat (V [i]).toNat, UInt8.ofNat (O [i]).toNat])), (10, vL 60 2 N), (11, vN N), (12, vN (i + 1 : Nat))])) (Sx.look (eE 60 N V O ++ ([]))) 80 (v) (L') 180) :
    RunsTo Tryd.prog 56 (headOf Tryd.f56 0) (envAt Tryd.f56.ntmps ([(4, vS (a)), (10, vL 60 2 N), (11, vN N), (12, vN (i : Nat))])) (Sx.look (eE 60 N V O ++ ([]))) 80 (v) (L') 180 := by
  have hw : IntKind.i64.wrap ((i : Int) + 1) = ((i + 1 : Nat) : Int) := by rw [wr64 (by omega)]; rfl
  have u1 : IntKind.u8.wrap (V [i]) = V [i] := u8id (by omega)
  have u2 : IntKind.u8.wrap (O [i]) = O [i] := u8id (by omega)
  have hb : bytesOf (upd (upd (fun _ => (0 : Int)) [0] (IntKind.u8.wrap (V [i]))) [1] (IntKind.u8.wrap (O [i]))) [] 0 2 = [UInt8.ofNat (V [i]).toNat, UInt8.ofNat (O [i]).toNat] := by rw [u1, u2]; simp [bytesOf, List.range_succ, upd]
  refine runs_more baseO (More.of (rbRound_p0 N V O a i) ⟨?oo, rfl, ?rr⟩) (by kernel_rfl) (by kernel_rfl) rfl (gtL (by decide)) (by decide) next
  case oo =>
    clear next
    refine (okc ?_ (okc ?_ (okc ?_ (okc ?_ (okc ?_ (okc ?_ (okc ?_ (okc ?_ (okc ?_ okn)))))))))
    all_goals ((try simp (disch := omega) only [SS, hw, bytesOf_len, List.length_append]); first | done | omega | assumption | (simp (disch := omega) only [SS, hw, bytesOf_len, List.length_append] at *; first | done | omega | assumption) | (simp_all; done))
  case rr =>
    clear next
    simp (disch := omega) only [SS, hw]
    repeat' apply And.intro
    all_goals first | exact True.intro | with_reducible rfl | omega | exact congrArg (fun x => a ++ x) hb.symm | exact congrArg (fun x => a ++ x) hb | (intros; rfl) | (simp_all; done)

theorem rbKind_p0 (N : Nat) (V O : Ix → Int) (a : List UInt8) (i : Nat) :
    isEnd (evTill Tryd.prog [] 300 (99) 900 56 (headOf Tryd.f56 0) (envAt Tryd.f56.ntmps ([(4, vS (a)), (10, vL 60 2 N), (11, vN N), (12, vN (i : Nat))])) (eE 60 N V O ++ ([])) ⟨[.s true, .s true, .s true, .s true, .s false, .s true], 110⟩) (endP ([]) (.tup [(false, .vs fun _ => []), (false, .vi .i64 fun _ => 9)]) ([]) 180) =
    (OkL [(decide ((↑i : Int) < (↑N : Int)), true), (decide ((0 : Int) ≤ (↑i : Int) ∧ (↑i : Int) < (↑N : Int)), true), (((0 : Nat) + (↑i : Int).toNat).blt N, true), (((0 : Nat) + (↑i : Int).toNat).blt N, true), (decide (V [(0 : Nat) + (↑i : Int).toNat] < (251 : Int)), false), (decide (V [(0 : Nat) + (↑i : Int).toNat] > (254 : Int)), true)] ∧ (([] : List UInt8) = [] ∧ (9 : Int) = (9 : Int) ∧ True) ∧ True) := by kernel_rfl
theorem rbKind_p1 (N : Nat) (V O : Ix → Int) (a : List UInt8) (i : Nat) :
    isEnd (evTill Tryd.prog [] 300 (99) 900 56 (headOf Tryd.f56 0) (envAt Tryd.f56.ntmps ([(4, vS (a)), (10, vL 60 2 N), (11, vN N), (12, vN (i : Nat))])) (eE 60 N V O ++ ([])) ⟨[.s true, .s true, .s true, .s true, .s true], 110⟩) (endP ([]) (.tup [(false, .vs fun _ => []), (false, .vi .i64 fun _ => 9)]) ([]) 180) =
    (OkL [(decide ((↑i : Int) < (↑N : Int)), true), (decide ((0 : Int) ≤ (↑i : Int) ∧ (↑i : Int) < (↑N : Int)), true), (((0 : Nat) + (↑i : Int).toNat).blt N, true), (((0 : Nat) + (↑i : Int).toNat).blt N, true), (decide (V [(0 : Nat) + (↑i : Int).toNat] < (251 : Int)), true)] ∧ (([] : List UInt8) = [] ∧ (9 : Int) = (9 : Int) ∧ True) ∧ True) := by kernel_rfl

set_option maxHeartbeats 4000000 in
theorem rbKind (N : Nat) (V O : Ix → Int) (a : List UInt8) (i : Nat) (hi : i < N) (h1 : ¬ (251 ≤ V [i] ∧ V [i] ≤ 254)) :
    RunsTo Tryd.prog 56 (headOf Tryd.f56 0) (envAt Tryd.f56.ntmps ([(4, vS (a)), (10, vL 60 2 N), (11, vN N), (12, vN (i : Nat))])) (Sx.look (eE 60 N V O ++ ([]))) 80 (.tup [(false, .vs fun _ => []), (false, .vi .i64 fun _ => 9)]) (Sx.look ([])) 180 := by
  refine bcase (c := (decide (V [(0 : Nat) + (↑i : Int).toNat] < (251 : Int)))) (fun gg0 => ?_) (fun gg0 => ?_)
  · refine runs_last baseO (Sx.Ends.of (rbKind_p0 N V O a i) ⟨?oo, ?rr⟩) (by kernel_rfl) rfl (gtL (by decide)) (by decide)
    case oo =>
      refine (okc ?_ (okc ?_ (okc ?_ (okc ?_ (okc gg0 (okc ?_ okn))))))
      all_goals ((try simp (disch := omega) only [SS]); first | done | omega | assumption | (simp (disch := omega) only [SS] at *; first | done | omega | assumption) | (simp_all; done))
    case rr =>
      try simp (disch := omega) only [SS]
      repeat' apply And.intro
      all_goals first | exact True.intro | with_reducible rfl | omega | (intros; first | exact True.intro | with_reducible rfl | omega | (simp_all; done)) | (simp_all; done) | rfl
  · refine runs_last baseO (Sx.Ends.of (rbKind_p1 N V O a i) ⟨?oo, ?rr⟩) (by kernel_rfl) rfl (gtL (by decide)) (by decide)
    case oo =>
      refine (okc ?_ (okc ?_ (okc ?_ (okc ?_ (okc gg0 okn)))))
      all_goals ((try simp (disch := omega) only [SS]); first | done | omega | assumption | (simp (disch := omega) only [SS] at *; first | done | omega | assumption) | (simp_all; done))
    case rr =>
      try simp (disch := omega) only [SS]
      repeat' apply And.intro
      all_goals first | exact True.intro | with_reducible rfl | omega | (intros; first | exact True.intro | with_reducible rfl | omega | (simp_all; done)) | (simp_all; done) | rfl

theorem rbRange_p0 (N : Nat) (V O : Ix → Int) (a : List UInt8) (i : Nat) :
    isEnd (evTill Tryd.prog [] 300 (99) 900 56 (headOf Tryd.f56 0) (envAt Tryd.f56.ntmps ([(4, vS (a)), (10, vL 60 2 N), (11, vN N), (12, vN (i : Nat))])) (eE 60 N V O ++ ([])) ⟨[.s true, .s true, .s true, .s true, .s false, .s false, .s false, .s true], 110⟩) (endP ([]) (.tup [(false, .vs fun _ => []), (false, .vi .i64 fun _ => 1)]) ([]) 180) =
    (OkL [(decide ((↑i : Int) < (↑N : Int)), true), (decide ((0 : Int) ≤ (↑i : Int) ∧ (↑i : Int) < (↑N : Int)), true), (((0 : Nat) + (↑i : Int).toNat).blt N, true), (((0 : Nat) + (↑i : Int).toNat).blt N, true), (decide (V [(0 : Nat) + (↑i : Int).toNat] < (251 : Int)), false), (decide (V [(0 : Nat) + (↑i : Int).toNat] > (254 : Int)), false), (decide (O [(0 : Nat) + (↑i : Int).toNat] < (0 : Int)), false), (decide (O [(0 : Nat) + (↑i : Int).toNat] > (255 : Int)), true)] ∧ (([] : List UInt8) = [] ∧ (1 : Int) = (1 : Int) ∧ True) ∧ True) := by kernel_rfl
theorem rbRange_p1 (N : Nat) (V O : Ix → Int) (a : List UInt8) (i : Nat) :
    isEnd (evTill Tryd.prog [] 300 (99) 900 56 (headOf Tryd.f56 0) (envAt Tryd.f56.ntmps ([(4, vS (a)), (10, vL 60 2 N), (11, vN N), (12, vN (i : Nat))])) (eE 60 N V O ++ ([])) ⟨[.s true, .s true, .s true, .s true, .s false, .s false, .s true], 110⟩) (endP ([]) (.tup [(false, .vs fun _ => []), (false, .vi .i64 fun _ => 1)]) ([]) 180) =
    (OkL [(decide ((↑i : Int) < (↑N : Int)), true), (decide ((0 : Int) ≤ (↑i : Int) ∧ (↑i : Int) < (↑N : Int)), true), (((0 : Nat) + (↑i : Int).toNat).blt N, true), (((0 : Nat) + (↑i : Int).toNat).blt N, true), (decide (V [(0 : Nat) + (↑i : Int).toNat] < (251 : Int)), false), (decide (V [(0 : Nat) + (↑i : Int).toNat] > (254 : Int)), false), (decide (O [(0 : Nat) + (↑i : Int).toNat] < (0 : Int)), true)] ∧ (([] : List UInt8) = [] ∧ (1 : Int) = (1 : Int) ∧ True) ∧ True) := by kernel_rfl

set_option maxHeartbeats 4000000 in
theorem rbRange (N : Nat) (V O : Ix → Int) (a : List UInt8) (i : Nat) (hi : i < N) (h1 : 251 ≤ V [i] ∧ V [i] ≤ 254) (h2 : ¬ (0 ≤ O [i] ∧ O [i] ≤ 255)) :
    RunsTo Tryd.prog 56 (headOf Tryd.f56 0) (envAt Tryd.f56.ntmps ([(4, vS (a)), (10, vL 60 2 N), (11, vN N), (12, vN (i : Nat))])) (Sx.look (eE 60 N V O ++ ([]))) 80 (.tup [(false, .vs fun _ => []), (false, .vi .i64 fun _ => 1)]) (Sx.look ([])) 180 := by
  refine bcase (c := (decide (O [(0 : Nat) + (↑i : Int).toNat] < (0 : Int)))) (fun gg0 => ?_) (fun gg0 => ?_)
  · refine runs_last baseO (Sx.Ends.of (rbRange_p0 N V O a i) ⟨?oo, ?rr⟩) (by kernel_rfl) rfl (gtL (by decide)) (by decide)
    case oo =>
      refine (okc ?_ (okc ?_ (okc ?_ (okc ?_ (okc ?_ (okc ?_ (okc gg0 (okc ?_ okn))))))))
      all_goals ((try simp (disch := omega) only [SS]); first | done | omega | assumption | (simp (disch := omega) only [SS] at *; first | done | omega | assumption) | (simp_all; done))
    case rr =>
      try simp (disch := omega) only [SS]
      repeat' apply And.intro
      all_goals first | exact True.intro | with_reducible rfl | omega | (intros; first | exact True.intro | with_reducible rfl | omega | (simp_all; done)) | (simp_all; done) | rfl
  · refine runs_last baseO (Sx.Ends.of (rbRange_p1 N V O a i) ⟨?oo, ?rr⟩) (by kernel_rfl) rfl (gtL (by decide)) (by decide)
    case oo =>
      refine (okc ?_ (okc ?_ (okc ?_ (okc ?_ (okc ?_ (okc ?_ (okc gg0 okn)))))))
      all_goals ((try simp (disch := omega) only [SS]); first | done | omega | assumption | (simp (disch := omega) only [SS] at *; first | done | omega | assumption) | (simp_all; done))
    case rr =>
      try simp (disch := omega) only [SS]
      repeat' apply And.intro
      all_goals first | exact True.intro | with_reducible rfl | omega | (intros; first | exact True.intro | with_reducible rfl | omega | (simp_all; done)) | (simp_all; done) | rfl

theorem rbEnd_p0 (N : Nat) (V O : Ix → Int) (a : List UInt8) (i : Nat) :
    isEnd (evTill Tryd.prog [] 300 (99) 900 56 (headOf Tryd.f56 0) (envAt Tryd.f56.ntmps ([(4, vS (a)), (10, vL 60 2 N), (11, vN N), (12, vN (i : Nat))])) (eE 60 N V O ++ ([])) ⟨[.s false], 110⟩) (endP ([]) (.tup [(false, .vs fun _ => a), (false, .vi .i64 fun _ => 0)]) ([]) 180) =
    (OkL [(decide ((↑i : Int) < (↑N : Int)), false)] ∧ (a = a ∧ (0 : Int) = (0 : Int) ∧ True) ∧ True) := by kernel_rfl

set_option maxHeartbeats 4000000 in
theorem rbEnd (N : Nat) (V O : Ix → Int) (a : List UInt8) (i : Nat) (hi : i = N) :
    RunsTo Tryd.prog 56 (headOf Tryd.f56 0) (envAt Tryd.f56.ntmps ([(4, vS (a)), (10, vL 60 2 N), (11, vN N), (12, vN (i : Nat))])) (Sx.look (eE 60 N V O ++ ([]))) 80 (.tup [(false, .vs fun _ => a), (false, .vi .i64 fun _ => 0)]) (Sx.look ([])) 180 := by
  refine runs_last baseO (Sx.Ends.of (rbEnd_p0 N V O a i) ⟨?oo, ?rr⟩) (by kernel_rfl) rfl (gtL (by decide)) (by decide)
  case oo =>
    refine (okc ?_ okn)
    all_goals ((try simp (disch := omega) only [SS]); first | done | omega | assumption | (simp (disch := omega) only [SS] at *; first | done | omega | assumption) | (simp_all; done))
  case rr =>
    try simp (disch := omega) only [SS]
    repeat' apply And.intro
    all_goals first | exact True.intro | with_reducible rfl | omega | (intros; first | exact True.intro | with_reducible rfl | omega | (simp_all; done)) | (simp_all; done) | rfl

theorem rbI (N : Nat) (V O : Ix → Int) : RunsTo Tryd.prog 56 [.code (bodyOf Tryd.f56)] (envOf [vL 60 2 N] Tryd.f56.ntmps) (Sx.look (eE 60 N V O ++ ([]))) 80 (.tup [(false, .vs fun _ => if 120 < N then [] else if fb V O N 0 = 0 then bodyL V O N else []), (false, .vi .i64 fun _ => if 120 < N then 4 else fb V O N 0)]) (Sx.look []) 180 := by
  by_cases hL : 120 < N
  · rw [if_pos hL, if_pos hL]; exact rbLong N V O hL
  · rw [if_neg hL, if_neg hL]
    have hN : N ≤ 120 := by omega
    refine rbStart N V O hN _ _ ?_
    suffices h : ∀ (k i : Nat), i + k = N → RunsTo Tryd.prog 56 (headOf Tryd.f56 0) (envAt Tryd.f56.ntmps ([(4, vS (bodyL V O i)), (10, vL 60 2 N), (11, vN N), (12, vN (i : Nat))])) (Sx.look (eE 60 N V O ++ ([]))) 80 (.tup [(false, .vs fun _ => if fb V O k i = 0 then bodyL V O N else []), (false, .vi .i64 fun _ => fb V O k i)]) (Sx.look []) 180 from h N 0 (by omega)
    intro k
    induction k with
    | zero =>
      intro i hi
      have : i = N := by omega
      subst this
      simp only [fb, if_true]
      exact rbEnd i V O _ i rfl
    | succ k ih =>
      intro i hi
      have hl := bodyL_len V O i
      by_cases h1 : 251 ≤ V [i] ∧ V [i] ≤ 254
      · by_cases h2 : 0 ≤ O [i] ∧ O [i] ≤ 255
        · have e : fb V O (k + 1) i = fb V O k (i + 1) := by simp only [fb]; rw [if_neg (by rw [okV_iff.2 h1]; simp), if_neg (by rw [okO_iff.2 h2]; simp)]
          rw [e]
          exact rbRound N V O _ i (by omega) hN (by omega) h1 h2 _ _ (ih (i + 1) (by omega))
        · have e : fb V O (k + 1) i = 1 := by
            have : okO (O [i]) = false := by rw [Bool.eq_false_iff]; exact fun x => h2 (okO_iff.1 x)
            simp only [fb]; rw [if_neg (by rw [okV_iff.2 h1]; simp), if_pos this]
          rw [e, if_neg (by omega)]
          exact rbRange N V O _ i (by omega) h1 h2
      · have e : fb V O (k + 1) i = 9 := by
          have : okV (V [i]) = false := by rw [Bool.eq_false_iff]; exact fun x => h1 (okV_iff.1 x)
          simp only [fb]; rw [if_pos this]
        rw [e, if_neg (by omega)]
        exact rbKind N V O _ i (by omega) h1
def rbP : PC := { args := [.v (.vl 60 2 0)], heap := [⟨60, false, 2, .ta 0 (.tc (.vi .i64 1) (.tc (.vi .i64 2) .t0))⟩], gs := [], G := 25, tp := 223, n := 80, n' := 180, cond := fun e => true, v := fun e => .tup [(false, .vs fun _ => if 120 < (eN e 0) then [] else if fb (eI e 1) (eI e 2) (eN e 0) 0 = 0 then bodyL (eI e 1) (eI e 2) (eN e 0) else []), (false, .vi .i64 fun _ => if 120 < (eN e 0) then 4 else fb (eI e 1) (eI e 2) (eN e 0) 0)], post := fun e => [] }
theorem rbP_pc : PC.Runs Tryd.prog 56 Tryd.f56 (bodyOf Tryd.f56) rbP := ⟨Tryd.func56, by kernel_rfl, (fun g hg => by first | (cases hg; done) | (revert g; show ∀ g ∈ ([] : List Nat), g < 25; decide)), fun e H hc => by
  have hc : (true) = true := hc
  try simp only [Bool.and_eq_true, decide_eq_true_eq, Nat.beq_eq] at hc
  exact rbI (eN e 0) (eI e 1) (eI e 2)⟩
end Go.Proofs.YtealbjkhjpmilaaDoor

