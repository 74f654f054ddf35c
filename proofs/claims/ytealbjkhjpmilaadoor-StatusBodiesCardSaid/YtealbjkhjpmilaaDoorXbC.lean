/- Status: what a body says. -/
import Derived.Test.YtealbjkhjpmilaaDoorXaC
set_option linter.unusedSimpArgs false
set_option linter.unusedVariables false
set_option maxRecDepth 100000
namespace Go.Proofs.YtealbjkhjpmilaaDoor
open Go.Sx

open DecR
def pV (B : Ix → Int) : Ix → Int := fun is => B [2 * is.headD 0 + 1]
def pO (B : Ix → Int) : Ix → Int := fun is => B [2 * is.headD 0 + 2]
/-- Are the verbs of k entries from j on verbs? -/
def vb (B : Ix → Int) : Nat → Nat → Bool
  | 0, _ => true
  | k + 1, j => okV (B [2 * j + 1]) && vb B k (j + 1)
def sB (s : List UInt8) : Ix → Int := fun is => ((s.getD (is.headD 0) 0).toNat : Int)
theorem paShort_p0 (t0 t1 t2 t3 : List UInt8) (n : Nat) (B : Ix → Int) :
    isEnd (evTill Tryd.prog [] 300 (99) 900 59 [.code (bodyOf Tryd.f59)] (envOf [vL 60 1 n] Tryd.f59.ntmps) ((sentEnts 25 223 [(3, t0), (4, t1), (0, t2), (5, t3)] ++ [⟨60, false, none, 1, .ta n (.vi .u8 B)⟩]) ++ ([])) ⟨[.s true], 80⟩) (endP ([]) (.tup [(false, .vl0), (false, .vb fun _ => false), (false, .ve 223 (.vp 28 (fun _ => 0) []))]) ([]) 180) =
    (OkL [((↑n : Int) == (0 : Int), true)] ∧ (True ∧ false = false ∧ (0 : Nat) = (0 : Nat) ∧ True) ∧ True) := by kernel_rfl

set_option maxHeartbeats 4000000 in
theorem paShort (t0 t1 t2 t3 : List UInt8) (n : Nat) (B : Ix → Int) (h : n = 0) :
    RunsTo Tryd.prog 59 [.code (bodyOf Tryd.f59)] (envOf [vL 60 1 n] Tryd.f59.ntmps) (Sx.look ((sentEnts 25 223 [(3, t0), (4, t1), (0, t2), (5, t3)] ++ [⟨60, false, none, 1, .ta n (.vi .u8 B)⟩]) ++ ([]))) 80 (.tup [(false, .vl0), (false, .vb fun _ => false), (false, .ve 223 (.vp 28 (fun _ => 0) []))]) (Sx.look ([])) 180 := by
  refine runs_last baseO (Sx.Ends.of (paShort_p0 t0 t1 t2 t3 n B) ⟨?oo, ?rr⟩) (by kernel_rfl) rfl (gtL (by decide)) (by decide)
  case oo =>
    refine (okc ?_ okn)
    all_goals ((try simp (disch := omega) only [SS]); first | done | omega | assumption | (simp (disch := omega) only [SS] at *; first | done | omega | assumption) | (simp_all; done))
  case rr =>
    try simp (disch := omega) only [SS]
    repeat' apply And.intro
    all_goals first | exact True.intro | with_reducible rfl | omega | (intros; first | exact True.intro | with_reducible rfl | omega | (simp_all; done)) | (simp_all; done) | rfl

theorem paLong_p0 (t0 t1 t2 t3 : List UInt8) (n : Nat) (B : Ix → Int) :
    isEnd (evTill Tryd.prog [] 300 (99) 900 59 [.code (bodyOf Tryd.f59)] (envOf [vL 60 1 n] Tryd.f59.ntmps) ((sentEnts 25 223 [(3, t0), (4, t1), (0, t2), (5, t3)] ++ [⟨60, false, none, 1, .ta n (.vi .u8 B)⟩]) ++ ([])) ⟨[.s false, .s true, .s true, .s true, .s true, .s true], 80⟩) (endP ([]) (.tup [(false, .vl0), (false, .vb fun _ => false), (false, .ve 223 (.vp 29 (fun _ => 0) []))]) ([]) 180) =
    (OkL [((↑n : Int) == (0 : Int), false), (decide ((0 : Int) ≤ (0 : Int) ∧ (0 : Int) < (↑n : Int)), true), (Nat.blt (0 : Nat) n, true), (Nat.blt (0 : Nat) n, true), (B [(0 : Nat)] == (1 : Int), true), (decide ((↑n : Int) > (1 : Int)), true)] ∧ (True ∧ false = false ∧ (0 : Nat) = (0 : Nat) ∧ True) ∧ True) := by kernel_rfl

set_option maxHeartbeats 4000000 in
theorem paLong (t0 t1 t2 t3 : List UInt8) (n : Nat) (B : Ix → Int) (h : 1 < n) (h1 : B [0] = 1) :
    RunsTo Tryd.prog 59 [.code (bodyOf Tryd.f59)] (envOf [vL 60 1 n] Tryd.f59.ntmps) (Sx.look ((sentEnts 25 223 [(3, t0), (4, t1), (0, t2), (5, t3)] ++ [⟨60, false, none, 1, .ta n (.vi .u8 B)⟩]) ++ ([]))) 80 (.tup [(false, .vl0), (false, .vb fun _ => false), (false, .ve 223 (.vp 29 (fun _ => 0) []))]) (Sx.look ([])) 180 := by
  refine runs_last baseO (Sx.Ends.of (paLong_p0 t0 t1 t2 t3 n B) ⟨?oo, ?rr⟩) (by kernel_rfl) rfl (gtL (by decide)) (by decide)
  case oo =>
    refine (okc ?_ (okc ?_ (okc ?_ (okc ?_ (okc ?_ (okc ?_ okn))))))
    all_goals ((try simp (disch := omega) only [SS]); first | done | omega | assumption | (simp (disch := omega) only [SS] at *; first | done | omega | assumption) | (simp_all; done))
  case rr =>
    try simp (disch := omega) only [SS]
    repeat' apply And.intro
    all_goals first | exact True.intro | with_reducible rfl | omega | (intros; first | exact True.intro | with_reducible rfl | omega | (simp_all; done)) | (simp_all; done) | rfl

theorem paAsk_p0 (t0 t1 t2 t3 : List UInt8) (n : Nat) (B : Ix → Int) :
    isEnd (evTill Tryd.prog [] 300 (99) 900 59 [.code (bodyOf Tryd.f59)] (envOf [vL 60 1 n] Tryd.f59.ntmps) ((sentEnts 25 223 [(3, t0), (4, t1), (0, t2), (5, t3)] ++ [⟨60, false, none, 1, .ta n (.vi .u8 B)⟩]) ++ ([])) ⟨[.s false, .s true, .s true, .s true, .s true, .s false, .s true, .s true, .s true, .s true], 80⟩) (endP ([]) (.tup [(false, .vl0), (false, .vb fun _ => true), (false, .ve0)]) ([]) 180) =
    (OkL [((↑n : Int) == (0 : Int), false), (decide ((0 : Int) ≤ (0 : Int) ∧ (0 : Int) < (↑n : Int)), true), (Nat.blt (0 : Nat) n, true), (Nat.blt (0 : Nat) n, true), (B [(0 : Nat)] == (1 : Int), true), (decide ((↑n : Int) > (1 : Int)), false), (decide ((0 : Int) ≤ (0 : Int) ∧ (0 : Int) < (↑n : Int)), true), (Nat.blt (0 : Nat) n, true), (Nat.blt (0 : Nat) n, true), (B [(0 : Nat)] == (1 : Int), true)] ∧ (True ∧ true = true ∧ True ∧ True) ∧ True) := by kernel_rfl

set_option maxHeartbeats 4000000 in
theorem paAsk (t0 t1 t2 t3 : List UInt8) (n : Nat) (B : Ix → Int) (h : n = 1) (h1 : B [0] = 1) :
    RunsTo Tryd.prog 59 [.code (bodyOf Tryd.f59)] (envOf [vL 60 1 n] Tryd.f59.ntmps) (Sx.look ((sentEnts 25 223 [(3, t0), (4, t1), (0, t2), (5, t3)] ++ [⟨60, false, none, 1, .ta n (.vi .u8 B)⟩]) ++ ([]))) 80 (.tup [(false, .vl0), (false, .vb fun _ => true), (false, .ve0)]) (Sx.look ([])) 180 := by
  refine runs_last baseO (Sx.Ends.of (paAsk_p0 t0 t1 t2 t3 n B) ⟨?oo, ?rr⟩) (by kernel_rfl) rfl (gtL (by decide)) (by decide)
  case oo =>
    refine (okc ?_ (okc ?_ (okc ?_ (okc ?_ (okc ?_ (okc ?_ (okc ?_ (okc ?_ (okc ?_ (okc ?_ okn))))))))))
    all_goals ((try simp (disch := omega) only [SS]); first | done | omega | assumption | (simp (disch := omega) only [SS] at *; first | done | omega | assumption) | (simp_all; done))
  case rr =>
    try simp (disch := omega) only [SS]
    repeat' apply And.intro
    all_goals first | exact True.intro | with_reducible rfl | omega | (intros; first | exact True.intro | with_reducible rfl | omega | (simp_all; done)) | (simp_all; done) | rfl

theorem paForm_p0 (t0 t1 t2 t3 : List UInt8) (n : Nat) (B : Ix → Int) :
    isEnd (evTill Tryd.prog [] 300 (99) 900 59 [.code (bodyOf Tryd.f59)] (envOf [vL 60 1 n] Tryd.f59.ntmps) ((sentEnts 25 223 [(3, t0), (4, t1), (0, t2), (5, t3)] ++ [⟨60, false, none, 1, .ta n (.vi .u8 B)⟩]) ++ ([])) ⟨[.s false, .s true, .s true, .s true, .s false, .s true, .s true, .s true, .s false, .s true, .s true, .s true, .s true], 80⟩) (endP ([]) (.tup [(false, .vl0), (false, .vb fun _ => false), (false, .ve 223 (.vp 25 (fun _ => 0) []))]) ([]) 180) =
    (OkL [((↑n : Int) == (0 : Int), false), (decide ((0 : Int) ≤ (0 : Int) ∧ (0 : Int) < (↑n : Int)), true), (Nat.blt (0 : Nat) n, true), (Nat.blt (0 : Nat) n, true), (B [(0 : Nat)] == (1 : Int), false), (decide ((0 : Int) ≤ (0 : Int) ∧ (0 : Int) < (↑n : Int)), true), (Nat.blt (0 : Nat) n, true), (Nat.blt (0 : Nat) n, true), (B [(0 : Nat)] == (1 : Int), false), (decide ((0 : Int) ≤ (0 : Int) ∧ (0 : Int) < (↑n : Int)), true), (Nat.blt (0 : Nat) n, true), (Nat.blt (0 : Nat) n, true), (B [(0 : Nat)] != (0 : Int), true)] ∧ (True ∧ false = false ∧ (0 : Nat) = (0 : Nat) ∧ True) ∧ True) := by kernel_rfl

set_option maxHeartbeats 4000000 in
theorem paForm (t0 t1 t2 t3 : List UInt8) (n : Nat) (B : Ix → Int) (h : 0 < n) (h1 : B [0] ≠ 1) (h2 : B [0] ≠ 0) :
    RunsTo Tryd.prog 59 [.code (bodyOf Tryd.f59)] (envOf [vL 60 1 n] Tryd.f59.ntmps) (Sx.look ((sentEnts 25 223 [(3, t0), (4, t1), (0, t2), (5, t3)] ++ [⟨60, false, none, 1, .ta n (.vi .u8 B)⟩]) ++ ([]))) 80 (.tup [(false, .vl0), (false, .vb fun _ => false), (false, .ve 223 (.vp 25 (fun _ => 0) []))]) (Sx.look ([])) 180 := by
  refine runs_last baseO (Sx.Ends.of (paForm_p0 t0 t1 t2 t3 n B) ⟨?oo, ?rr⟩) (by kernel_rfl) rfl (gtL (by decide)) (by decide)
  case oo =>
    refine (okc ?_ (okc ?_ (okc ?_ (okc ?_ (okc ?_ (okc ?_ (okc ?_ (okc ?_ (okc ?_ (okc ?_ (okc ?_ (okc ?_ (okc ?_ okn)))))))))))))
    all_goals ((try simp (disch := omega) only [SS]); first | done | omega | assumption | (simp (disch := omega) only [SS] at *; first | done | omega | assumption) | (simp_all; done))
  case rr =>
    try simp (disch := omega) only [SS]
    repeat' apply And.intro
    all_goals first | exact True.intro | with_reducible rfl | omega | (intros; first | exact True.intro | with_reducible rfl | omega | (simp_all; done)) | (simp_all; done) | rfl

theorem paEven_p0 (t0 t1 t2 t3 : List UInt8) (n : Nat) (B : Ix → Int) :
    isEnd (evTill Tryd.prog [] 300 (99) 900 59 [.code (bodyOf Tryd.f59)] (envOf [vL 60 1 n] Tryd.f59.ntmps) ((sentEnts 25 223 [(3, t0), (4, t1), (0, t2), (5, t3)] ++ [⟨60, false, none, 1, .ta n (.vi .u8 B)⟩]) ++ ([])) ⟨[.s false, .s true, .s true, .s true, .s false, .s true, .s true, .s true, .s false, .s true, .s true, .s true, .s false, .t, .s true], 80⟩) (endP ([]) (.tup [(false, .vl0), (false, .vb fun _ => false), (false, .ve 223 (.vp 28 (fun _ => 0) []))]) ([]) 180) =
    (OkL [((↑n : Int) == (0 : Int), false), (decide ((0 : Int) ≤ (0 : Int) ∧ (0 : Int) < (↑n : Int)), true), (Nat.blt (0 : Nat) n, true), (Nat.blt (0 : Nat) n, true), (B [(0 : Nat)] == (1 : Int), false), (decide ((0 : Int) ≤ (0 : Int) ∧ (0 : Int) < (↑n : Int)), true), (Nat.blt (0 : Nat) n, true), (Nat.blt (0 : Nat) n, true), (B [(0 : Nat)] == (1 : Int), false), (decide ((0 : Int) ≤ (0 : Int) ∧ (0 : Int) < (↑n : Int)), true), (Nat.blt (0 : Nat) n, true), (Nat.blt (0 : Nat) n, true), (B [(0 : Nat)] != (0 : Int), false), ((↑n : Int).tmod (2 : Int) == (0 : Int), true)] ∧ (True ∧ false = false ∧ (0 : Nat) = (0 : Nat) ∧ True) ∧ True) := by kernel_rfl

set_option maxHeartbeats 4000000 in
theorem paEven (t0 t1 t2 t3 : List UInt8) (n : Nat) (B : Ix → Int) (h : 0 < n) (h2 : B [0] = 0) (h3 : n % 2 = 0) :
    RunsTo Tryd.prog 59 [.code (bodyOf Tryd.f59)] (envOf [vL 60 1 n] Tryd.f59.ntmps) (Sx.look ((sentEnts 25 223 [(3, t0), (4, t1), (0, t2), (5, t3)] ++ [⟨60, false, none, 1, .ta n (.vi .u8 B)⟩]) ++ ([]))) 80 (.tup [(false, .vl0), (false, .vb fun _ => false), (false, .ve 223 (.vp 28 (fun _ => 0) []))]) (Sx.look ([])) 180 := by
  have tm : (n : Int).tmod 2 = ((n % 2 : Nat) : Int) := tmN n 2
  have w2 : IntKind.i64.wrap ((n % 2 : Nat) : Int) = ((n % 2 : Nat) : Int) := wr64 (by omega)
  refine runs_last baseO (Sx.Ends.of (paEven_p0 t0 t1 t2 t3 n B) ⟨?oo, ?rr⟩) (by kernel_rfl) rfl (gtL (by decide)) (by decide)
  case oo =>
    refine (okc ?_ (okc ?_ (okc ?_ (okc ?_ (okc ?_ (okc ?_ (okc ?_ (okc ?_ (okc ?_ (okc ?_ (okc ?_ (okc ?_ (okc ?_ (okc ?_ okn))))))))))))))
    all_goals ((try simp (disch := omega) only [SS, tm, w2, h2, h3]); first | done | omega | assumption | (simp (disch := omega) only [SS, tm, w2, h2, h3] at *; first | done | omega | assumption) | (simp_all; done))
  case rr =>
    try simp (disch := omega) only [SS, tm, w2, h2, h3]
    repeat' apply And.intro
    all_goals first | exact True.intro | with_reducible rfl | omega | (intros; first | exact True.intro | with_reducible rfl | omega | (simp_all; done)) | (simp_all; done) | rfl

theorem paStart_p0 (t0 t1 t2 t3 : List UInt8) (n : Nat) (B : Ix → Int) :
    isMore (evTill Tryd.prog [] 300 (behind Tryd.f59 0) 900 59 [.code (bodyOf Tryd.f59)] (envOf [vL 60 1 n] Tryd.f59.ntmps) ((sentEnts 25 223 [(3, t0), (4, t1), (0, t2), (5, t3)] ++ [⟨60, false, none, 1, .ta n (.vi .u8 B)⟩]) ++ ([])) ⟨[.s false, .s true, .s true, .s true, .s false, .s true, .s true, .s true, .s false, .s true, .s true, .s true, .s false, .t, .s false], 80⟩) (moreP (headOf Tryd.f59 0) ([((101 : Nat), Rn.nil (2 : Nat))]) Tryd.f59.ntmps ([(0, vL 60 1 n), (2, vL 101 2 (0)), (5, vN ((2 * (0) + 1 : Nat) : Int))]) (eW 101 (0) (pV B) (pO B)) 180) =
    (OkL [((↑n : Int) == (0 : Int), false), (decide ((0 : Int) ≤ (0 : Int) ∧ (0 : Int) < (↑n : Int)), true), (Nat.blt (0 : Nat) n, true), (Nat.blt (0 : Nat) n, true), (B [(0 : Nat)] == (1 : Int), false), (decide ((0 : Int) ≤ (0 : Int) ∧ (0 : Int) < (↑n : Int)), true), (Nat.blt (0 : Nat) n, true), (Nat.blt (0 : Nat) n, true), (B [(0 : Nat)] == (1 : Int), false), (decide ((0 : Int) ≤ (0 : Int) ∧ (0 : Int) < (↑n : Int)), true), (Nat.blt (0 : Nat) n, true), (Nat.blt (0 : Nat) n, true), (B [(0 : Nat)] != (0 : Int), false), ((↑n : Int).tmod (2 : Int) == (0 : Int), false)] ∧ headOf Tryd.f59 (0 : Nat) = headOf Tryd.f59 (0 : Nat) ∧ (((0 : Nat) = (0 : Nat) ∧ n = n) ∧ (0 : Nat) = (0 : Nat) ∧ (↑(1 : Nat) : Int) = (1 : Int)) ∧ (0 : Nat) = (0 : Nat)) := by kernel_rfl

set_option maxHeartbeats 4000000 in
theorem paStart (t0 t1 t2 t3 : List UInt8) (n : Nat) (B : Ix → Int) (h2 : B [0] = 0) (h3 : n % 2 = 1) (v : SV) (L' : HF) (next : RunsTo Tryd.prog 59 (headOf Tryd.f59 0) (envAt Tryd.f59.ntmps ([(0, vL 60 1 n), (2, vL 101 2 (0)), (5, vN ((2 * (0) + 1 : Nat) : Int))])) (Sx.look ((sentEnts 25 223 [(3, t0), (4, t1), (0, t2), (5, t3)] ++ [⟨60, false, none, 1, .ta n (.vi .u8 B)⟩]) ++ (eW 101 (0) (pV B) (pO B)))) 80 (v) (L') 180) :
    RunsTo Tryd.prog 59 [.code (bodyOf Tryd.f59)] (envOf [vL 60 1 n] Tryd.f59.ntmps) (Sx.look ((sentEnts 25 223 [(3, t0), (4, t1), (0, t2), (5, t3)] ++ [⟨60, false, none, 1, .ta n (.vi .u8 B)⟩]) ++ ([]))) 80 (v) (L') 180 := by
  have tm : (n : Int).tmod 2 = ((n % 2 : Nat) : Int) := tmN n 2
  have w2 : IntKind.i64.wrap ((n % 2 : Nat) : Int) = ((n % 2 : Nat) : Int) := wr64 (by omega)
  refine runs_more baseO (More.of (paStart_p0 t0 t1 t2 t3 n B) ⟨?oo, rfl, ?rr⟩) (by kernel_rfl) (by kernel_rfl) rfl (gtL (by decide)) (by decide) next
  case oo =>
    clear next
    refine (okc ?_ (okc ?_ (okc ?_ (okc ?_ (okc ?_ (okc ?_ (okc ?_ (okc ?_ (okc ?_ (okc ?_ (okc ?_ (okc ?_ (okc ?_ (okc ?_ okn))))))))))))))
    all_goals ((try simp (disch := omega) only [SS, tm, w2, h2, h3]); first | done | omega | assumption | (simp (disch := omega) only [SS, tm, w2, h2, h3] at *; first | done | omega | assumption) | (simp_all; done))
  case rr =>
    clear next
    try simp (disch := omega) only [SS, tm, w2, h2, h3]
    repeat' apply And.intro
    all_goals first | exact True.intro | with_reducible rfl | omega | (intros; first | exact True.intro | with_reducible rfl | omega | (simp_all; done)) | (simp_all; done) | rfl

theorem paRound_p0 (t0 t1 t2 t3 : List UInt8) (n : Nat) (B : Ix → Int) (j : Nat) :
    isMore (evTill Tryd.prog [] 300 (behind Tryd.f59 0) 900 59 (headOf Tryd.f59 0) (envAt Tryd.f59.ntmps ([(0, vL 60 1 n), (2, vL 101 2 (j)), (5, vN ((2 * (j) + 1 : Nat) : Int))])) ((sentEnts 25 223 [(3, t0), (4, t1), (0, t2), (5, t3)] ++ [⟨60, false, none, 1, .ta n (.vi .u8 B)⟩]) ++ (eW 101 (j) (pV B) (pO B))) ⟨[.s true, .s true, .s true, .s true, .s true, .s true, .s true, .s true, .s false, .t, .s true, .s true], 110⟩) (moreP (headOf Tryd.f59 0) ([((101 : Nat), Rn.to (112 : Nat))]) Tryd.f59.ntmps ([(0, vL 60 1 n), (2, vL 101 2 (j + 1)), (5, vN ((2 * (j + 1) + 1 : Nat) : Int))]) (eW 101 (j + 1) (pV B) (pO B)) 180) =
    (OkL [(decide ((↑((2 : Nat) * j + (1 : Nat)) : Int) < (↑n : Int)), true), (decide ((0 : Int) ≤ (↑((2 : Nat) * j + (1 : Nat)) : Int) ∧ (↑((2 : Nat) * j + (1 : Nat)) : Int) < (↑n : Int)), true), (((0 : Nat) + (↑((2 : Nat) * j + (1 : Nat)) : Int).toNat).blt n, true), (((0 : Nat) + (↑((2 : Nat) * j + (1 : Nat)) : Int).toNat).blt n, true), (decide ((0 : Int) ≤ IntKind.i64.wrap ((↑((2 : Nat) * j + (1 : Nat)) : Int) + (1 : Int)) ∧ IntKind.i64.wrap ((↑((2 : Nat) * j + (1 : Nat)) : Int) + (1 : Int)) < (↑n : Int)), true), (((0 : Nat) + (IntKind.i64.wrap ((↑((2 : Nat) * j + (1 : Nat)) : Int) + (1 : Int))).toNat).blt n, true), (((0 : Nat) + (IntKind.i64.wrap ((↑((2 : Nat) * j + (1 : Nat)) : Int) + (1 : Int))).toNat).blt n, true), (decide (IntKind.i64.wrap (B [(0 : Nat) + (↑((2 : Nat) * j + (1 : Nat)) : Int).toNat]) ≥ (251 : Int)), true), (!decide (IntKind.i64.wrap (B [(0 : Nat) + (↑((2 : Nat) * j + (1 : Nat)) : Int).toNat]) ≤ (254 : Int)), false), (((0 : Nat) + j).ble j, true), (decide (((2 : Nat) * (j + (1 : Nat)) + (192 : Nat)) * (16 : Nat) ≤ (281474976710656 : Nat)), true)] ∧ headOf Tryd.f59 (0 : Nat) = headOf Tryd.f59 (0 : Nat) ∧ (((0 : Nat) = (0 : Nat) ∧ n = n) ∧ ((0 : Nat) = (0 : Nat) ∧ j + (1 : Nat) = j + (1 : Nat)) ∧ (↑((2 : Nat) * (j + (1 : Nat)) + (1 : Nat)) : Int) = IntKind.i64.wrap ((↑((2 : Nat) * j + (1 : Nat)) : Int) + (2 : Int))) ∧ j + (1 : Nat) = j + (1 : Nat) ∧ (∀ (i : Nat), i < j + (1 : Nat) → pV B [i] = appF j (0 : Nat) (pV B) (fun js => IntKind.i64.wrap (B [(0 : Nat) + (↑((2 : Nat) * j + (1 : Nat)) : Int).toNat])) [i]) ∧ ∀ (i : Nat), i < j + (1 : Nat) → pO B [i] = appF j (0 : Nat) (pO B) (fun js => IntKind.i64.wrap (B [(0 : Nat) + (IntKind.i64.wrap ((↑((2 : Nat) * j + (1 : Nat)) : Int) + (1 : Int))).toNat])) [i]) := by kernel_rfl

set_option maxHeartbeats 4000000 in
theorem paRound (t0 t1 t2 t3 : List UInt8) (n : Nat) (B : Ix → Int) (j : Nat) (h : 2 * j + 2 < n) (hn : n ≤ 1000) (h1 : 251 ≤ B [2 * j + 1] ∧ B [2 * j + 1] ≤ 254) (h2 : 0 ≤ B [2 * j + 2] ∧ B [2 * j + 2] < 256) (v : SV) (L' : HF) (next : RunsTo Tryd.prog 59 (headOf Tryd.f59 0) (envAt Tryd.f59.ntmps ([(0, vL 60 1 n), (2, vL 101 2 (j + 1)), (5, vN ((2 * (j + 1) + 1 : Nat) : Int))])) (Sx.look ((sentEnts 25 223 [(3, t0), (4, t1), (0, t2), (5, t3)] ++ [⟨60, false, none, 1, .ta n (.vi .u8 B)⟩]) ++ (eW 101 (j + 1) (pV B) (pO B)))) 80 (v) (L') 180) :
    RunsTo Tryd.prog 59 (headOf Tryd.f59 0) (envAt Tryd.f59.ntmps ([(0, vL 60 1 n), (2, vL 101 2 (j)), (5, vN ((2 * (j) + 1 : Nat) : Int))])) (Sx.look ((sentEnts 25 223 [(3, t0), (4, t1), (0, t2), (5, t3)] ++ [⟨60, false, none, 1, .ta n (.vi .u8 B)⟩]) ++ (eW 101 (j) (pV B) (pO B)))) 80 (v) (L') 180 := by
  have w1 : IntKind.i64.wrap (((2 * j + 1 : Nat) : Int) + 1) = ((2 * j + 2 : Nat) : Int) := by rw [wr64 (by omega)]; omega
  have w2 : IntKind.i64.wrap (((2 * j + 1 : Nat) : Int) + 2) = ((2 * (j + 1) + 1 : Nat) : Int) := by rw [wr64 (by omega)]; omega
  have a1 : IntKind.i64.wrap (B [2 * j + 1]) = B [2 * j + 1] := wr64 (by omega)
  have a2 : IntKind.i64.wrap (B [2 * j + 2]) = B [2 * j + 2] := wr64 (by omega)
  refine runs_more baseO (More.of (paRound_p0 t0 t1 t2 t3 n B j) ⟨?oo, rfl, ?rr⟩) (by kernel_rfl) (by kernel_rfl) rfl (gtL (by decide)) (by decide) next
  case oo =>
    clear next
    refine (okc ?_ (okc ?_ (okc ?_ (okc ?_ (okc ?_ (okc ?_ (okc ?_ (okc ?_ (okc ?_ (okc ?_ (okc ?_ okn)))))))))))
    all_goals ((try simp (disch := omega) only [SS, w1, w2, a1, a2, Int.toNat_natCast, Nat.zero_add]); first | done | omega | assumption | (simp (disch := omega) only [SS, w1, w2, a1, a2, Int.toNat_natCast, Nat.zero_add] at *; first | done | omega | assumption) | (simp_all; done))
  case rr =>
    clear next
    simp (disch := omega) only [SS, w1, w2, a1, a2, Int.toNat_natCast, Nat.zero_add, Go.Sx.sum]
    repeat' apply And.intro
    all_goals first | exact True.intro | with_reducible rfl | omega | exact app_one (pV B) _ _ a1 | exact app_one (pO B) _ _ a2 | exact app_one (pV B) _ _ rfl | exact app_one (pO B) _ _ rfl | (intros; rfl) | (simp_all; done)

theorem paKind_p0 (t0 t1 t2 t3 : List UInt8) (n : Nat) (B : Ix → Int) (j : Nat) :
    isEnd (evTill Tryd.prog [] 300 (99) 900 59 (headOf Tryd.f59 0) (envAt Tryd.f59.ntmps ([(0, vL 60 1 n), (2, vL 101 2 (j)), (5, vN ((2 * (j) + 1 : Nat) : Int))])) ((sentEnts 25 223 [(3, t0), (4, t1), (0, t2), (5, t3)] ++ [⟨60, false, none, 1, .ta n (.vi .u8 B)⟩]) ++ (eW 101 (j) (pV B) (pO B))) ⟨[.s true, .s true, .s true, .s true, .s true, .s true, .s true, .s false, .t], 110⟩) (endP ([]) (.tup [(false, .vl0), (false, .vb fun _ => false), (false, .ve 223 (.vp 30 (fun _ => 0) []))]) ([]) 180) =
    (OkL [(decide ((↑((2 : Nat) * j + (1 : Nat)) : Int) < (↑n : Int)), true), (decide ((0 : Int) ≤ (↑((2 : Nat) * j + (1 : Nat)) : Int) ∧ (↑((2 : Nat) * j + (1 : Nat)) : Int) < (↑n : Int)), true), (((0 : Nat) + (↑((2 : Nat) * j + (1 : Nat)) : Int).toNat).blt n, true), (((0 : Nat) + (↑((2 : Nat) * j + (1 : Nat)) : Int).toNat).blt n, true), (decide ((0 : Int) ≤ IntKind.i64.wrap ((↑((2 : Nat) * j + (1 : Nat)) : Int) + (1 : Int)) ∧ IntKind.i64.wrap ((↑((2 : Nat) * j + (1 : Nat)) : Int) + (1 : Int)) < (↑n : Int)), true), (((0 : Nat) + (IntKind.i64.wrap ((↑((2 : Nat) * j + (1 : Nat)) : Int) + (1 : Int))).toNat).blt n, true), (((0 : Nat) + (IntKind.i64.wrap ((↑((2 : Nat) * j + (1 : Nat)) : Int) + (1 : Int))).toNat).blt n, true), (decide (IntKind.i64.wrap (B [(0 : Nat) + (↑((2 : Nat) * j + (1 : Nat)) : Int).toNat]) ≥ (251 : Int)), false)] ∧ (True ∧ false = false ∧ (0 : Nat) = (0 : Nat) ∧ True) ∧ True) := by kernel_rfl
theorem paKind_p1 (t0 t1 t2 t3 : List UInt8) (n : Nat) (B : Ix → Int) (j : Nat) :
    isEnd (evTill Tryd.prog [] 300 (99) 900 59 (headOf Tryd.f59 0) (envAt Tryd.f59.ntmps ([(0, vL 60 1 n), (2, vL 101 2 (j)), (5, vN ((2 * (j) + 1 : Nat) : Int))])) ((sentEnts 25 223 [(3, t0), (4, t1), (0, t2), (5, t3)] ++ [⟨60, false, none, 1, .ta n (.vi .u8 B)⟩]) ++ (eW 101 (j) (pV B) (pO B))) ⟨[.s true, .s true, .s true, .s true, .s true, .s true, .s true, .s true, .s true], 110⟩) (endP ([]) (.tup [(false, .vl0), (false, .vb fun _ => false), (false, .ve 223 (.vp 30 (fun _ => 0) []))]) ([]) 180) =
    (OkL [(decide ((↑((2 : Nat) * j + (1 : Nat)) : Int) < (↑n : Int)), true), (decide ((0 : Int) ≤ (↑((2 : Nat) * j + (1 : Nat)) : Int) ∧ (↑((2 : Nat) * j + (1 : Nat)) : Int) < (↑n : Int)), true), (((0 : Nat) + (↑((2 : Nat) * j + (1 : Nat)) : Int).toNat).blt n, true), (((0 : Nat) + (↑((2 : Nat) * j + (1 : Nat)) : Int).toNat).blt n, true), (decide ((0 : Int) ≤ IntKind.i64.wrap ((↑((2 : Nat) * j + (1 : Nat)) : Int) + (1 : Int)) ∧ IntKind.i64.wrap ((↑((2 : Nat) * j + (1 : Nat)) : Int) + (1 : Int)) < (↑n : Int)), true), (((0 : Nat) + (IntKind.i64.wrap ((↑((2 : Nat) * j + (1 : Nat)) : Int) + (1 : Int))).toNat).blt n, true), (((0 : Nat) + (IntKind.i64.wrap ((↑((2 : Nat) * j + (1 : Nat)) : Int) + (1 : Int))).toNat).blt n, true), (decide (IntKind.i64.wrap (B [(0 : Nat) + (↑((2 : Nat) * j + (1 : Nat)) : Int).toNat]) ≥ (251 : Int)), true), (!decide (IntKind.i64.wrap (B [(0 : Nat) + (↑((2 : Nat) * j + (1 : Nat)) : Int).toNat]) ≤ (254 : Int)), true)] ∧ (True ∧ false = false ∧ (0 : Nat) = (0 : Nat) ∧ True) ∧ True) := by kernel_rfl

set_option maxHeartbeats 4000000 in
theorem paKind (t0 t1 t2 t3 : List UInt8) (n : Nat) (B : Ix → Int) (j : Nat) (h : 2 * j + 1 < n) (ho : n % 2 = 1) (hn : n ≤ 1000) (hB : 0 ≤ B [2 * j + 1] ∧ B [2 * j + 1] < 256) (hC : 0 ≤ B [2 * j + 2] ∧ B [2 * j + 2] < 256) (h1 : B [2 * j + 1] < 251 ∨ 254 < B [2 * j + 1]) :
    RunsTo Tryd.prog 59 (headOf Tryd.f59 0) (envAt Tryd.f59.ntmps ([(0, vL 60 1 n), (2, vL 101 2 (j)), (5, vN ((2 * (j) + 1 : Nat) : Int))])) (Sx.look ((sentEnts 25 223 [(3, t0), (4, t1), (0, t2), (5, t3)] ++ [⟨60, false, none, 1, .ta n (.vi .u8 B)⟩]) ++ (eW 101 (j) (pV B) (pO B)))) 80 (.tup [(false, .vl0), (false, .vb fun _ => false), (false, .ve 223 (.vp 30 (fun _ => 0) []))]) (Sx.look ([])) 180 := by
  have w1 : IntKind.i64.wrap (((2 * j + 1 : Nat) : Int) + 1) = ((2 * j + 2 : Nat) : Int) := by rw [wr64 (by omega)]; omega
  have w2 : IntKind.i64.wrap (((2 * j + 1 : Nat) : Int) + 2) = ((2 * (j + 1) + 1 : Nat) : Int) := by rw [wr64 (by omega)]; omega
  have a1 : IntKind.i64.wrap (B [2 * j + 1]) = B [2 * j + 1] := wr64 (by omega)
  have a2 : IntKind.i64.wrap (B [2 * j + 2]) = B [2 * j + 2] := wr64 (by omega)
  refine bcase (c := (decide (IntKind.i64.wrap (B [(0 : Nat) + (↑((2 : Nat) * j + (1 : Nat)) : Int).toNat]) ≥ (251 : Int)))) (fun gg0 => ?_) (fun gg0 => ?_)
  · refine runs_last baseO (Sx.Ends.of (paKind_p0 t0 t1 t2 t3 n B j) ⟨?oo, ?rr⟩) (by kernel_rfl) rfl (gtL (by decide)) (by decide)
    case oo =>
      refine (okc ?_ (okc ?_ (okc ?_ (okc ?_ (okc ?_ (okc ?_ (okc ?_ (okc gg0 okn))))))))
      all_goals ((try simp (disch := omega) only [SS, w1, w2, a1, a2, Int.toNat_natCast, Nat.zero_add]); first | done | omega | assumption | (simp (disch := omega) only [SS, w1, w2, a1, a2, Int.toNat_natCast, Nat.zero_add] at *; first | done | omega | assumption) | (simp_all; done))
    case rr =>
      try simp (disch := omega) only [SS, w1, w2, a1, a2, Int.toNat_natCast, Nat.zero_add]
      repeat' apply And.intro
      all_goals first | exact True.intro | with_reducible rfl | omega | (intros; first | exact True.intro | with_reducible rfl | omega | (simp_all; done)) | (simp_all; done) | rfl
  · refine runs_last baseO (Sx.Ends.of (paKind_p1 t0 t1 t2 t3 n B j) ⟨?oo, ?rr⟩) (by kernel_rfl) rfl (gtL (by decide)) (by decide)
    case oo =>
      refine (okc ?_ (okc ?_ (okc ?_ (okc ?_ (okc ?_ (okc ?_ (okc ?_ (okc gg0 (okc ?_ okn)))))))))
      all_goals ((try simp (disch := omega) only [SS, w1, w2, a1, a2, Int.toNat_natCast, Nat.zero_add]); first | done | omega | assumption | (simp (disch := omega) only [SS, w1, w2, a1, a2, Int.toNat_natCast, Nat.zero_add] at *; first | done | omega | assumption) | (simp_all; done))
    case rr =>
      try simp (disch := omega) only [SS, w1, w2, a1, a2, Int.toNat_natCast, Nat.zero_add]
      repeat' apply And.intro
      all_goals first | exact True.intro | with_reducible rfl | omega | (intros; first | exact True.intro | with_reducible rfl | omega | (simp_all; done)) | (simp_all; done) | rfl

theorem paEnd_p0 (t0 t1 t2 t3 : List UInt8) (n : Nat) (B : Ix → Int) (j : Nat) :
    isEnd (evTill Tryd.prog [] 300 (99) 900 59 (headOf Tryd.f59 0) (envAt Tryd.f59.ntmps ([(0, vL 60 1 n), (2, vL 101 2 (j)), (5, vN ((2 * (j) + 1 : Nat) : Int))])) ((sentEnts 25 223 [(3, t0), (4, t1), (0, t2), (5, t3)] ++ [⟨60, false, none, 1, .ta n (.vi .u8 B)⟩]) ++ (eW 101 (j) (pV B) (pO B))) ⟨[.s false], 110⟩) (endP ([]) (.tup [(false, .vl 101 (fun _ => 0) 2 [] (fun _ => j)), (false, .vb fun _ => false), (false, .ve0)]) (eW 101 (j) (pV B) (pO B)) 180) =
    (OkL [(decide ((↑((2 : Nat) * j + (1 : Nat)) : Int) < (↑n : Int)), false)] ∧ (((0 : Nat) = (0 : Nat) ∧ j = j) ∧ false = false ∧ True ∧ True) ∧ j = j ∧ (∀ (i : Nat), i < j → pV B [i] = pV B [i]) ∧ ∀ (i : Nat), i < j → pO B [i] = pO B [i]) := by kernel_rfl

set_option maxHeartbeats 4000000 in
theorem paEnd (t0 t1 t2 t3 : List UInt8) (n : Nat) (B : Ix → Int) (j : Nat) (h : n ≤ 2 * j + 1) :
    RunsTo Tryd.prog 59 (headOf Tryd.f59 0) (envAt Tryd.f59.ntmps ([(0, vL 60 1 n), (2, vL 101 2 (j)), (5, vN ((2 * (j) + 1 : Nat) : Int))])) (Sx.look ((sentEnts 25 223 [(3, t0), (4, t1), (0, t2), (5, t3)] ++ [⟨60, false, none, 1, .ta n (.vi .u8 B)⟩]) ++ (eW 101 (j) (pV B) (pO B)))) 80 (.tup [(false, .vl 101 (fun _ => 0) 2 [] (fun _ => j)), (false, .vb fun _ => false), (false, .ve0)]) (Sx.look (eW 101 (j) (pV B) (pO B))) 180 := by
  refine runs_last baseO (Sx.Ends.of (paEnd_p0 t0 t1 t2 t3 n B j) ⟨?oo, ?rr⟩) (by kernel_rfl) rfl (gtL (by decide)) (by decide)
  case oo =>
    refine (okc ?_ okn)
    all_goals ((try simp (disch := omega) only [SS]); first | done | omega | assumption | (simp (disch := omega) only [SS] at *; first | done | omega | assumption) | (simp_all; done))
  case rr =>
    try simp (disch := omega) only [SS]
    repeat' apply And.intro
    all_goals first | exact True.intro | with_reducible rfl | omega | (intros; first | exact True.intro | with_reducible rfl | omega | (simp_all; done)) | (simp_all; done) | rfl

theorem paL (t0 t1 t2 t3 : List UInt8) (n : Nat) (B : Ix → Int) (ho : n % 2 = 1) (hn : n ≤ 1000) (hB : ∀ i, i < n → 0 ≤ B [i] ∧ B [i] < 256) : ∀ (k j : Nat), 2 * (j + k) + 1 = n →
    (vb B k j = true → RunsTo Tryd.prog 59 (headOf Tryd.f59 0) (envAt Tryd.f59.ntmps ([(0, vL 60 1 n), (2, vL 101 2 (j)), (5, vN ((2 * (j) + 1 : Nat) : Int))])) (Sx.look ((sentEnts 25 223 [(3, t0), (4, t1), (0, t2), (5, t3)] ++ [⟨60, false, none, 1, .ta n (.vi .u8 B)⟩]) ++ (eW 101 (j) (pV B) (pO B)))) 80 (.tup [(false, .vl 101 (fun _ => 0) 2 [] (fun _ => (n - 1) / 2)), (false, .vb fun _ => false), (false, .ve0)]) (Sx.look (eW 101 ((n - 1) / 2) (pV B) (pO B))) 180) ∧ (vb B k j = false → RunsTo Tryd.prog 59 (headOf Tryd.f59 0) (envAt Tryd.f59.ntmps ([(0, vL 60 1 n), (2, vL 101 2 (j)), (5, vN ((2 * (j) + 1 : Nat) : Int))])) (Sx.look ((sentEnts 25 223 [(3, t0), (4, t1), (0, t2), (5, t3)] ++ [⟨60, false, none, 1, .ta n (.vi .u8 B)⟩]) ++ (eW 101 (j) (pV B) (pO B)))) 80 (.tup [(false, .vl0), (false, .vb fun _ => false), (false, .ve 223 (.vp 30 (fun _ => 0) []))]) (Sx.look []) 180) := by
  intro k
  induction k with
  | zero =>
    intro j hj
    refine ⟨fun _ => ?_, fun h => by cases h⟩
    have : (n - 1) / 2 = j := by omega
    rw [this]
    exact paEnd t0 t1 t2 t3 n B j (by omega)
  | succ k ih =>
    intro j hj
    have b1 := hB (2 * j + 1) (by omega)
    have b2 := hB (2 * j + 2) (by omega)
    by_cases h1 : 251 ≤ B [2 * j + 1] ∧ B [2 * j + 1] ≤ 254
    · have e : vb B (k + 1) j = vb B k (j + 1) := by simp only [vb]; rw [okV_iff.2 h1, Bool.true_and]
      rw [e]
      obtain ⟨a, b⟩ := ih (j + 1) (by omega)
      exact ⟨fun h => paRound t0 t1 t2 t3 n B j (by omega) hn h1 b2 _ _ (a h), fun h => paRound t0 t1 t2 t3 n B j (by omega) hn h1 b2 _ _ (b h)⟩
    · have e : vb B (k + 1) j = false := by
        have : okV (B [2 * j + 1]) = false := by rw [Bool.eq_false_iff]; exact fun x => h1 (okV_iff.1 x)
        simp only [vb]; rw [this, Bool.false_and]
      rw [e]
      exact ⟨fun h => (by cases h), fun _ => paKind t0 t1 t2 t3 n B j (by omega) ho hn b1 b2 (by omega)⟩
def paShP : PC := { args := [.v (.vl 60 1 0)], heap := [⟨60, false, 1, .ta 0 (.vi .u8 1)⟩], gs := [3, 4, 0, 5], G := 25, tp := 223, n := 80, n' := 180, cond := fun e => decide (eN e 0 = 0), v := fun e => .tup [(false, .vl0), (false, .vb fun _ => false), (false, .ve 223 (.vp 28 (fun _ => 0) []))], post := fun e => [] }
theorem paShP_pc : PC.Runs Tryd.prog 59 Tryd.f59 (bodyOf Tryd.f59) paShP := ⟨Tryd.func59, by kernel_rfl, (fun g hg => by first | (cases hg; done) | (revert g; show ∀ g ∈ ([3, 4, 0, 5] : List Nat), g < 25; decide)), fun e H hc => by
  have hc : (decide (eN e 0 = 0)) = true := hc
  try simp only [Bool.and_eq_true, decide_eq_true_eq, Nat.beq_eq] at hc
  exact paShort _ _ _ _ (eN e 0) (eI e 1) hc⟩
def paLoP : PC := { args := [.v (.vl 60 1 0)], heap := [⟨60, false, 1, .ta 0 (.vi .u8 1)⟩], gs := [3, 4, 0, 5], G := 25, tp := 223, n := 80, n' := 180, cond := fun e => decide (1 < eN e 0) && decide (eI e 1 [0] = 1), v := fun e => .tup [(false, .vl0), (false, .vb fun _ => false), (false, .ve 223 (.vp 29 (fun _ => 0) []))], post := fun e => [] }
theorem paLoP_pc : PC.Runs Tryd.prog 59 Tryd.f59 (bodyOf Tryd.f59) paLoP := ⟨Tryd.func59, by kernel_rfl, (fun g hg => by first | (cases hg; done) | (revert g; show ∀ g ∈ ([3, 4, 0, 5] : List Nat), g < 25; decide)), fun e H hc => by
  have hc : (decide (1 < eN e 0) && decide (eI e 1 [0] = 1)) = true := hc
  try simp only [Bool.and_eq_true, decide_eq_true_eq, Nat.beq_eq] at hc
  exact paLong _ _ _ _ (eN e 0) (eI e 1) hc.1 hc.2⟩
def paAsP : PC := { args := [.v (.vl 60 1 0)], heap := [⟨60, false, 1, .ta 0 (.vi .u8 1)⟩], gs := [3, 4, 0, 5], G := 25, tp := 223, n := 80, n' := 180, cond := fun e => decide (eN e 0 = 1) && decide (eI e 1 [0] = 1), v := fun e => .tup [(false, .vl0), (false, .vb fun _ => true), (false, .ve0)], post := fun e => [] }
theorem paAsP_pc : PC.Runs Tryd.prog 59 Tryd.f59 (bodyOf Tryd.f59) paAsP := ⟨Tryd.func59, by kernel_rfl, (fun g hg => by first | (cases hg; done) | (revert g; show ∀ g ∈ ([3, 4, 0, 5] : List Nat), g < 25; decide)), fun e H hc => by
  have hc : (decide (eN e 0 = 1) && decide (eI e 1 [0] = 1)) = true := hc
  try simp only [Bool.and_eq_true, decide_eq_true_eq, Nat.beq_eq] at hc
  exact paAsk _ _ _ _ (eN e 0) (eI e 1) hc.1 hc.2⟩
def paFoP : PC := { args := [.v (.vl 60 1 0)], heap := [⟨60, false, 1, .ta 0 (.vi .u8 1)⟩], gs := [3, 4, 0, 5], G := 25, tp := 223, n := 80, n' := 180, cond := fun e => decide (0 < eN e 0) && decide (eI e 1 [0] ≠ 1 ∧ eI e 1 [0] ≠ 0), v := fun e => .tup [(false, .vl0), (false, .vb fun _ => false), (false, .ve 223 (.vp 25 (fun _ => 0) []))], post := fun e => [] }
theorem paFoP_pc : PC.Runs Tryd.prog 59 Tryd.f59 (bodyOf Tryd.f59) paFoP := ⟨Tryd.func59, by kernel_rfl, (fun g hg => by first | (cases hg; done) | (revert g; show ∀ g ∈ ([3, 4, 0, 5] : List Nat), g < 25; decide)), fun e H hc => by
  have hc : (decide (0 < eN e 0) && decide (eI e 1 [0] ≠ 1 ∧ eI e 1 [0] ≠ 0)) = true := hc
  try simp only [Bool.and_eq_true, decide_eq_true_eq, Nat.beq_eq] at hc
  exact paForm _ _ _ _ (eN e 0) (eI e 1) hc.1 hc.2.1 hc.2.2⟩
def paEvP : PC := { args := [.v (.vl 60 1 0)], heap := [⟨60, false, 1, .ta 0 (.vi .u8 1)⟩], gs := [3, 4, 0, 5], G := 25, tp := 223, n := 80, n' := 180, cond := fun e => decide (0 < eN e 0) && decide (eI e 1 [0] = 0) && decide (eN e 0 % 2 = 0), v := fun e => .tup [(false, .vl0), (false, .vb fun _ => false), (false, .ve 223 (.vp 28 (fun _ => 0) []))], post := fun e => [] }
theorem paEvP_pc : PC.Runs Tryd.prog 59 Tryd.f59 (bodyOf Tryd.f59) paEvP := ⟨Tryd.func59, by kernel_rfl, (fun g hg => by first | (cases hg; done) | (revert g; show ∀ g ∈ ([3, 4, 0, 5] : List Nat), g < 25; decide)), fun e H hc => by
  have hc : (decide (0 < eN e 0) && decide (eI e 1 [0] = 0) && decide (eN e 0 % 2 = 0)) = true := hc
  try simp only [Bool.and_eq_true, decide_eq_true_eq, Nat.beq_eq] at hc
  exact paEven _ _ _ _ (eN e 0) (eI e 1) hc.1.1 hc.1.2 hc.2⟩
def paOkP : PC := { args := [.v (.vl 60 1 0)], heap := [⟨60, false, 1, .ta 0 (.vi .u8 1)⟩], gs := [3, 4, 0, 5], G := 25, tp := 223, n := 80, n' := 180, cond := fun e => decide (eI e 1 [0] = 0) && decide (eN e 0 % 2 = 1) && decide (eN e 0 ≤ 1000) && bndB (eI e 1) (eN e 0) && (vb (eI e 1) ((eN e 0 - 1) / 2) 0 == true), v := fun e => .tup [(false, .vl 101 (fun _ => 0) 2 [] (fun _ => ((eN e 0 - 1) / 2))), (false, .vb fun _ => false), (false, .ve0)], post := fun e => eW 101 ((eN e 0 - 1) / 2) (pV (eI e 1)) (pO (eI e 1)) }
theorem paOkP_pc : PC.Runs Tryd.prog 59 Tryd.f59 (bodyOf Tryd.f59) paOkP := ⟨Tryd.func59, by kernel_rfl, (fun g hg => by first | (cases hg; done) | (revert g; show ∀ g ∈ ([3, 4, 0, 5] : List Nat), g < 25; decide)), fun e H hc => by
  have hc : (decide (eI e 1 [0] = 0) && decide (eN e 0 % 2 = 1) && decide (eN e 0 ≤ 1000) && bndB (eI e 1) (eN e 0) && (vb (eI e 1) ((eN e 0 - 1) / 2) 0 == true)) = true := hc
  try simp only [Bool.and_eq_true, decide_eq_true_eq, Nat.beq_eq] at hc
  exact by obtain ⟨⟨⟨⟨h0, h1⟩, h2⟩, h3⟩, h4⟩ := hc; exact paStart _ _ _ _ (eN e 0) (eI e 1) h0 h1 _ _ ((paL _ _ _ _ (eN e 0) (eI e 1) h1 h2 (fun i hi => bndB_ok h3 hi) ((eN e 0 - 1) / 2) 0 (by omega)).1 (by simpa using h4))⟩
def paKiP : PC := { args := [.v (.vl 60 1 0)], heap := [⟨60, false, 1, .ta 0 (.vi .u8 1)⟩], gs := [3, 4, 0, 5], G := 25, tp := 223, n := 80, n' := 180, cond := fun e => decide (eI e 1 [0] = 0) && decide (eN e 0 % 2 = 1) && decide (eN e 0 ≤ 1000) && bndB (eI e 1) (eN e 0) && (vb (eI e 1) ((eN e 0 - 1) / 2) 0 == false), v := fun e => .tup [(false, .vl0), (false, .vb fun _ => false), (false, .ve 223 (.vp 30 (fun _ => 0) []))], post := fun e => [] }
theorem paKiP_pc : PC.Runs Tryd.prog 59 Tryd.f59 (bodyOf Tryd.f59) paKiP := ⟨Tryd.func59, by kernel_rfl, (fun g hg => by first | (cases hg; done) | (revert g; show ∀ g ∈ ([3, 4, 0, 5] : List Nat), g < 25; decide)), fun e H hc => by
  have hc : (decide (eI e 1 [0] = 0) && decide (eN e 0 % 2 = 1) && decide (eN e 0 ≤ 1000) && bndB (eI e 1) (eN e 0) && (vb (eI e 1) ((eN e 0 - 1) / 2) 0 == false)) = true := hc
  try simp only [Bool.and_eq_true, decide_eq_true_eq, Nat.beq_eq] at hc
  exact by obtain ⟨⟨⟨⟨h0, h1⟩, h2⟩, h3⟩, h4⟩ := hc; exact paStart _ _ _ _ (eN e 0) (eI e 1) h0 h1 _ _ ((paL _ _ _ _ (eN e 0) (eI e 1) h1 h2 (fun i hi => bndB_ok h3 hi) ((eN e 0 - 1) / 2) 0 (by omega)).2 (by simpa using h4))⟩
theorem rpShort_p0 (s : List UInt8) :
    isEnd (evTill Tryd.prog [] 300 (99) 900 61 [.code (bodyOf Tryd.f61)] (envOf [vS s] Tryd.f61.ntmps) ([] ++ ([])) ⟨[.s true], 80⟩) (endP ([((101 : Nat), Rn.nil (2 : Nat))]) (.tup [(false, .vl 101 (fun _ => 0) 2 [] (fun _ => 0)), (false, .vb fun _ => false), (false, .vi .i64 fun _ => 3)]) (eW 101 0 (pV (sB s)) (pO (sB s))) 180) =
    (OkL [((↑s.length : Int) == (0 : Int), true)] ∧ ((0 : Nat) = (0 : Nat) ∧ false = false ∧ (3 : Int) = (3 : Int) ∧ True) ∧ (0 : Nat) = (0 : Nat)) := by kernel_rfl

set_option maxHeartbeats 4000000 in
theorem rpShort (s : List UInt8) (h : s = []) :
    RunsTo Tryd.prog 61 [.code (bodyOf Tryd.f61)] (envOf [vS s] Tryd.f61.ntmps) (Sx.look ([] ++ ([]))) 80 (.tup [(false, .vl 101 (fun _ => 0) 2 [] (fun _ => 0)), (false, .vb fun _ => false), (false, .vi .i64 fun _ => 3)]) (Sx.look (eW 101 0 (pV (sB s)) (pO (sB s)))) 180 := by
  refine runs_last baseO (Sx.Ends.of (rpShort_p0 s) ⟨?oo, ?rr⟩) (by kernel_rfl) rfl (gtL (by decide)) (by decide)
  case oo =>
    refine (okc ?_ okn)
    all_goals first | omega | (simp [h]; done) | (subst h; rfl)
  case rr =>
    subst h
    repeat' apply And.intro
    all_goals first | exact True.intro | with_reducible rfl | (intros; omega) | (intros; rfl) | (simp_all; done)

theorem rpAsk_p0 (s : List UInt8) :
    isEnd (evTill Tryd.prog [] 300 (99) 900 61 [.code (bodyOf Tryd.f61)] (envOf [vS s] Tryd.f61.ntmps) ([] ++ ([])) ⟨[.s false, .s true], 80⟩) (endP ([((101 : Nat), Rn.nil (2 : Nat))]) (.tup [(false, .vl 101 (fun _ => 0) 2 [] (fun _ => 0)), (false, .vb fun _ => true), (false, .vi .i64 fun _ => 0)]) (eW 101 0 (pV (sB s)) (pO (sB s))) 180) =
    (OkL [((↑s.length : Int) == (0 : Int), false), (s == [(1 : UInt8)], true)] ∧ ((0 : Nat) = (0 : Nat) ∧ true = true ∧ (0 : Int) = (0 : Int) ∧ True) ∧ (0 : Nat) = (0 : Nat)) := by kernel_rfl

set_option maxHeartbeats 4000000 in
theorem rpAsk (s : List UInt8) (h : s = [1]) :
    RunsTo Tryd.prog 61 [.code (bodyOf Tryd.f61)] (envOf [vS s] Tryd.f61.ntmps) (Sx.look ([] ++ ([]))) 80 (.tup [(false, .vl 101 (fun _ => 0) 2 [] (fun _ => 0)), (false, .vb fun _ => true), (false, .vi .i64 fun _ => 0)]) (Sx.look (eW 101 0 (pV (sB s)) (pO (sB s)))) 180 := by
  refine runs_last baseO (Sx.Ends.of (rpAsk_p0 s) ⟨?oo, ?rr⟩) (by kernel_rfl) rfl (gtL (by decide)) (by decide)
  case oo =>
    refine (okc ?_ (okc ?_ okn))
    all_goals first | omega | (simp [h]; done) | (subst h; rfl)
  case rr =>
    subst h
    repeat' apply And.intro
    all_goals first | exact True.intro | with_reducible rfl | (intros; omega) | (intros; rfl) | (simp_all; done)

theorem rpLong_p0 (s : List UInt8) :
    isEnd (evTill Tryd.prog [] 300 (99) 900 61 [.code (bodyOf Tryd.f61)] (envOf [vS s] Tryd.f61.ntmps) ([] ++ ([])) ⟨[.s false, .s false, .s true, .s true], 80⟩) (endP ([((101 : Nat), Rn.nil (2 : Nat))]) (.tup [(false, .vl 101 (fun _ => 0) 2 [] (fun _ => 0)), (false, .vb fun _ => false), (false, .vi .i64 fun _ => 4)]) (eW 101 0 (pV (sB s)) (pO (sB s))) 180) =
    (OkL [((↑s.length : Int) == (0 : Int), false), (s == [(1 : UInt8)], false), (decide ((0 : Int) ≤ (0 : Int) ∧ (0 : Int) < (↑s.length : Int)), true), ((↑(s.getD (0 : Nat) (0 : UInt8)).toNat : Int) == (1 : Int), true)] ∧ ((0 : Nat) = (0 : Nat) ∧ false = false ∧ (4 : Int) = (4 : Int) ∧ True) ∧ (0 : Nat) = (0 : Nat)) := by kernel_rfl

set_option maxHeartbeats 4000000 in
theorem rpLong (s : List UInt8) (h : 1 < s.length) (h1 : (s.getD 0 0).toNat = 1) :
    RunsTo Tryd.prog 61 [.code (bodyOf Tryd.f61)] (envOf [vS s] Tryd.f61.ntmps) (Sx.look ([] ++ ([]))) 80 (.tup [(false, .vl 101 (fun _ => 0) 2 [] (fun _ => 0)), (false, .vb fun _ => false), (false, .vi .i64 fun _ => 4)]) (Sx.look (eW 101 0 (pV (sB s)) (pO (sB s)))) 180 := by
  have hne : s ≠ [] := by intro e; subst e; simp at h
  have hn1 : s ≠ [1] := by intro e; subst e; simp at h
  refine runs_last baseO (Sx.Ends.of (rpLong_p0 s) ⟨?oo, ?rr⟩) (by kernel_rfl) rfl (gtL (by decide)) (by decide)
  case oo =>
    refine (okc ?_ (okc ?_ (okc ?_ (okc ?_ okn))))
    all_goals ((try simp (disch := omega) only [SS, hne, hn1, h1]); first | done | omega | assumption | (simp (disch := omega) only [SS, hne, hn1, h1] at *; first | done | omega | assumption) | (simp_all; done))
  case rr =>
    try simp (disch := omega) only [SS, hne, hn1, h1]
    repeat' apply And.intro
    all_goals first | exact True.intro | with_reducible rfl | omega | (intros; first | exact True.intro | with_reducible rfl | omega | (simp_all; done)) | (simp_all; done) | rfl

theorem rpForm_p0 (s : List UInt8) :
    isEnd (evTill Tryd.prog [] 300 (99) 900 61 [.code (bodyOf Tryd.f61)] (envOf [vS s] Tryd.f61.ntmps) ([] ++ ([])) ⟨[.s false, .s false, .s true, .s false, .s true, .s true], 80⟩) (endP ([((101 : Nat), Rn.nil (2 : Nat))]) (.tup [(false, .vl 101 (fun _ => 0) 2 [] (fun _ => 0)), (false, .vb fun _ => false), (false, .vi .i64 fun _ => 5)]) (eW 101 0 (pV (sB s)) (pO (sB s))) 180) =
    (OkL [((↑s.length : Int) == (0 : Int), false), (s == [(1 : UInt8)], false), (decide ((0 : Int) ≤ (0 : Int) ∧ (0 : Int) < (↑s.length : Int)), true), ((↑(s.getD (0 : Nat) (0 : UInt8)).toNat : Int) == (1 : Int), false), (decide ((0 : Int) ≤ (0 : Int) ∧ (0 : Int) < (↑s.length : Int)), true), (decide ((↑(s.getD (0 : Nat) (0 : UInt8)).toNat : Int) > (1 : Int)), true)] ∧ ((0 : Nat) = (0 : Nat) ∧ false = false ∧ (5 : Int) = (5 : Int) ∧ True) ∧ (0 : Nat) = (0 : Nat)) := by kernel_rfl

set_option maxHeartbeats 4000000 in
theorem rpForm (s : List UInt8) (h : 0 < s.length) (h1 : 1 < (s.getD 0 0).toNat) :
    RunsTo Tryd.prog 61 [.code (bodyOf Tryd.f61)] (envOf [vS s] Tryd.f61.ntmps) (Sx.look ([] ++ ([]))) 80 (.tup [(false, .vl 101 (fun _ => 0) 2 [] (fun _ => 0)), (false, .vb fun _ => false), (false, .vi .i64 fun _ => 5)]) (Sx.look (eW 101 0 (pV (sB s)) (pO (sB s)))) 180 := by
  have hne : s ≠ [] := by intro e; subst e; simp at h
  have hn1 : s ≠ [1] := by intro e; subst e; simp at h1
  refine runs_last baseO (Sx.Ends.of (rpForm_p0 s) ⟨?oo, ?rr⟩) (by kernel_rfl) rfl (gtL (by decide)) (by decide)
  case oo =>
    refine (okc ?_ (okc ?_ (okc ?_ (okc ?_ (okc ?_ (okc ?_ okn))))))
    all_goals ((try simp (disch := omega) only [SS, hne, hn1]); first | done | omega | assumption | (simp (disch := omega) only [SS, hne, hn1] at *; first | done | omega | assumption) | (simp_all; done))
  case rr =>
    try simp (disch := omega) only [SS, hne, hn1]
    repeat' apply And.intro
    all_goals first | exact True.intro | with_reducible rfl | omega | (intros; first | exact True.intro | with_reducible rfl | omega | (simp_all; done)) | (simp_all; done) | rfl

theorem rpEven_p0 (s : List UInt8) :
    isEnd (evTill Tryd.prog [] 300 (99) 900 61 [.code (bodyOf Tryd.f61)] (envOf [vS s] Tryd.f61.ntmps) ([] ++ ([])) ⟨[.s false, .s false, .s true, .s false, .s true, .s false, .t, .s true], 80⟩) (endP ([((101 : Nat), Rn.nil (2 : Nat))]) (.tup [(false, .vl 101 (fun _ => 0) 2 [] (fun _ => 0)), (false, .vb fun _ => false), (false, .vi .i64 fun _ => 3)]) (eW 101 0 (pV (sB s)) (pO (sB s))) 180) =
    (OkL [((↑s.length : Int) == (0 : Int), false), (s == [(1 : UInt8)], false), (decide ((0 : Int) ≤ (0 : Int) ∧ (0 : Int) < (↑s.length : Int)), true), ((↑(s.getD (0 : Nat) (0 : UInt8)).toNat : Int) == (1 : Int), false), (decide ((0 : Int) ≤ (0 : Int) ∧ (0 : Int) < (↑s.length : Int)), true), (decide ((↑(s.getD (0 : Nat) (0 : UInt8)).toNat : Int) > (1 : Int)), false), ((↑s.length : Int).tmod (2 : Int) == (0 : Int), true)] ∧ ((0 : Nat) = (0 : Nat) ∧ false = false ∧ (3 : Int) = (3 : Int) ∧ True) ∧ (0 : Nat) = (0 : Nat)) := by kernel_rfl

set_option maxHeartbeats 4000000 in
theorem rpEven (s : List UInt8) (h : 0 < s.length) (h1 : (s.getD 0 0).toNat = 0) (h2 : s.length % 2 = 0) :
    RunsTo Tryd.prog 61 [.code (bodyOf Tryd.f61)] (envOf [vS s] Tryd.f61.ntmps) (Sx.look ([] ++ ([]))) 80 (.tup [(false, .vl 101 (fun _ => 0) 2 [] (fun _ => 0)), (false, .vb fun _ => false), (false, .vi .i64 fun _ => 3)]) (Sx.look (eW 101 0 (pV (sB s)) (pO (sB s)))) 180 := by
  have tm : (s.length : Int).tmod 2 = ((s.length % 2 : Nat) : Int) := tmN s.length 2
  have w2 : IntKind.i64.wrap ((s.length % 2 : Nat) : Int) = ((s.length % 2 : Nat) : Int) := wr64 (by omega)
  have hne : s ≠ [] := by intro e; subst e; simp at h
  have hn1 : s ≠ [1] := by intro e; subst e; simp at h1
  refine runs_last baseO (Sx.Ends.of (rpEven_p0 s) ⟨?oo, ?rr⟩) (by kernel_rfl) rfl (gtL (by decide)) (by decide)
  case oo =>
    refine (okc ?_ (okc ?_ (okc ?_ (okc ?_ (okc ?_ (okc ?_ (okc ?_ okn)))))))
    all_goals ((try simp (disch := omega) only [SS, hne, hn1, h1, tm, w2, h2]); first | done | omega | assumption | (simp (disch := omega) only [SS, hne, hn1, h1, tm, w2, h2] at *; first | done | omega | assumption) | (simp_all; done))
  case rr =>
    try simp (disch := omega) only [SS, hne, hn1, h1, tm, w2, h2]
    repeat' apply And.intro
    all_goals first | exact True.intro | with_reducible rfl | omega | (intros; first | exact True.intro | with_reducible rfl | omega | (simp_all; done)) | (simp_all; done) | rfl

theorem rpStart_p0 (s : List UInt8) :
    isMore (evTill Tryd.prog [] 300 (behind Tryd.f61 0) 900 61 [.code (bodyOf Tryd.f61)] (envOf [vS s] Tryd.f61.ntmps) ([] ++ ([])) ⟨[.s false, .s false, .s true, .s false, .s true, .s false, .t, .s false], 80⟩) (moreP (headOf Tryd.f61 0) ([((101 : Nat), Rn.to (80 : Nat))]) Tryd.f61.ntmps ([(0, vS s), (5, vL 101 2 (0)), (6, vN ((2 * (0) + 1 : Nat) : Int))]) (eW 101 (0) (pV (sB s)) (pO (sB s))) 180) =
    (OkL [((↑s.length : Int) == (0 : Int), false), (s == [(1 : UInt8)], false), (decide ((0 : Int) ≤ (0 : Int) ∧ (0 : Int) < (↑s.length : Int)), true), ((↑(s.getD (0 : Nat) (0 : UInt8)).toNat : Int) == (1 : Int), false), (decide ((0 : Int) ≤ (0 : Int) ∧ (0 : Int) < (↑s.length : Int)), true), (decide ((↑(s.getD (0 : Nat) (0 : UInt8)).toNat : Int) > (1 : Int)), false), ((↑s.length : Int).tmod (2 : Int) == (0 : Int), false)] ∧ headOf Tryd.f61 (0 : Nat) = headOf Tryd.f61 (0 : Nat) ∧ (s = s ∧ ((0 : Nat) = (0 : Nat) ∧ (0 : Nat) = (0 : Nat)) ∧ (↑(1 : Nat) : Int) = (1 : Int)) ∧ (0 : Nat) = (0 : Nat) ∧ (∀ (i : Nat), i < (0 : Nat) → pV (sB s) [i] = (0 : Int)) ∧ ∀ (i : Nat), i < (0 : Nat) → pO (sB s) [i] = (0 : Int)) := by kernel_rfl

set_option maxHeartbeats 4000000 in
theorem rpStart (s : List UInt8) (h : 0 < s.length) (h1 : (s.getD 0 0).toNat = 0) (h2 : s.length % 2 = 1) (v : SV) (L' : HF) (next : RunsTo Tryd.prog 61 (headOf Tryd.f61 0) (envAt Tryd.f61.ntmps ([(0, vS s), (5, vL 101 2 (0)), (6, vN ((2 * (0) + 1 : Nat) : Int))])) (Sx.look ([] ++ (eW 101 (0) (pV (sB s)) (pO (sB s))))) 80 (v) (L') 180) :
    RunsTo Tryd.prog 61 [.code (bodyOf Tryd.f61)] (envOf [vS s] Tryd.f61.ntmps) (Sx.look ([] ++ ([]))) 80 (v) (L') 180 := by
  have tm : (s.length : Int).tmod 2 = ((s.length % 2 : Nat) : Int) := tmN s.length 2
  have w2 : IntKind.i64.wrap ((s.length % 2 : Nat) : Int) = ((s.length % 2 : Nat) : Int) := wr64 (by omega)
  have hne : s ≠ [] := by intro e; subst e; simp at h
  have hn1 : s ≠ [1] := by intro e; subst e; simp at h1
  refine runs_more baseO (More.of (rpStart_p0 s) ⟨?oo, rfl, ?rr⟩) (by kernel_rfl) (by kernel_rfl) rfl (gtL (by decide)) (by decide) next
  case oo =>
    clear next
    refine (okc ?_ (okc ?_ (okc ?_ (okc ?_ (okc ?_ (okc ?_ (okc ?_ okn)))))))
    all_goals ((try simp (disch := omega) only [SS, hne, hn1, h1, tm, w2, h2]); first | done | omega | assumption | (simp (disch := omega) only [SS, hne, hn1, h1, tm, w2, h2] at *; first | done | omega | assumption) | (simp_all; done))
  case rr =>
    clear next
    try simp (disch := omega) only [SS, hne, hn1, h1, tm, w2, h2]
    repeat' apply And.intro
    all_goals first | exact True.intro | with_reducible rfl | omega | (intros; first | exact True.intro | with_reducible rfl | omega | (simp_all; done)) | (simp_all; done) | rfl

theorem rpRound_p0 (s : List UInt8) (j : Nat) :
    isMore (evTill Tryd.prog [] 300 (behind Tryd.f61 0) 900 61 (headOf Tryd.f61 0) (envAt Tryd.f61.ntmps ([(0, vS s), (5, vL 101 2 (j)), (6, vN ((2 * (j) + 1 : Nat) : Int))])) ([] ++ (eW 101 (j) (pV (sB s)) (pO (sB s)))) ⟨[.s true, .s true, .s false, .s true, .s false, .s true, .s true, .t, .s true, .s true], 110⟩) (moreP (headOf Tryd.f61 0) ([((101 : Nat), Rn.to (111 : Nat))]) Tryd.f61.ntmps ([(0, vS s), (5, vL 101 2 (j + 1)), (6, vN ((2 * (j + 1) + 1 : Nat) : Int))]) (eW 101 (j + 1) (pV (sB s)) (pO (sB s))) 180) =
    (OkL [(decide ((↑((2 : Nat) * j + (1 : Nat)) : Int) < (↑s.length : Int)), true), (decide ((0 : Int) ≤ (↑((2 : Nat) * j + (1 : Nat)) : Int) ∧ (↑((2 : Nat) * j + (1 : Nat)) : Int) < (↑s.length : Int)), true), (decide ((↑(s.getD (↑((2 : Nat) * j + (1 : Nat)) : Int).toNat (0 : UInt8)).toNat : Int) < (251 : Int)), false), (decide ((0 : Int) ≤ (↑((2 : Nat) * j + (1 : Nat)) : Int) ∧ (↑((2 : Nat) * j + (1 : Nat)) : Int) < (↑s.length : Int)), true), (decide ((↑(s.getD (↑((2 : Nat) * j + (1 : Nat)) : Int).toNat (0 : UInt8)).toNat : Int) > (254 : Int)), false), (decide ((0 : Int) ≤ (↑((2 : Nat) * j + (1 : Nat)) : Int) ∧ (↑((2 : Nat) * j + (1 : Nat)) : Int) < (↑s.length : Int)), true), (decide ((0 : Int) ≤ IntKind.i64.wrap ((↑((2 : Nat) * j + (1 : Nat)) : Int) + (1 : Int)) ∧ IntKind.i64.wrap ((↑((2 : Nat) * j + (1 : Nat)) : Int) + (1 : Int)) < (↑s.length : Int)), true), (((0 : Nat) + j).ble j, true), (decide (((2 : Nat) * (j + (1 : Nat)) + (192 : Nat)) * (16 : Nat) ≤ (281474976710656 : Nat)), true)] ∧ headOf Tryd.f61 (0 : Nat) = headOf Tryd.f61 (0 : Nat) ∧ (s = s ∧ ((0 : Nat) = (0 : Nat) ∧ j + (1 : Nat) = j + (1 : Nat)) ∧ (↑((2 : Nat) * (j + (1 : Nat)) + (1 : Nat)) : Int) = IntKind.i64.wrap ((↑((2 : Nat) * j + (1 : Nat)) : Int) + (2 : Int))) ∧ j + (1 : Nat) = j + (1 : Nat) ∧ (∀ (i : Nat), i < j + (1 : Nat) → pV (sB s) [i] = appF j (0 : Nat) (pV (sB s)) (fun js => IntKind.i64.wrap (↑(s.getD (↑((2 : Nat) * j + (1 : Nat)) : Int).toNat (0 : UInt8)).toNat : Int)) [i]) ∧ ∀ (i : Nat), i < j + (1 : Nat) → pO (sB s) [i] = appF j (0 : Nat) (pO (sB s)) (fun js => IntKind.i64.wrap (↑(s.getD (IntKind.i64.wrap ((↑((2 : Nat) * j + (1 : Nat)) : Int) + (1 : Int))).toNat (0 : UInt8)).toNat : Int)) [i]) := by kernel_rfl

set_option maxHeartbeats 4000000 in
theorem rpRound (s : List UInt8) (j : Nat) (h : 2 * j + 2 < s.length) (hn : s.length ≤ 1000) (h1 : 251 ≤ (s.getD (2 * j + 1) 0).toNat ∧ (s.getD (2 * j + 1) 0).toNat ≤ 254) (v : SV) (L' : HF) (next : RunsTo Tryd.prog 61 (headOf Tryd.f61 0) (envAt Tryd.f61.ntmps ([(0, vS s), (5, vL 101 2 (j + 1)), (6, vN ((2 * (j + 1) + 1 : Nat) : Int))])) (Sx.look ([] ++ (eW 101 (j + 1) (pV (sB s)) (pO (sB s))))) 80 (v) (L') 180) :
    RunsTo Tryd.prog 61 (headOf Tryd.f61 0) (envAt Tryd.f61.ntmps ([(0, vS s), (5, vL 101 2 (j)), (6, vN ((2 * (j) + 1 : Nat) : Int))])) (Sx.look ([] ++ (eW 101 (j) (pV (sB s)) (pO (sB s))))) 80 (v) (L') 180 := by
  have w1 : IntKind.i64.wrap (((2 * j + 1 : Nat) : Int) + 1) = ((2 * j + 2 : Nat) : Int) := by rw [wr64 (by omega)]; omega
  have w2 : IntKind.i64.wrap (((2 * j + 1 : Nat) : Int) + 2) = ((2 * (j + 1) + 1 : Nat) : Int) := by rw [wr64 (by omega)]; omega
  have c1 := (s.getD (2 * j + 1) 0).toNat_lt
  have c2 := (s.getD (2 * j + 2) 0).toNat_lt
  have a1 : IntKind.i64.wrap (((s.getD (2 * j + 1) 0).toNat : Nat) : Int) = (((s.getD (2 * j + 1) 0).toNat : Nat) : Int) := wr64 (by omega)
  have a2 : IntKind.i64.wrap (((s.getD (2 * j + 2) 0).toNat : Nat) : Int) = (((s.getD (2 * j + 2) 0).toNat : Nat) : Int) := wr64 (by omega)
  refine runs_more baseO (More.of (rpRound_p0 s j) ⟨?oo, rfl, ?rr⟩) (by kernel_rfl) (by kernel_rfl) rfl (gtL (by decide)) (by decide) next
  case oo =>
    clear next
    refine (okc ?_ (okc ?_ (okc ?_ (okc ?_ (okc ?_ (okc ?_ (okc ?_ (okc ?_ (okc ?_ okn)))))))))
    all_goals ((try simp (disch := omega) only [SS, w1, w2, a1, a2, Int.toNat_natCast, Nat.zero_add]); first | done | omega | assumption | (simp (disch := omega) only [SS, w1, w2, a1, a2, Int.toNat_natCast, Nat.zero_add] at *; first | done | omega | assumption) | (simp_all; done))
  case rr =>
    clear next
    simp (disch := omega) only [SS, w1, w2, a1, a2, Int.toNat_natCast, Nat.zero_add, Go.Sx.sum]
    repeat' apply And.intro
    all_goals first | exact True.intro | with_reducible rfl | omega | exact app_one (pV (sB s)) _ _ a1 | exact app_one (pO (sB s)) _ _ a2 | exact app_one (pV (sB s)) _ _ rfl | exact app_one (pO (sB s)) _ _ rfl | (intros; rfl) | (simp_all; done)

theorem rpKind_p0 (s : List UInt8) (j : Nat) :
    isEnd (evTill Tryd.prog [] 300 (99) 900 61 (headOf Tryd.f61 0) (envAt Tryd.f61.ntmps ([(0, vS s), (5, vL 101 2 (j)), (6, vN ((2 * (j) + 1 : Nat) : Int))])) ([] ++ (eW 101 (j) (pV (sB s)) (pO (sB s)))) ⟨[.s true, .s true, .s false, .s true, .s true], 110⟩) (endP ([((101 : Nat), Rn.nil (2 : Nat))]) (.tup [(false, .vl 101 (fun _ => 0) 2 [] (fun _ => 0)), (false, .vb fun _ => false), (false, .vi .i64 fun _ => 9)]) (eW 101 0 (pV (sB s)) (pO (sB s))) 180) =
    (OkL [(decide ((↑((2 : Nat) * j + (1 : Nat)) : Int) < (↑s.length : Int)), true), (decide ((0 : Int) ≤ (↑((2 : Nat) * j + (1 : Nat)) : Int) ∧ (↑((2 : Nat) * j + (1 : Nat)) : Int) < (↑s.length : Int)), true), (decide ((↑(s.getD (↑((2 : Nat) * j + (1 : Nat)) : Int).toNat (0 : UInt8)).toNat : Int) < (251 : Int)), false), (decide ((0 : Int) ≤ (↑((2 : Nat) * j + (1 : Nat)) : Int) ∧ (↑((2 : Nat) * j + (1 : Nat)) : Int) < (↑s.length : Int)), true), (decide ((↑(s.getD (↑((2 : Nat) * j + (1 : Nat)) : Int).toNat (0 : UInt8)).toNat : Int) > (254 : Int)), true)] ∧ ((0 : Nat) = (0 : Nat) ∧ false = false ∧ (9 : Int) = (9 : Int) ∧ True) ∧ (0 : Nat) = (0 : Nat)) := by kernel_rfl
theorem rpKind_p1 (s : List UInt8) (j : Nat) :
    isEnd (evTill Tryd.prog [] 300 (99) 900 61 (headOf Tryd.f61 0) (envAt Tryd.f61.ntmps ([(0, vS s), (5, vL 101 2 (j)), (6, vN ((2 * (j) + 1 : Nat) : Int))])) ([] ++ (eW 101 (j) (pV (sB s)) (pO (sB s)))) ⟨[.s true, .s true, .s true], 110⟩) (endP ([((101 : Nat), Rn.nil (2 : Nat))]) (.tup [(false, .vl 101 (fun _ => 0) 2 [] (fun _ => 0)), (false, .vb fun _ => false), (false, .vi .i64 fun _ => 9)]) (eW 101 0 (pV (sB s)) (pO (sB s))) 180) =
    (OkL [(decide ((↑((2 : Nat) * j + (1 : Nat)) : Int) < (↑s.length : Int)), true), (decide ((0 : Int) ≤ (↑((2 : Nat) * j + (1 : Nat)) : Int) ∧ (↑((2 : Nat) * j + (1 : Nat)) : Int) < (↑s.length : Int)), true), (decide ((↑(s.getD (↑((2 : Nat) * j + (1 : Nat)) : Int).toNat (0 : UInt8)).toNat : Int) < (251 : Int)), true)] ∧ ((0 : Nat) = (0 : Nat) ∧ false = false ∧ (9 : Int) = (9 : Int) ∧ True) ∧ (0 : Nat) = (0 : Nat)) := by kernel_rfl

set_option maxHeartbeats 4000000 in
theorem rpKind (s : List UInt8) (j : Nat) (h : 2 * j + 1 < s.length) (hn : s.length ≤ 1000) (h1 : (s.getD (2 * j + 1) 0).toNat < 251 ∨ 254 < (s.getD (2 * j + 1) 0).toNat) :
    RunsTo Tryd.prog 61 (headOf Tryd.f61 0) (envAt Tryd.f61.ntmps ([(0, vS s), (5, vL 101 2 (j)), (6, vN ((2 * (j) + 1 : Nat) : Int))])) (Sx.look ([] ++ (eW 101 (j) (pV (sB s)) (pO (sB s))))) 80 (.tup [(false, .vl 101 (fun _ => 0) 2 [] (fun _ => 0)), (false, .vb fun _ => false), (false, .vi .i64 fun _ => 9)]) (Sx.look (eW 101 0 (pV (sB s)) (pO (sB s)))) 180 := by
  have w1 : IntKind.i64.wrap (((2 * j + 1 : Nat) : Int) + 1) = ((2 * j + 2 : Nat) : Int) := by rw [wr64 (by omega)]; omega
  have w2 : IntKind.i64.wrap (((2 * j + 1 : Nat) : Int) + 2) = ((2 * (j + 1) + 1 : Nat) : Int) := by rw [wr64 (by omega)]; omega
  have c1 := (s.getD (2 * j + 1) 0).toNat_lt
  have c2 := (s.getD (2 * j + 2) 0).toNat_lt
  have a1 : IntKind.i64.wrap (((s.getD (2 * j + 1) 0).toNat : Nat) : Int) = (((s.getD (2 * j + 1) 0).toNat : Nat) : Int) := wr64 (by omega)
  have a2 : IntKind.i64.wrap (((s.getD (2 * j + 2) 0).toNat : Nat) : Int) = (((s.getD (2 * j + 2) 0).toNat : Nat) : Int) := wr64 (by omega)
  refine bcase (c := (decide ((↑(s.getD (↑((2 : Nat) * j + (1 : Nat)) : Int).toNat (0 : UInt8)).toNat : Int) < (251 : Int)))) (fun gg0 => ?_) (fun gg0 => ?_)
  · refine runs_last baseO (Sx.Ends.of (rpKind_p0 s j) ⟨?oo, ?rr⟩) (by kernel_rfl) rfl (gtL (by decide)) (by decide)
    case oo =>
      refine (okc ?_ (okc ?_ (okc gg0 (okc ?_ (okc ?_ okn)))))
      all_goals ((try simp (disch := omega) only [SS, w1, w2, a1, a2, Int.toNat_natCast, Nat.zero_add]); first | done | omega | assumption | (simp (disch := omega) only [SS, w1, w2, a1, a2, Int.toNat_natCast, Nat.zero_add] at *; first | done | omega | assumption) | (simp_all; done))
    case rr =>
      try simp (disch := omega) only [SS, w1, w2, a1, a2, Int.toNat_natCast, Nat.zero_add]
      repeat' apply And.intro
      all_goals first | exact True.intro | with_reducible rfl | omega | (intros; first | exact True.intro | with_reducible rfl | omega | (simp_all; done)) | (simp_all; done) | rfl
  · refine runs_last baseO (Sx.Ends.of (rpKind_p1 s j) ⟨?oo, ?rr⟩) (by kernel_rfl) rfl (gtL (by decide)) (by decide)
    case oo =>
      refine (okc ?_ (okc ?_ (okc gg0 okn)))
      all_goals ((try simp (disch := omega) only [SS, w1, w2, a1, a2, Int.toNat_natCast, Nat.zero_add]); first | done | omega | assumption | (simp (disch := omega) only [SS, w1, w2, a1, a2, Int.toNat_natCast, Nat.zero_add] at *; first | done | omega | assumption) | (simp_all; done))
    case rr =>
      try simp (disch := omega) only [SS, w1, w2, a1, a2, Int.toNat_natCast, Nat.zero_add]
      repeat' apply And.intro
      all_goals first | exact True.intro | with_reducible rfl | omega | (intros; first | exact True.intro | with_reducible rfl | omega | (simp_all; done)) | (simp_all; done) | rfl

theorem rpEnd_p0 (s : List UInt8) (j : Nat) :
    isEnd (evTill Tryd.prog [] 300 (99) 900 61 (headOf Tryd.f61 0) (envAt Tryd.f61.ntmps ([(0, vS s), (5, vL 101 2 (j)), (6, vN ((2 * (j) + 1 : Nat) : Int))])) ([] ++ (eW 101 (j) (pV (sB s)) (pO (sB s)))) ⟨[.s false], 110⟩) (endP ([]) (.tup [(false, .vl 101 (fun _ => 0) 2 [] (fun _ => j)), (false, .vb fun _ => false), (false, .vi .i64 fun _ => 0)]) (eW 101 (j) (pV (sB s)) (pO (sB s))) 180) =
    (OkL [(decide ((↑((2 : Nat) * j + (1 : Nat)) : Int) < (↑s.length : Int)), false)] ∧ (((0 : Nat) = (0 : Nat) ∧ j = j) ∧ false = false ∧ (0 : Int) = (0 : Int) ∧ True) ∧ j = j ∧ (∀ (i : Nat), i < j → pV (sB s) [i] = pV (sB s) [i]) ∧ ∀ (i : Nat), i < j → pO (sB s) [i] = pO (sB s) [i]) := by kernel_rfl

set_option maxHeartbeats 4000000 in
theorem rpEnd (s : List UInt8) (j : Nat) (h : s.length ≤ 2 * j + 1) :
    RunsTo Tryd.prog 61 (headOf Tryd.f61 0) (envAt Tryd.f61.ntmps ([(0, vS s), (5, vL 101 2 (j)), (6, vN ((2 * (j) + 1 : Nat) : Int))])) (Sx.look ([] ++ (eW 101 (j) (pV (sB s)) (pO (sB s))))) 80 (.tup [(false, .vl 101 (fun _ => 0) 2 [] (fun _ => j)), (false, .vb fun _ => false), (false, .vi .i64 fun _ => 0)]) (Sx.look (eW 101 (j) (pV (sB s)) (pO (sB s)))) 180 := by
  refine runs_last baseO (Sx.Ends.of (rpEnd_p0 s j) ⟨?oo, ?rr⟩) (by kernel_rfl) rfl (gtL (by decide)) (by decide)
  case oo =>
    refine (okc ?_ okn)
    all_goals ((try simp (disch := omega) only [SS]); first | done | omega | assumption | (simp (disch := omega) only [SS] at *; first | done | omega | assumption) | (simp_all; done))
  case rr =>
    try simp (disch := omega) only [SS]
    repeat' apply And.intro
    all_goals first | exact True.intro | with_reducible rfl | omega | (intros; first | exact True.intro | with_reducible rfl | omega | (simp_all; done)) | (simp_all; done) | rfl

end Go.Proofs.YtealbjkhjpmilaaDoor

set_option linter.unusedSimpArgs false
set_option linter.unusedVariables false
set_option maxRecDepth 100000
namespace Go.Proofs.YtealbjkhjpmilaaDoor
open Go.Sx

open DecR
def rOk (s : List UInt8) : Bool := decide (0 < s.length ∧ (s.getD 0 0).toNat = 0 ∧ s.length % 2 = 1) && vb (sB s) ((s.length - 1) / 2) 0
def rN (s : List UInt8) : Nat := if rOk s = true then (s.length - 1) / 2 else 0
def rC (s : List UInt8) : Int := if s.length = 0 then 3 else if s = [1] then 0 else if (s.getD 0 0).toNat = 1 then 4 else if 1 < (s.getD 0 0).toNat then 5 else if s.length % 2 = 0 then 3 else if vb (sB s) ((s.length - 1) / 2) 0 = true then 0 else 9
def tq (s : List UInt8) : List UInt8 := if s = [] then [63] else s
def wordG (F : Ix → List UInt8) (c : Int) : List UInt8 := if 240 ≤ c ∧ c ≤ 255 then F [(c - 240).toNat] else []
def tabW (F : Ix → List UInt8) : List Ent := [⟨6, false, none, 16, .ta 16 (.vs F)⟩]
def part (F : Ix → List UInt8) (v o : Int) : List UInt8 := tq (wordG F v) ++ [32] ++ tq (nameC o)
def lenB (F : Ix → List UInt8) : Bool := (List.range 16).all fun i => decide ((F [i]).length ≤ 100)
def partF (F : Ix → List UInt8) (V O : Ix → Int) : Ix → List UInt8 := fun is => part F (V [is.headD 0]) (O [is.headD 0])
def lineR (V O : Ix → Int) : Nat → List UInt8
  | 0 => []
  | i + 1 => lineR V O i ++ ((if 0 < i then [44, 32] else []) ++ part wF (V [i]) (O [i]))
theorem rpL (s : List UInt8) (hn : s.length ≤ 1000) : ∀ (k j : Nat), 2 * (j + k) + 1 = s.length →
    (vb (sB s) k j = true → RunsTo Tryd.prog 61 (headOf Tryd.f61 0) (envAt Tryd.f61.ntmps ([(0, vS s), (5, vL 101 2 (j)), (6, vN ((2 * (j) + 1 : Nat) : Int))])) (Sx.look ([] ++ (eW 101 (j) (pV (sB s)) (pO (sB s))))) 80 (.tup [(false, .vl 101 (fun _ => 0) 2 [] (fun _ => (s.length - 1) / 2)), (false, .vb fun _ => false), (false, .vi .i64 fun _ => 0)]) (Sx.look (eW 101 ((s.length - 1) / 2) (pV (sB s)) (pO (sB s)))) 180) ∧ (vb (sB s) k j = false → RunsTo Tryd.prog 61 (headOf Tryd.f61 0) (envAt Tryd.f61.ntmps ([(0, vS s), (5, vL 101 2 (j)), (6, vN ((2 * (j) + 1 : Nat) : Int))])) (Sx.look ([] ++ (eW 101 (j) (pV (sB s)) (pO (sB s))))) 80 (.tup [(false, .vl 101 (fun _ => 0) 2 [] (fun _ => 0)), (false, .vb fun _ => false), (false, .vi .i64 fun _ => 9)]) (Sx.look (eW 101 0 (pV (sB s)) (pO (sB s)))) 180) := by
  intro k
  induction k with
  | zero =>
    intro j hj
    refine ⟨fun _ => ?_, fun h => by cases h⟩
    have : (s.length - 1) / 2 = j := by omega
    rw [this]
    exact rpEnd s j (by omega)
  | succ k ih =>
    intro j hj
    by_cases h1 : 251 ≤ (s.getD (2 * j + 1) 0).toNat ∧ (s.getD (2 * j + 1) 0).toNat ≤ 254
    · have e : vb (sB s) (k + 1) j = vb (sB s) k (j + 1) := by
        simp only [vb]
        rw [show okV (sB s [2 * j + 1]) = true from okV_iff.2 (by simp only [sB, List.headD_cons]; omega), Bool.true_and]
      rw [e]
      obtain ⟨a, b⟩ := ih (j + 1) (by omega)
      exact ⟨fun h => rpRound s j (by omega) hn h1 _ _ (a h), fun h => rpRound s j (by omega) hn h1 _ _ (b h)⟩
    · have e : vb (sB s) (k + 1) j = false := by
        have : okV (sB s [2 * j + 1]) = false := by
          rw [Bool.eq_false_iff]; intro x
          have := okV_iff.1 x
          simp only [sB, List.headD_cons] at this
          omega
        simp only [vb]; rw [this, Bool.false_and]
      rw [e]
      exact ⟨fun h => (by cases h), fun _ => rpKind s j (by omega) hn (by omega)⟩
theorem rpI (s : List UInt8) (hn : s.length ≤ 1000) : RunsTo Tryd.prog 61 [.code (bodyOf Tryd.f61)] (envOf [vS s] Tryd.f61.ntmps) (Sx.look ([] ++ ([]))) 80 (.tup [(false, .vl 101 (fun _ => 0) 2 [] (fun _ => rN s)), (false, .vb fun _ => decide (s = [1])), (false, .vi .i64 fun _ => rC s)]) (Sx.look (eW 101 (rN s) (pV (sB s)) (pO (sB s)))) 180 := by
  by_cases h0 : s = []
  · have e1 : rN s = 0 := by subst h0; rfl
    have e2 : decide (s = [1]) = false := by subst h0; rfl
    have e3 : rC s = 3 := by subst h0; rfl
    rw [e1, e2, e3]; exact rpShort s h0
  · have hl : 0 < s.length := List.length_pos_iff.2 h0
    by_cases ha : s = [1]
    · have e1 : rN s = 0 := by subst ha; rfl
      have e3 : rC s = 0 := by subst ha; rfl
      rw [e1, decide_eq_true ha, e3]; exact rpAsk s ha
    · rw [decide_eq_false ha]
      by_cases h1 : (s.getD 0 0).toNat = 1
      · have hl1 : 1 < s.length := by
          rcases Nat.lt_or_ge 1 s.length with h | h
          · exact h
          · exfalso
            match s, hl, h, h1, ha with
            | [c], _, _, h1, ha => exact ha (by rw [show c = 1 from UInt8.toNat_inj.1 (by simpa using h1)])
        have e1 : rN s = 0 := by unfold rN rOk; rw [decide_eq_false (by omega)]; rfl
        have e3 : rC s = 4 := by unfold rC; rw [if_neg (by omega), if_neg ha, if_pos h1]
        rw [e1, e3]; exact rpLong s hl1 h1
      · by_cases h2 : 1 < (s.getD 0 0).toNat
        · have e1 : rN s = 0 := by unfold rN rOk; rw [decide_eq_false (by omega)]; rfl
          have e3 : rC s = 5 := by unfold rC; rw [if_neg (by omega), if_neg ha, if_neg h1, if_pos h2]
          rw [e1, e3]; exact rpForm s hl h2
        · have hz : (s.getD 0 0).toNat = 0 := by omega
          by_cases h3 : s.length % 2 = 0
          · have e1 : rN s = 0 := by unfold rN rOk; rw [decide_eq_false (by omega)]; rfl
            have e3 : rC s = 3 := by unfold rC; rw [if_neg (by omega), if_neg ha, if_neg h1, if_neg h2, if_pos h3]
            rw [e1, e3]; exact rpEven s hl hz h3
          · have ho : s.length % 2 = 1 := by omega
            obtain ⟨a, b⟩ := rpL s hn ((s.length - 1) / 2) 0 (by omega)
            cases hv : vb (sB s) ((s.length - 1) / 2) 0 with
            | true =>
              have e1 : rN s = (s.length - 1) / 2 := by unfold rN rOk; rw [decide_eq_true ⟨hl, hz, ho⟩, hv]; rfl
              have e3 : rC s = 0 := by unfold rC; rw [if_neg (by omega), if_neg ha, if_neg h1, if_neg h2, if_neg h3, if_pos hv]
              rw [e1, e3]; exact rpStart s hl hz ho _ _ (a hv)
            | false =>
              have e1 : rN s = 0 := by unfold rN rOk; rw [hv, Bool.and_false]; rfl
              have e3 : rC s = 9 := by unfold rC; rw [if_neg (by omega), if_neg ha, if_neg h1, if_neg h2, if_neg h3, if_neg (by rw [hv]; simp)]
              rw [e1, e3]; exact rpStart s hl hz ho _ _ (b hv)
def rpP : PC := { args := [.v (.vs 0)], heap := [], gs := [], G := 25, tp := 223, n := 80, n' := 180, cond := fun e => decide ((eS e 0 []).length ≤ 1000), v := fun e => .tup [(false, .vl 101 (fun _ => 0) 2 [] (fun _ => rN (eS e 0 []))), (false, .vb fun _ => decide ((eS e 0 []) = [1])), (false, .vi .i64 fun _ => rC (eS e 0 []))], post := fun e => eW 101 (rN (eS e 0 [])) (pV (sB (eS e 0 []))) (pO (sB (eS e 0 []))) }
theorem rpP_pc : PC.Runs Tryd.prog 61 Tryd.f61 (bodyOf Tryd.f61) rpP := ⟨Tryd.func61, by kernel_rfl, (fun g hg => by first | (cases hg; done) | (revert g; show ∀ g ∈ ([] : List Nat), g < 25; decide)), fun e H hc => by
  have hc : (decide ((eS e 0 []).length ≤ 1000)) = true := hc
  try simp only [Bool.and_eq_true, decide_eq_true_eq, Nat.beq_eq] at hc
  exact rpI (eS e 0 []) hc⟩
theorem tq0_p0 (s : List UInt8) :
    isEnd (evTill Tryd.prog [] 300 (99) 900 81 [.code (bodyOf Tryd.f81)] (envOf [vS s] Tryd.f81.ntmps) ([] ++ ([])) ⟨[.s false], 80⟩) (endP ([]) (vS (tq s)) ([]) 90) =
    (OkL [(s == [], false)] ∧ tq s = s ∧ True) := by kernel_rfl
theorem tq0_p1 (s : List UInt8) :
    isEnd (evTill Tryd.prog [] 300 (99) 900 81 [.code (bodyOf Tryd.f81)] (envOf [vS s] Tryd.f81.ntmps) ([] ++ ([])) ⟨[.s true], 80⟩) (endP ([]) (vS (tq s)) ([]) 90) =
    (OkL [(s == [], true)] ∧ tq s = [(63 : UInt8)] ∧ True) := by kernel_rfl

set_option maxHeartbeats 4000000 in
theorem tq0 (s : List UInt8)  :
    RunsTo Tryd.prog 81 [.code (bodyOf Tryd.f81)] (envOf [vS s] Tryd.f81.ntmps) (Sx.look ([] ++ ([]))) 80 (vS (tq s)) (Sx.look ([])) 90 := by
  refine bcase (c := (s == [])) (fun gg0 => ?_) (fun gg0 => ?_)
  · refine runs_last baseO (Sx.Ends.of (tq0_p0 s) ⟨?oo, ?rr⟩) (by kernel_rfl) rfl (gtL (by decide)) (by decide)
    case oo =>
      refine (okc gg0 okn)
      all_goals ((try simp (disch := omega) only [SS]); first | done | omega | assumption | (simp (disch := omega) only [SS] at *; first | done | omega | assumption) | (simp_all; done))
    case rr =>
      refine ⟨?_, trivial⟩
      unfold tq
      simp_all
  · refine runs_last baseO (Sx.Ends.of (tq0_p1 s) ⟨?oo, ?rr⟩) (by kernel_rfl) rfl (gtL (by decide)) (by decide)
    case oo =>
      refine (okc gg0 okn)
      all_goals ((try simp (disch := omega) only [SS]); first | done | omega | assumption | (simp (disch := omega) only [SS] at *; first | done | omega | assumption) | (simp_all; done))
    case rr =>
      refine ⟨?_, trivial⟩
      unfold tq
      simp_all

def tqP : PC := { args := [.v (.vs 0)], heap := [], gs := [], G := 25, tp := 223, n := 80, n' := 90, cond := fun e => true, v := fun e => vS (tq (eS e 0 [])), post := fun e => [] }
theorem tqP_pc : PC.Runs Tryd.prog 81 Tryd.f81 (bodyOf Tryd.f81) tqP := ⟨Tryd.func81, by kernel_rfl, (fun g hg => by first | (cases hg; done) | (revert g; show ∀ g ∈ ([] : List Nat), g < 25; decide)), fun e H hc => by
  have hc : (true) = true := hc
  try simp only [Bool.and_eq_true, decide_eq_true_eq, Nat.beq_eq] at hc
  exact tq0 (eS e 0 [])⟩
theorem wrLo_p0 (F : Ix → List UInt8) (c : Int) :
    isEnd (evTill Tryd.prog [] 300 (99) 900 45 [.code (bodyOf Tryd.f45)] (envOf [vN c] Tryd.f45.ntmps) (tabW F ++ ([])) ⟨[.s true], 80⟩) (endP ([]) (vS []) ([]) 100) =
    (OkL [(decide (c < (240 : Int)), true)] ∧ ([] : List UInt8) = [] ∧ True) := by kernel_rfl

set_option maxHeartbeats 4000000 in
theorem wrLo (F : Ix → List UInt8) (c : Int) (h : c < 240) :
    RunsTo Tryd.prog 45 [.code (bodyOf Tryd.f45)] (envOf [vN c] Tryd.f45.ntmps) (Sx.look (tabW F ++ ([]))) 80 (vS []) (Sx.look ([])) 100 := by
  refine runs_last baseO (Sx.Ends.of (wrLo_p0 F c) ⟨?oo, ?rr⟩) (by kernel_rfl) rfl (gtL (by decide)) (by decide)
  case oo =>
    refine (okc ?_ okn)
    all_goals ((try simp (disch := omega) only [SS]); first | done | omega | assumption | (simp (disch := omega) only [SS] at *; first | done | omega | assumption) | (simp_all; done))
  case rr =>
    try simp (disch := omega) only [SS]
    repeat' apply And.intro
    all_goals first | exact True.intro | with_reducible rfl | omega | (intros; first | exact True.intro | with_reducible rfl | omega | (simp_all; done)) | (simp_all; done) | rfl

theorem wrHi_p0 (F : Ix → List UInt8) (c : Int) :
    isEnd (evTill Tryd.prog [] 300 (99) 900 45 [.code (bodyOf Tryd.f45)] (envOf [vN c] Tryd.f45.ntmps) (tabW F ++ ([])) ⟨[.s false, .s true], 80⟩) (endP ([]) (vS []) ([]) 100) =
    (OkL [(decide (c < (240 : Int)), false), (decide (c > (255 : Int)), true)] ∧ ([] : List UInt8) = [] ∧ True) := by kernel_rfl

set_option maxHeartbeats 4000000 in
theorem wrHi (F : Ix → List UInt8) (c : Int) (h : 255 < c) :
    RunsTo Tryd.prog 45 [.code (bodyOf Tryd.f45)] (envOf [vN c] Tryd.f45.ntmps) (Sx.look (tabW F ++ ([]))) 80 (vS []) (Sx.look ([])) 100 := by
  refine runs_last baseO (Sx.Ends.of (wrHi_p0 F c) ⟨?oo, ?rr⟩) (by kernel_rfl) rfl (gtL (by decide)) (by decide)
  case oo =>
    refine (okc ?_ (okc ?_ okn))
    all_goals ((try simp (disch := omega) only [SS]); first | done | omega | assumption | (simp (disch := omega) only [SS] at *; first | done | omega | assumption) | (simp_all; done))
  case rr =>
    try simp (disch := omega) only [SS]
    repeat' apply And.intro
    all_goals first | exact True.intro | with_reducible rfl | omega | (intros; first | exact True.intro | with_reducible rfl | omega | (simp_all; done)) | (simp_all; done) | rfl

theorem wrIn_p0 (F : Ix → List UInt8) (c : Int) :
    isEnd (evTill Tryd.prog [] 300 (99) 900 45 [.code (bodyOf Tryd.f45)] (envOf [vN c] Tryd.f45.ntmps) (tabW F ++ ([])) ⟨[.s false, .s false, .s true, .s true], 80⟩) (endP ([]) (vS (F [(c - 240).toNat])) ([]) 100) =
    (OkL [(decide (c < (240 : Int)), false), (decide (c > (255 : Int)), false), (decide ((0 : Int) ≤ IntKind.i64.wrap (c - (240 : Int)) ∧ IntKind.i64.wrap (c - (240 : Int)) < (↑(16 : Nat) : Int)), true), ((IntKind.i64.wrap (c - (240 : Int))).toNat.blt (16 : Nat), true)] ∧ F [(c - (240 : Int)).toNat] = F [(IntKind.i64.wrap (c - (240 : Int))).toNat] ∧ True) := by kernel_rfl

set_option maxHeartbeats 4000000 in
theorem wrIn (F : Ix → List UInt8) (c : Int) (h : 240 ≤ c ∧ c ≤ 255) :
    RunsTo Tryd.prog 45 [.code (bodyOf Tryd.f45)] (envOf [vN c] Tryd.f45.ntmps) (Sx.look (tabW F ++ ([]))) 80 (vS (F [(c - 240).toNat])) (Sx.look ([])) 100 := by
  have hw : IntKind.i64.wrap (c - 240) = c - 240 := wr64 (by omega)
  refine runs_last baseO (Sx.Ends.of (wrIn_p0 F c) ⟨?oo, ?rr⟩) (by kernel_rfl) rfl (gtL (by decide)) (by decide)
  case oo =>
    refine (okc ?_ (okc ?_ (okc ?_ (okc ?_ okn))))
    all_goals ((try simp (disch := omega) only [SS, hw, Nat.zero_add]); first | done | omega | assumption | (simp (disch := omega) only [SS, hw, Nat.zero_add] at *; first | done | omega | assumption) | (simp_all; done))
  case rr =>
    try simp (disch := omega) only [SS, hw, Nat.zero_add]
    repeat' apply And.intro
    all_goals first | exact True.intro | with_reducible rfl | omega | (intros; first | exact True.intro | with_reducible rfl | omega | (simp_all; done)) | (simp_all; done) | rfl

theorem wrI (F : Ix → List UInt8) (c : Int) : RunsTo Tryd.prog 45 [.code (bodyOf Tryd.f45)] (envOf [vN c] Tryd.f45.ntmps) (Sx.look (tabW F ++ ([]))) 80 (vS (wordG F c)) (Sx.look []) 100 := by
  unfold wordG
  by_cases h : 240 ≤ c ∧ c ≤ 255
  · rw [if_pos h]; exact wrIn F c h
  · rw [if_neg h]
    by_cases h2 : c < 240
    · exact wrLo F c h2
    · exact wrHi F c (by omega)
theorem app_fn {α : Type} (P : Ix → α) (i : Nat) (g : Ix → α) (hg : g [0] = P [i]) : ∀ k, k < i + 1 → P [k] = appF i 0 (fun is => P is) g [k] := fun k hk => by
  simp only [appF, Nat.zero_add]
  split
  · rfl
  · have : k = i := by omega
    subst this
    rw [Nat.sub_self]; exact hg.symm
def wrP : PC := { args := [.v (.vi .i64 0)], heap := [], fams := [], tabs := [⟨6, false, 16, .tn 16 (.vs 8)⟩], gs := [], G := 25, tp := 223, n := 80, n' := 100, cond := fun e => true, v := fun e => vS (wordG (eS e 8) (eI e 0 [])), post := fun e => [] }
theorem wrP_pc : PC.Runs Tryd.prog 45 Tryd.f45 (bodyOf Tryd.f45) wrP := ⟨Tryd.func45, by kernel_rfl, (fun g hg => by first | (cases hg; done) | (revert g; show ∀ g ∈ ([] : List Nat), g < 25; decide)), fun e H hc => by
  have hc : (true) = true := hc
  try simp only [Bool.and_eq_true, decide_eq_true_eq, Nat.beq_eq] at hc
  exact wrI (eS e 8) (eI e 0 [])⟩
def sumsY : List (FuncId × Summ) := [(45, wrP.summ 50), (72, naP.summ 50), (81, tqP.summ 50), (79, joinSumm)]
theorem baseY : Base0 Tryd.prog sumsY := ((((baseO.cons Tryd.func79 (by kernel_rfl) joinSumm_ok).cons Tryd.func81 (by kernel_rfl) (PC.summ_ok tqP_pc gtopG)).cons Tryd.func72 (by kernel_rfl) (PC.summ_ok naP_pc gtopG)).cons Tryd.func45 (by kernel_rfl) (PC.summ_ok wrP_pc gtopG))
theorem liStart_p0 (N : Nat) (V O : Ix → Int) (F : Ix → List UInt8) (G : Ix → Int) :
    isMore (evTill Tryd.prog sumsY 300 (behind Tryd.f57 0) 900 57 [.code (bodyOf Tryd.f57)] (envOf [vL 60 2 N] Tryd.f57.ntmps) ((eE 60 N V O ++ (tabW F ++ tabF G)) ++ ([])) ⟨[], 80⟩) (moreP (headOf Tryd.f57 0) ([((101 : Nat), Rn.nil (1 : Nat))]) Tryd.f57.ntmps ([(3, vL 101 1 (0)), (6, vL 60 2 N), (7, vN N), (8, vN (0 : Nat))]) ([⟨101, true, none, 1, .ta (0) (.vs (partF F V O))⟩]) 500) =
    (OkL [] ∧ headOf Tryd.f57 (0 : Nat) = headOf Tryd.f57 (0 : Nat) ∧ ((0 : Nat) = (0 : Nat) ∧ ((0 : Nat) = (0 : Nat) ∧ N = N) ∧ (↑N : Int) = (↑N : Int) ∧ (↑(0 : Nat) : Int) = (0 : Int)) ∧ (0 : Nat) = (0 : Nat)) := by kernel_rfl

set_option maxHeartbeats 4000000 in
theorem liStart (N : Nat) (V O : Ix → Int) (F : Ix → List UInt8) (G : Ix → Int)  (v : SV) (L' : HF) (next : RunsTo Tryd.prog 57 (headOf Tryd.f57 0) (envAt Tryd.f57.ntmps ([(3, vL 101 1 (0)), (6, vL 60 2 N), (7, vN N), (8, vN (0 : Nat))])) (Sx.look ((eE 60 N V O ++ (tabW F ++ tabF G)) ++ ([⟨101, true, none, 1, .ta (0) (.vs (partF F V O))⟩]))) 80 (v) (L') 500) :
    RunsTo Tryd.prog 57 [.code (bodyOf Tryd.f57)] (envOf [vL 60 2 N] Tryd.f57.ntmps) (Sx.look ((eE 60 N V O ++ (tabW F ++ tabF G)) ++ ([]))) 80 (v) (L') 500 := by
  refine runs_more baseY (More.of (liStart_p0 N V O F G) ⟨?oo, rfl, ?rr⟩) (by kernel_rfl) (by kernel_rfl) rfl (gtL (by decide)) (by decide) next
  case oo =>
    clear next
    refine okn
    all_goals ((try simp (disch := omega) only [SS]); first | done | omega | assumption | (simp (disch := omega) only [SS] at *; first | done | omega | assumption) | (simp_all; done))
  case rr =>
    clear next
    try simp (disch := omega) only [SS]
    repeat' apply And.intro
    all_goals first | exact True.intro | with_reducible rfl | omega | (intros; first | exact True.intro | with_reducible rfl | omega | (simp_all; done)) | (simp_all; done) | rfl

theorem liRound_p0 (N : Nat) (V O : Ix → Int) (F : Ix → List UInt8) (G : Ix → Int) (i : Nat) :
    isMore (evTill Tryd.prog sumsY 300 (behind Tryd.f57 0) 900 57 (headOf Tryd.f57 0) (envAt Tryd.f57.ntmps ([(3, vL 101 1 (i)), (6, vL 60 2 N), (7, vN N), (8, vN (i : Nat))])) ((eE 60 N V O ++ (tabW F ++ tabF G)) ++ ([⟨101, true, none, 1, .ta (i) (.vs (partF F V O))⟩])) ⟨[.s true, .s true, .s true, .s true, .t, .t, .s true, .s true, .t, .s true, .t, .s true, .s true], 120⟩) (moreP (headOf Tryd.f57 0) ([((101 : Nat), Rn.to (322 : Nat))]) Tryd.f57.ntmps ([(3, vL 101 1 (i + 1)), (6, vL 60 2 N), (7, vN N), (8, vN (i + 1 : Nat))]) ([⟨101, true, none, 1, .ta (i + 1) (.vs (partF F V O))⟩]) 500) =
    (OkL [(decide ((↑i : Int) < (↑N : Int)), true), (decide ((0 : Int) ≤ (↑i : Int) ∧ (↑i : Int) < (↑N : Int)), true), (((0 : Nat) + (↑i : Int).toNat).blt N, true), (((0 : Nat) + (↑i : Int).toNat).blt N, true), (decide ((tq (wordG F (V [(0 : Nat) + (↑i : Int).toNat]))).length + (1 : Nat) ≤ (9223372036854775807 : Nat)), true), (decide (G [(2 : Nat)] = (100 : Int)), true), (decide ((tq (wordG F (V [(0 : Nat) + (↑i : Int).toNat])) ++ [(32 : UInt8)]).length + (tq (nameC (O [(0 : Nat) + (↑i : Int).toNat]))).length ≤ (9223372036854775807 : Nat)), true), (((0 : Nat) + i).ble i, true), (decide (((2 : Nat) * (i + (1 : Nat)) + (192 : Nat)) * (16 : Nat) ≤ (281474976710656 : Nat)), true)] ∧ headOf Tryd.f57 (0 : Nat) = headOf Tryd.f57 (0 : Nat) ∧ (((0 : Nat) = (0 : Nat) ∧ i + (1 : Nat) = i + (1 : Nat)) ∧ ((0 : Nat) = (0 : Nat) ∧ N = N) ∧ (↑N : Int) = (↑N : Int) ∧ (↑(i + (1 : Nat)) : Int) = IntKind.i64.wrap ((↑i : Int) + (1 : Int))) ∧ i + (1 : Nat) = i + (1 : Nat) ∧ ∀ (i_1 : Nat), i_1 < i + (1 : Nat) → partF F V O [i_1] = appF i (0 : Nat) (partF F V O) (fun js => tq (wordG F (V [(0 : Nat) + (↑i : Int).toNat])) ++ [(32 : UInt8)] ++ tq (nameC (O [(0 : Nat) + (↑i : Int).toNat]))) [i_1]) := by kernel_rfl

set_option maxHeartbeats 4000000 in
theorem liRound (N : Nat) (V O : Ix → Int) (F : Ix → List UInt8) (G : Ix → Int) (i : Nat) (hi : i < N) (hN : N ≤ 1000) (hG : G [2] = 100) (h1 : (tq (wordG F (V [i]))).length ≤ 100) (h2 : (tq (nameC (O [i]))).length ≤ 1000) (v : SV) (L' : HF) (next : RunsTo Tryd.prog 57 (headOf Tryd.f57 0) (envAt Tryd.f57.ntmps ([(3, vL 101 1 (i + 1)), (6, vL 60 2 N), (7, vN N), (8, vN (i + 1 : Nat))])) (Sx.look ((eE 60 N V O ++ (tabW F ++ tabF G)) ++ ([⟨101, true, none, 1, .ta (i + 1) (.vs (partF F V O))⟩]))) 80 (v) (L') 500) :
    RunsTo Tryd.prog 57 (headOf Tryd.f57 0) (envAt Tryd.f57.ntmps ([(3, vL 101 1 (i)), (6, vL 60 2 N), (7, vN N), (8, vN (i : Nat))])) (Sx.look ((eE 60 N V O ++ (tabW F ++ tabF G)) ++ ([⟨101, true, none, 1, .ta (i) (.vs (partF F V O))⟩]))) 80 (v) (L') 500 := by
  have hw : IntKind.i64.wrap ((i : Int) + 1) = ((i + 1 : Nat) : Int) := by rw [wr64 (by omega)]; rfl
  refine runs_more baseY (More.of (liRound_p0 N V O F G i) ⟨?oo, rfl, ?rr⟩) (by kernel_rfl) (by kernel_rfl) rfl (gtL (by decide)) (by decide) next
  case oo =>
    clear next
    refine (okc ?_ (okc ?_ (okc ?_ (okc ?_ (okc ?_ (okc ?_ (okc ?_ (okc ?_ (okc ?_ okn)))))))))
    all_goals ((try simp (disch := omega) only [SS, hw, hG, List.length_append, List.length_cons, List.length_nil]); first | done | omega | assumption | (simp (disch := omega) only [SS, hw, hG, List.length_append, List.length_cons, List.length_nil] at *; first | done | omega | assumption) | (simp_all; done))
  case rr =>
    clear next
    simp (disch := omega) only [SS, hw, Go.Sx.sum]
    repeat' apply And.intro
    all_goals first | exact True.intro | with_reducible rfl | omega | exact app_fn (partF F V O) _ _ rfl | (intro k hk; exact app_fn (partF F V O) i _ rfl k hk) | (intros; rfl) | (simp_all; done)

theorem liEnd_p0 (N : Nat) (V O : Ix → Int) (F : Ix → List UInt8) (G : Ix → Int) :
    isEnd (evTill Tryd.prog sumsY 300 (99) 900 57 (headOf Tryd.f57 0) (envAt Tryd.f57.ntmps ([(3, vL 101 1 (N)), (6, vL 60 2 N), (7, vN N), (8, vN (N : Nat))])) ((eE 60 N V O ++ (tabW F ++ tabF G)) ++ ([⟨101, true, none, 1, .ta (N) (.vs (partF F V O))⟩])) ⟨[.s false, .s true, .s true, .s true], 120⟩) (endP ([]) (vS (joinS (rowS (partF F V O) [] 0 N) [44, 32])) ([]) 500) =
    (OkL [(decide ((↑N : Int) < (↑N : Int)), false), (((0 : Nat) + N).ble N, true), (N.ble (1000 : Nat), true), ((joinS (rowS (partF F V O) [] (0 : Nat) N) [(44 : UInt8), (32 : UInt8)]).length.ble (100000 : Nat), true)] ∧ joinS (rowS (partF F V O) [] (0 : Nat) N) [(44 : UInt8), (32 : UInt8)] = joinS (rowS (partF F V O) [] (0 : Nat) N) [(44 : UInt8), (32 : UInt8)] ∧ True) := by kernel_rfl

set_option maxHeartbeats 4000000 in
theorem liEnd (N : Nat) (V O : Ix → Int) (F : Ix → List UInt8) (G : Ix → Int) (hN : N ≤ 1000) (hj : (joinS (rowS (partF F V O) [] 0 N) [44, 32]).length ≤ 100000) :
    RunsTo Tryd.prog 57 (headOf Tryd.f57 0) (envAt Tryd.f57.ntmps ([(3, vL 101 1 (N)), (6, vL 60 2 N), (7, vN N), (8, vN (N : Nat))])) (Sx.look ((eE 60 N V O ++ (tabW F ++ tabF G)) ++ ([⟨101, true, none, 1, .ta (N) (.vs (partF F V O))⟩]))) 80 (vS (joinS (rowS (partF F V O) [] 0 N) [44, 32])) (Sx.look ([])) 500 := by
  refine runs_last baseY (Sx.Ends.of (liEnd_p0 N V O F G) ⟨?oo, ?rr⟩) (by kernel_rfl) rfl (gtL (by decide)) (by decide)
  case oo =>
    refine (okc ?_ (okc ?_ (okc ?_ (okc ?_ okn))))
    all_goals first | omega | exact decide_eq_true hj | exact hj | (simp (disch := omega) only [SS, Go.Sx.sum]; first | done | omega) | (simp_all [Nat.ble_eq]; done) | (exact Nat.ble_eq.mpr hj)
  case rr =>
    try simp (disch := omega) only [SS, hj, Go.Sx.sum]
    repeat' apply And.intro
    all_goals first | exact True.intro | with_reducible rfl | omega | (intros; first | exact True.intro | with_reducible rfl | omega | (simp_all; done)) | (simp_all; done) | rfl

end Go.Proofs.YtealbjkhjpmilaaDoor

