/- Grammar: the document's bytes. -/
import Derived.Test.YtcphocfnhekdaaaDoorQfC
import Derived.Test.YtcphocfnhekdaaaDoorQpC
set_option linter.unusedSimpArgs false
set_option linter.unusedVariables false
set_option maxRecDepth 100000
namespace Go.Proofs.YtcphocfnhekdaaaDoor
open Go.Sx

open CleanR GramR
def tk (k c o : Nat) (b : List UInt8) : Tok := ⟨k, c, o, b⟩
def dtT (k c o : Nat) (b : List UInt8) : Tr := .tc (.vi .i64 fun _ => (k : Int)) (.tc (.vi .i64 fun _ => (c : Int)) (.tc (.vi .i64 fun _ => (o : Int)) (.tc (.vs fun _ => b) (.tc (.vb fun _ => false) .t0))))
def zObj (p : Nat) : List Ent := [⟨p, true, none, 5, dtT 0 0 0 []⟩]
def nxV (r : Tok × Nat) : SV := .tup [(true, dtT r.1.kind r.1.code r.1.opt r.1.body), (false, .vi .i64 fun _ => (r.2 : Int))]
def sb (s : List UInt8) (i : Nat) : Nat := (s.getD i 0).toNat
theorem slice1 (s : List UInt8) {i : Nat} (h : i < s.length) : List.drop i (List.take (i + 1) s) = [s.getD i 0] := by
  rw [List.drop_take, show i + 1 - i = 1 by omega, List.drop_eq_getElem_cons h, List.take_succ_cons, List.take_zero]
  simp [List.getD_eq_getElem?_getD, List.getElem?_eq_getElem h]
theorem sb_lt (s : List UInt8) (i : Nat) : sb s i < 256 := UInt8.toNat_lt _
theorem sb_def (s : List UInt8) (i : Nat) : (s.getD i 0).toNat = sb s i := rfl
theorem sb_eq {s : List UInt8} {i : Nat} {c : UInt8} (h : sb s i = c.toNat) : s.getD i 0 = c := UInt8.toNat_inj.1 h
theorem nx0_p0 (s : List UInt8) :
    isEnd (evTill Tryd.prog [] 300 (99) 900 60 [.code (bodyOf Tryd.f60)] (envOf [vS s] Tryd.f60.ntmps) ([] ++ ([])) ⟨[.s true], 80⟩) (endP ([]) (nxV ((z0, 0))) ([]) 200) =
    (OkL [((↑s.length : Int) == (0 : Int), true)] ∧ (((↑(0 : Nat) : Int) = (0 : Int) ∧ (↑(0 : Nat) : Int) = (0 : Int) ∧ (↑(0 : Nat) : Int) = (0 : Int) ∧ ([] : List UInt8) = [] ∧ false = false) ∧ (↑(0 : Nat) : Int) = (0 : Int) ∧ True) ∧ True) := by kernel_rfl

set_option maxHeartbeats 4000000 in
theorem nx0 (s : List UInt8) (hs : s.length ≤ 1000) (h : s.length = 0)  :
    RunsTo Tryd.prog 60 [.code (bodyOf Tryd.f60)] (envOf [vS s] Tryd.f60.ntmps) (Sx.look ([] ++ ([]))) 80 (nxV ((z0, 0))) (Sx.look ([])) 200 := by
  have q0 := sb_lt s 0
  have q1 := sb_lt s 1
  have q2 := sb_lt s 2
  have u0 : IntKind.i64.wrap (sb s 0 : Int) = (sb s 0 : Int) := wr64 (by omega)
  have u1 : IntKind.i64.wrap (sb s 1 : Int) = (sb s 1 : Int) := wr64 (by omega)
  have u2 : IntKind.i64.wrap (sb s 2 : Int) = (sb s 2 : Int) := wr64 (by omega)
  refine runs_last baseO (Sx.Ends.of (nx0_p0 s) ⟨?oo, ?rr⟩) (by kernel_rfl) rfl (gtL (by decide)) (by decide)
  case oo =>
    refine (okc ?_ okn)
    all_goals ((try simp (disch := omega) only [SS, u0, u1, u2, sb_def, Int.toNat_natCast]); first | done | omega | assumption | (simp (disch := omega) only [SS, u0, u1, u2, sb_def, Int.toNat_natCast] at *; first | done | omega | assumption) | (simp_all; done))
  case rr =>
    try simp (disch := omega) only [SS, u0, u1, u2, sb_def, Int.toNat_natCast]
    repeat' apply And.intro
    all_goals first | exact True.intro | with_reducible rfl | omega | (simp_all; done) | (simp [nxV, dtT, z0]; done) | rfl

theorem nxD_p0 (s : List UInt8) :
    isEnd (evTill Tryd.prog [] 300 (99) 900 60 [.code (bodyOf Tryd.f60)] (envOf [vS s] Tryd.f60.ntmps) ([] ++ ([])) ⟨[.s false, .s true, .s true, .s true], 80⟩) (endP ([]) (nxV ((tk 1 (sb s 0) 0 [], 1))) ([]) 200) =
    (OkL [((↑s.length : Int) == (0 : Int), false), (decide ((0 : Int) ≤ (0 : Int) ∧ (0 : Int) < (↑s.length : Int)), true), ((↑(s.getD (0 : Nat) (0 : UInt8)).toNat : Int) != (255 : Int), true), (decide ((0 : Int) ≤ (0 : Int) ∧ (0 : Int) < (↑s.length : Int)), true)] ∧ (((↑(1 : Nat) : Int) = (1 : Int) ∧ (↑(sb s (0 : Nat)) : Int) = IntKind.i64.wrap (↑(s.getD (0 : Nat) (0 : UInt8)).toNat : Int) ∧ (↑(0 : Nat) : Int) = (0 : Int) ∧ ([] : List UInt8) = [] ∧ false = false) ∧ (↑(1 : Nat) : Int) = (1 : Int) ∧ True) ∧ True) := by kernel_rfl

set_option maxHeartbeats 4000000 in
theorem nxD (s : List UInt8) (hs : s.length ≤ 1000) (h : 0 < s.length) (h0 : sb s 0 ≠ 255)  :
    RunsTo Tryd.prog 60 [.code (bodyOf Tryd.f60)] (envOf [vS s] Tryd.f60.ntmps) (Sx.look ([] ++ ([]))) 80 (nxV ((tk 1 (sb s 0) 0 [], 1))) (Sx.look ([])) 200 := by
  have q0 := sb_lt s 0
  have q1 := sb_lt s 1
  have q2 := sb_lt s 2
  have u0 : IntKind.i64.wrap (sb s 0 : Int) = (sb s 0 : Int) := wr64 (by omega)
  have u1 : IntKind.i64.wrap (sb s 1 : Int) = (sb s 1 : Int) := wr64 (by omega)
  have u2 : IntKind.i64.wrap (sb s 2 : Int) = (sb s 2 : Int) := wr64 (by omega)
  refine runs_last baseO (Sx.Ends.of (nxD_p0 s) ⟨?oo, ?rr⟩) (by kernel_rfl) rfl (gtL (by decide)) (by decide)
  case oo =>
    refine (okc ?_ (okc ?_ (okc ?_ (okc ?_ okn))))
    all_goals ((try simp (disch := omega) only [SS, u0, u1, u2, sb_def, Int.toNat_natCast]); first | done | omega | assumption | (simp (disch := omega) only [SS, u0, u1, u2, sb_def, Int.toNat_natCast] at *; first | done | omega | assumption) | (simp_all; done))
  case rr =>
    try simp (disch := omega) only [SS, u0, u1, u2, sb_def, Int.toNat_natCast]
    repeat' apply And.intro
    all_goals first | exact True.intro | with_reducible rfl | omega | (simp_all; done) | (simp [nxV, dtT, z0]; done) | rfl

theorem nx1_p0 (s : List UInt8) :
    isEnd (evTill Tryd.prog [] 300 (99) 900 60 [.code (bodyOf Tryd.f60)] (envOf [vS s] Tryd.f60.ntmps) ([] ++ ([])) ⟨[.s false, .s true, .s false, .s true], 80⟩) (endP ([]) (nxV ((z0, 0))) ([]) 200) =
    (OkL [((↑s.length : Int) == (0 : Int), false), (decide ((0 : Int) ≤ (0 : Int) ∧ (0 : Int) < (↑s.length : Int)), true), ((↑(s.getD (0 : Nat) (0 : UInt8)).toNat : Int) != (255 : Int), false), ((↑s.length : Int) == (1 : Int), true)] ∧ (((↑(0 : Nat) : Int) = (0 : Int) ∧ (↑(0 : Nat) : Int) = (0 : Int) ∧ (↑(0 : Nat) : Int) = (0 : Int) ∧ ([] : List UInt8) = [] ∧ false = false) ∧ (↑(0 : Nat) : Int) = (0 : Int) ∧ True) ∧ True) := by kernel_rfl

set_option maxHeartbeats 4000000 in
theorem nx1 (s : List UInt8) (hs : s.length ≤ 1000) (h : s.length = 1) (h0 : sb s 0 = 255)  :
    RunsTo Tryd.prog 60 [.code (bodyOf Tryd.f60)] (envOf [vS s] Tryd.f60.ntmps) (Sx.look ([] ++ ([]))) 80 (nxV ((z0, 0))) (Sx.look ([])) 200 := by
  have q0 := sb_lt s 0
  have q1 := sb_lt s 1
  have q2 := sb_lt s 2
  have u0 : IntKind.i64.wrap (sb s 0 : Int) = (sb s 0 : Int) := wr64 (by omega)
  have u1 : IntKind.i64.wrap (sb s 1 : Int) = (sb s 1 : Int) := wr64 (by omega)
  have u2 : IntKind.i64.wrap (sb s 2 : Int) = (sb s 2 : Int) := wr64 (by omega)
  refine runs_last baseO (Sx.Ends.of (nx1_p0 s) ⟨?oo, ?rr⟩) (by kernel_rfl) rfl (gtL (by decide)) (by decide)
  case oo =>
    refine (okc ?_ (okc ?_ (okc ?_ (okc ?_ okn))))
    all_goals ((try simp (disch := omega) only [SS, u0, u1, u2, sb_def, Int.toNat_natCast]); first | done | omega | assumption | (simp (disch := omega) only [SS, u0, u1, u2, sb_def, Int.toNat_natCast] at *; first | done | omega | assumption) | (simp_all; done))
  case rr =>
    try simp (disch := omega) only [SS, u0, u1, u2, sb_def, Int.toNat_natCast]
    repeat' apply And.intro
    all_goals first | exact True.intro | with_reducible rfl | omega | (simp_all; done) | (simp [nxV, dtT, z0]; done) | rfl

theorem nxE_p0 (s : List UInt8) :
    isEnd (evTill Tryd.prog [] 300 (99) 900 60 [.code (bodyOf Tryd.f60)] (envOf [vS s] Tryd.f60.ntmps) ([] ++ ([])) ⟨[.s false, .s true, .s false, .s false, .s true, .s true], 80⟩) (endP ([]) (nxV ((tk 1 255 0 [], 2))) ([]) 200) =
    (OkL [((↑s.length : Int) == (0 : Int), false), (decide ((0 : Int) ≤ (0 : Int) ∧ (0 : Int) < (↑s.length : Int)), true), ((↑(s.getD (0 : Nat) (0 : UInt8)).toNat : Int) != (255 : Int), false), ((↑s.length : Int) == (1 : Int), false), (decide ((0 : Int) ≤ (1 : Int) ∧ (1 : Int) < (↑s.length : Int)), true), (IntKind.i64.wrap (↑(s.getD (1 : Nat) (0 : UInt8)).toNat : Int) == (255 : Int), true)] ∧ (((↑(1 : Nat) : Int) = (1 : Int) ∧ (↑(255 : Nat) : Int) = (255 : Int) ∧ (↑(0 : Nat) : Int) = (0 : Int) ∧ ([] : List UInt8) = [] ∧ false = false) ∧ (↑(2 : Nat) : Int) = (2 : Int) ∧ True) ∧ True) := by kernel_rfl

set_option maxHeartbeats 4000000 in
theorem nxE (s : List UInt8) (hs : s.length ≤ 1000) (h : 1 < s.length) (h0 : sb s 0 = 255) (h1 : sb s 1 = 255)  :
    RunsTo Tryd.prog 60 [.code (bodyOf Tryd.f60)] (envOf [vS s] Tryd.f60.ntmps) (Sx.look ([] ++ ([]))) 80 (nxV ((tk 1 255 0 [], 2))) (Sx.look ([])) 200 := by
  have q0 := sb_lt s 0
  have q1 := sb_lt s 1
  have q2 := sb_lt s 2
  have u0 : IntKind.i64.wrap (sb s 0 : Int) = (sb s 0 : Int) := wr64 (by omega)
  have u1 : IntKind.i64.wrap (sb s 1 : Int) = (sb s 1 : Int) := wr64 (by omega)
  have u2 : IntKind.i64.wrap (sb s 2 : Int) = (sb s 2 : Int) := wr64 (by omega)
  refine runs_last baseO (Sx.Ends.of (nxE_p0 s) ⟨?oo, ?rr⟩) (by kernel_rfl) rfl (gtL (by decide)) (by decide)
  case oo =>
    refine (okc ?_ (okc ?_ (okc ?_ (okc ?_ (okc ?_ (okc ?_ okn))))))
    all_goals ((try simp (disch := omega) only [SS, u0, u1, u2, sb_def, Int.toNat_natCast]); first | done | omega | assumption | (simp (disch := omega) only [SS, u0, u1, u2, sb_def, Int.toNat_natCast] at *; first | done | omega | assumption) | (simp_all; done))
  case rr =>
    try simp (disch := omega) only [SS, u0, u1, u2, sb_def, Int.toNat_natCast]
    repeat' apply And.intro
    all_goals first | exact True.intro | with_reducible rfl | omega | (simp_all; done) | (simp [nxV, dtT, z0]; done) | rfl

theorem nxP_p0 (s : List UInt8) :
    isEnd (evTill Tryd.prog [] 300 (99) 900 60 [.code (bodyOf Tryd.f60)] (envOf [vS s] Tryd.f60.ntmps) ([] ++ ([])) ⟨[.s false, .s true, .s false, .s false, .s true, .s false, .s true], 80⟩) (endP ([]) (nxV ((tk 2 (sb s 1) 0 [], 2))) ([]) 200) =
    (OkL [((↑s.length : Int) == (0 : Int), false), (decide ((0 : Int) ≤ (0 : Int) ∧ (0 : Int) < (↑s.length : Int)), true), ((↑(s.getD (0 : Nat) (0 : UInt8)).toNat : Int) != (255 : Int), false), ((↑s.length : Int) == (1 : Int), false), (decide ((0 : Int) ≤ (1 : Int) ∧ (1 : Int) < (↑s.length : Int)), true), (IntKind.i64.wrap (↑(s.getD (1 : Nat) (0 : UInt8)).toNat : Int) == (255 : Int), false), (decide (IntKind.i64.wrap (↑(s.getD (1 : Nat) (0 : UInt8)).toNat : Int) < (250 : Int)), true)] ∧ (((↑(2 : Nat) : Int) = (2 : Int) ∧ (↑(sb s (1 : Nat)) : Int) = IntKind.i64.wrap (↑(s.getD (1 : Nat) (0 : UInt8)).toNat : Int) ∧ (↑(0 : Nat) : Int) = (0 : Int) ∧ ([] : List UInt8) = [] ∧ false = false) ∧ (↑(2 : Nat) : Int) = (2 : Int) ∧ True) ∧ True) := by kernel_rfl

set_option maxHeartbeats 4000000 in
theorem nxP (s : List UInt8) (hs : s.length ≤ 1000) (h : 1 < s.length) (h0 : sb s 0 = 255) (h1 : sb s 1 < 250)  :
    RunsTo Tryd.prog 60 [.code (bodyOf Tryd.f60)] (envOf [vS s] Tryd.f60.ntmps) (Sx.look ([] ++ ([]))) 80 (nxV ((tk 2 (sb s 1) 0 [], 2))) (Sx.look ([])) 200 := by
  have q0 := sb_lt s 0
  have q1 := sb_lt s 1
  have q2 := sb_lt s 2
  have u0 : IntKind.i64.wrap (sb s 0 : Int) = (sb s 0 : Int) := wr64 (by omega)
  have u1 : IntKind.i64.wrap (sb s 1 : Int) = (sb s 1 : Int) := wr64 (by omega)
  have u2 : IntKind.i64.wrap (sb s 2 : Int) = (sb s 2 : Int) := wr64 (by omega)
  refine runs_last baseO (Sx.Ends.of (nxP_p0 s) ⟨?oo, ?rr⟩) (by kernel_rfl) rfl (gtL (by decide)) (by decide)
  case oo =>
    refine (okc ?_ (okc ?_ (okc ?_ (okc ?_ (okc ?_ (okc ?_ (okc ?_ okn)))))))
    all_goals ((try simp (disch := omega) only [SS, u0, u1, u2, sb_def, Int.toNat_natCast]); first | done | omega | assumption | (simp (disch := omega) only [SS, u0, u1, u2, sb_def, Int.toNat_natCast] at *; first | done | omega | assumption) | (simp_all; done))
  case rr =>
    try simp (disch := omega) only [SS, u0, u1, u2, sb_def, Int.toNat_natCast]
    repeat' apply And.intro
    all_goals first | exact True.intro | with_reducible rfl | omega | (simp_all; done) | (simp [nxV, dtT, z0]; done) | rfl

theorem nx2_p0 (s : List UInt8) :
    isEnd (evTill Tryd.prog [] 300 (99) 900 60 [.code (bodyOf Tryd.f60)] (envOf [vS s] Tryd.f60.ntmps) ([] ++ ([])) ⟨[.s false, .s true, .s false, .s false, .s true, .s false, .s false, .s true], 80⟩) (endP ([]) (nxV ((z0, 0))) ([]) 200) =
    (OkL [((↑s.length : Int) == (0 : Int), false), (decide ((0 : Int) ≤ (0 : Int) ∧ (0 : Int) < (↑s.length : Int)), true), ((↑(s.getD (0 : Nat) (0 : UInt8)).toNat : Int) != (255 : Int), false), ((↑s.length : Int) == (1 : Int), false), (decide ((0 : Int) ≤ (1 : Int) ∧ (1 : Int) < (↑s.length : Int)), true), (IntKind.i64.wrap (↑(s.getD (1 : Nat) (0 : UInt8)).toNat : Int) == (255 : Int), false), (decide (IntKind.i64.wrap (↑(s.getD (1 : Nat) (0 : UInt8)).toNat : Int) < (250 : Int)), false), ((↑s.length : Int) == (2 : Int), true)] ∧ (((↑(0 : Nat) : Int) = (0 : Int) ∧ (↑(0 : Nat) : Int) = (0 : Int) ∧ (↑(0 : Nat) : Int) = (0 : Int) ∧ ([] : List UInt8) = [] ∧ false = false) ∧ (↑(0 : Nat) : Int) = (0 : Int) ∧ True) ∧ True) := by kernel_rfl

set_option maxHeartbeats 4000000 in
theorem nx2 (s : List UInt8) (hs : s.length ≤ 1000) (h : s.length = 2) (h0 : sb s 0 = 255) (h1 : 250 ≤ sb s 1 ∧ sb s 1 ≠ 255)  :
    RunsTo Tryd.prog 60 [.code (bodyOf Tryd.f60)] (envOf [vS s] Tryd.f60.ntmps) (Sx.look ([] ++ ([]))) 80 (nxV ((z0, 0))) (Sx.look ([])) 200 := by
  have q0 := sb_lt s 0
  have q1 := sb_lt s 1
  have q2 := sb_lt s 2
  have u0 : IntKind.i64.wrap (sb s 0 : Int) = (sb s 0 : Int) := wr64 (by omega)
  have u1 : IntKind.i64.wrap (sb s 1 : Int) = (sb s 1 : Int) := wr64 (by omega)
  have u2 : IntKind.i64.wrap (sb s 2 : Int) = (sb s 2 : Int) := wr64 (by omega)
  refine runs_last baseO (Sx.Ends.of (nx2_p0 s) ⟨?oo, ?rr⟩) (by kernel_rfl) rfl (gtL (by decide)) (by decide)
  case oo =>
    refine (okc ?_ (okc ?_ (okc ?_ (okc ?_ (okc ?_ (okc ?_ (okc ?_ (okc ?_ okn))))))))
    all_goals ((try simp (disch := omega) only [SS, u0, u1, u2, sb_def, Int.toNat_natCast]); first | done | omega | assumption | (simp (disch := omega) only [SS, u0, u1, u2, sb_def, Int.toNat_natCast] at *; first | done | omega | assumption) | (simp_all; done))
  case rr =>
    try simp (disch := omega) only [SS, u0, u1, u2, sb_def, Int.toNat_natCast]
    repeat' apply And.intro
    all_goals first | exact True.intro | with_reducible rfl | omega | (simp_all; done) | (simp [nxV, dtT, z0]; done) | rfl

theorem nxW_p0 (s : List UInt8) :
    isEnd (evTill Tryd.prog [] 300 (99) 900 60 [.code (bodyOf Tryd.f60)] (envOf [vS s] Tryd.f60.ntmps) ([] ++ ([])) ⟨[.s false, .s true, .s false, .s false, .s true, .s false, .s false, .s false, .s true, .s true], 80⟩) (endP ([]) (nxV ((tk 3 (sb s 1) (sb s 2) [], 3))) ([]) 200) =
    (OkL [((↑s.length : Int) == (0 : Int), false), (decide ((0 : Int) ≤ (0 : Int) ∧ (0 : Int) < (↑s.length : Int)), true), ((↑(s.getD (0 : Nat) (0 : UInt8)).toNat : Int) != (255 : Int), false), ((↑s.length : Int) == (1 : Int), false), (decide ((0 : Int) ≤ (1 : Int) ∧ (1 : Int) < (↑s.length : Int)), true), (IntKind.i64.wrap (↑(s.getD (1 : Nat) (0 : UInt8)).toNat : Int) == (255 : Int), false), (decide (IntKind.i64.wrap (↑(s.getD (1 : Nat) (0 : UInt8)).toNat : Int) < (250 : Int)), false), ((↑s.length : Int) == (2 : Int), false), (decide (IntKind.i64.wrap (↑(s.getD (1 : Nat) (0 : UInt8)).toNat : Int) > (250 : Int)), true), (decide ((0 : Int) ≤ (2 : Int) ∧ (2 : Int) < (↑s.length : Int)), true)] ∧ (((↑(3 : Nat) : Int) = (3 : Int) ∧ (↑(sb s (1 : Nat)) : Int) = IntKind.i64.wrap (↑(s.getD (1 : Nat) (0 : UInt8)).toNat : Int) ∧ (↑(sb s (2 : Nat)) : Int) = IntKind.i64.wrap (↑(s.getD (2 : Nat) (0 : UInt8)).toNat : Int) ∧ ([] : List UInt8) = [] ∧ false = false) ∧ (↑(3 : Nat) : Int) = (3 : Int) ∧ True) ∧ True) := by kernel_rfl

set_option maxHeartbeats 4000000 in
theorem nxW (s : List UInt8) (hs : s.length ≤ 1000) (h : 2 < s.length) (h0 : sb s 0 = 255) (h1 : 250 < sb s 1 ∧ sb s 1 ≠ 255)  :
    RunsTo Tryd.prog 60 [.code (bodyOf Tryd.f60)] (envOf [vS s] Tryd.f60.ntmps) (Sx.look ([] ++ ([]))) 80 (nxV ((tk 3 (sb s 1) (sb s 2) [], 3))) (Sx.look ([])) 200 := by
  have q0 := sb_lt s 0
  have q1 := sb_lt s 1
  have q2 := sb_lt s 2
  have u0 : IntKind.i64.wrap (sb s 0 : Int) = (sb s 0 : Int) := wr64 (by omega)
  have u1 : IntKind.i64.wrap (sb s 1 : Int) = (sb s 1 : Int) := wr64 (by omega)
  have u2 : IntKind.i64.wrap (sb s 2 : Int) = (sb s 2 : Int) := wr64 (by omega)
  refine runs_last baseO (Sx.Ends.of (nxW_p0 s) ⟨?oo, ?rr⟩) (by kernel_rfl) rfl (gtL (by decide)) (by decide)
  case oo =>
    refine (okc ?_ (okc ?_ (okc ?_ (okc ?_ (okc ?_ (okc ?_ (okc ?_ (okc ?_ (okc ?_ (okc ?_ okn))))))))))
    all_goals ((try simp (disch := omega) only [SS, u0, u1, u2, sb_def, Int.toNat_natCast]); first | done | omega | assumption | (simp (disch := omega) only [SS, u0, u1, u2, sb_def, Int.toNat_natCast] at *; first | done | omega | assumption) | (simp_all; done))
  case rr =>
    try simp (disch := omega) only [SS, u0, u1, u2, sb_def, Int.toNat_natCast]
    repeat' apply And.intro
    all_goals first | exact True.intro | with_reducible rfl | omega | (simp_all; done) | (simp [nxV, dtT, z0]; done) | rfl

theorem nxI (s : List UInt8) (hs : s.length ≤ 1000) (hx : ¬ (2 < s.length ∧ sb s 0 = 255 ∧ sb s 1 = 250)) : RunsTo Tryd.prog 60 [.code (bodyOf Tryd.f60)] (envOf [vS s] Tryd.f60.ntmps) (Sx.look ([] ++ ([]))) 80 (nxV (nextR s)) (Sx.look []) 200 := by
  match s, hs, hx with
  | [], hs, hx => exact nx0 [] hs rfl
  | [c], hs, hx =>
    by_cases h : sb [c] 0 = 255
    · have e : c = 255 := UInt8.toNat_inj.1 h
      have q := nx1 [c] hs rfl h
      subst e; exact q
    · have e : c ≠ 255 := fun q => h (by rw [q]; rfl)
      have q := nxD [c] hs (by simp) h
      rw [show nextR [c] = (tk 1 (sb [c] 0) 0 [], 1) by simp [nextR, e, tk, sb]]; exact q
  | c :: d :: r, hs, hx =>
    by_cases h : sb (c :: d :: r) 0 = 255
    · have e : c = 255 := UInt8.toNat_inj.1 h
      subst e
      by_cases h1 : sb (255 :: d :: r) 1 = 255
      · have e : d = 255 := UInt8.toNat_inj.1 h1
        subst e
        rw [show nextR (255 :: 255 :: r) = (tk 1 255 0 [], 2) by simp [nextR, tk]]
        exact nxE _ hs (by simp) h h1
      · have e : d ≠ 255 := fun q => h1 (by rw [q]; rfl)
        have h1' : d.toNat ≠ 255 := h1
        have hd := d.toNat_lt
        by_cases h2 : d.toNat < 250
        · rw [show nextR (255 :: d :: r) = (tk 2 d.toNat 0 [], 2) by simp [nextR, e, h2, tk]]
          exact nxP _ hs (by simp) h h2
        · match r, hs, hx, h, h1 with
          | [], hs, hx, h, h1 =>
            rw [show nextR [255, d] = (z0, 0) by simp [nextR, e, h2]]
            exact nx2 _ hs rfl h ⟨by show 250 ≤ d.toNat; omega, h1⟩
          | x :: r3, hs, hx, h, h1 =>
            by_cases h3 : 250 < d.toNat
            · rw [show nextR (255 :: d :: x :: r3) = (tk 3 d.toNat x.toNat [], 3) by simp [nextR, e, h2, h3, tk]]
              exact nxW _ hs (by simp) h ⟨h3, h1⟩
            · exact absurd ⟨by simp, h, by show d.toNat = 250; omega⟩ hx
    · have e : c ≠ 255 := fun q => h (by rw [q]; rfl)
      have q := nxD (c :: d :: r) hs (by simp) h
      rw [show nextR (c :: d :: r) = (tk 1 (sb (c :: d :: r) 0) 0 [], 1) by rw [nextR.eq_def]; simp [e, tk, sb]]; exact q
def nxP_ : PC := { args := [.v (.vs 0)], heap := [], gs := [], G := 19, tp := 144, n := 80, n' := 200, cond := fun e => decide ((eS e 0 []).length ≤ 1000) && !(decide (2 < (eS e 0 []).length) && (decide (sb (eS e 0 []) 0 = 255) && decide (sb (eS e 0 []) 1 = 250))), v := fun e => nxV (nextR (eS e 0 [])), post := fun e => [] }
theorem nxP__pc : PC.Runs Tryd.prog 60 Tryd.f60 (bodyOf Tryd.f60) nxP_ := ⟨Tryd.func60, by kernel_rfl, (fun g hg => by first | (cases hg; done) | (revert g; show ∀ g ∈ ([] : List Nat), g < 19; decide)), fun e H hc => by
  have hc : (decide ((eS e 0 []).length ≤ 1000) && !(decide (2 < (eS e 0 []).length) && (decide (sb (eS e 0 []) 0 = 255) && decide (sb (eS e 0 []) 1 = 250)))) = true := hc
  try simp only [Bool.and_eq_true, decide_eq_true_eq, Nat.beq_eq] at hc
  exact nxI (eS e 0 []) hc.1 (by have h := hc.2; rintro ⟨a, b, c⟩; simp [a, b, c] at h)⟩
def itT (x : It) (a t : Nat) : Tr := .tc (.vi .i64 fun _ => (x.kind : Int)) (.tc (.vi .i64 fun _ => (a : Int)) (.tc (.vi .i64 fun _ => (t : Int)) (.tc (.vi .i64 fun _ => (x.code : Int)) (.tc (.vi .i64 fun _ => (x.opt : Int)) (.tc (.vs fun _ => x.body) .t0)))))
def zX : It := ⟨0, 0, 0, []⟩
def itV : Res → SV
  | .ok x n => .tup [(true, itT x 0 0), (false, .vi .i64 fun _ => (n : Int))]
  | .short => .tup [(true, itT zX 0 0), (false, .vi .i64 fun _ => 0)]
  | .form => .tup [(true, itT zX 0 0), (false, .vi .i64 fun _ => -1)]
def resI : Res → Int
  | .ok _ n => (n : Int)
  | .short => 0
  | .form => -1
def itR (r : Res) : SV := .tup [(true, itT (resX r) 0 0), (false, .vi .i64 fun _ => resI r)]
theorem s7Start_p0 (s : List UInt8) :
    isMore (evTill Tryd.prog [] 300 (behind Tryd.f59 0) 900 59 [.code (bodyOf Tryd.f59)] (envOf [vS s] Tryd.f59.ntmps) ([] ++ ([])) ⟨[], 80⟩) (moreP (headOf Tryd.f59 0) ([((101 : Nat), Rn.to (80 : Nat))]) Tryd.f59.ntmps ([(0, vS s), (2, vP 101), (4, vS (([] : List UInt8))), (5, vN (3 : Nat))]) ([⟨101, true, none, 6, itT zX 0 0⟩]) 190) =
    (OkL [] ∧ headOf Tryd.f59 (0 : Nat) = headOf Tryd.f59 (0 : Nat) ∧ (s = s ∧ (0 : Nat) = (0 : Nat) ∧ ([] : List UInt8) = [] ∧ (↑(3 : Nat) : Int) = (3 : Int)) ∧ (↑(0 : Nat) : Int) = (0 : Int) ∧ (↑(0 : Nat) : Int) = (0 : Int) ∧ (↑(0 : Nat) : Int) = (0 : Int) ∧ (↑(0 : Nat) : Int) = (0 : Int) ∧ (↑(0 : Nat) : Int) = (0 : Int) ∧ ([] : List UInt8) = []) := by kernel_rfl

set_option maxHeartbeats 4000000 in
theorem s7Start (s : List UInt8)  (v : SV) (L' : HF) (next : RunsTo Tryd.prog 59 (headOf Tryd.f59 0) (envAt Tryd.f59.ntmps ([(0, vS s), (2, vP 101), (4, vS (([] : List UInt8))), (5, vN (3 : Nat))])) (Sx.look ([] ++ ([⟨101, true, none, 6, itT zX 0 0⟩]))) 80 (v) (L') 190) :
    RunsTo Tryd.prog 59 [.code (bodyOf Tryd.f59)] (envOf [vS s] Tryd.f59.ntmps) (Sx.look ([] ++ ([]))) 80 (v) (L') 190 := by
  refine runs_more baseO (More.of (s7Start_p0 s) ⟨?oo, rfl, ?rr⟩) (by kernel_rfl) (by kernel_rfl) rfl (gtL (by decide)) (by decide) next
  case oo =>
    clear next
    refine okn
    all_goals ((try simp (disch := omega) only [SS]); first | done | omega | assumption | (simp (disch := omega) only [SS] at *; first | done | omega | assumption) | (simp_all; done))
  case rr =>
    clear next
    try simp (disch := omega) only [SS]
    repeat' apply And.intro
    all_goals first | exact True.intro | with_reducible rfl | omega | (intros; first | exact True.intro | with_reducible rfl | omega | (simp_all; done)) | (simp_all; done) | rfl

theorem s7N_p0 (s b : List UInt8) (i : Nat) :
    isMore (evTill Tryd.prog [] 300 (behind Tryd.f59 0) 900 59 (headOf Tryd.f59 0) (envAt Tryd.f59.ntmps ([(0, vS s), (2, vP 101), (4, vS (b)), (5, vN (i : Nat))])) ([] ++ ([⟨101, true, none, 6, itT zX 0 0⟩])) ⟨[.s true, .s true, .s true, .s true, .s true, .s true], 120⟩) (moreP (headOf Tryd.f59 0) ([]) Tryd.f59.ntmps ([(0, vS s), (2, vP 101), (4, vS (b ++ [s.getD i 0])), (5, vN (i + 1 : Nat))]) ([⟨101, true, none, 6, itT zX 0 0⟩]) 190) =
    (OkL [(decide ((↑i : Int) < (↑s.length : Int)), true), (decide ((0 : Int) ≤ (↑i : Int) ∧ (↑i : Int) < (↑s.length : Int)), true), ((↑(s.getD (↑i : Int).toNat (0 : UInt8)).toNat : Int) != (255 : Int), true), (decide ((0 : Int) ≤ IntKind.i64.wrap ((↑i : Int) + (1 : Int)) ∧ IntKind.i64.wrap ((↑i : Int) + (1 : Int)) ≤ (↑s.length : Int)), true), (decide ((0 : Int) ≤ (↑i : Int) ∧ (↑i : Int) ≤ IntKind.i64.wrap ((↑i : Int) + (1 : Int))), true), (decide (b.length + (List.drop (↑i : Int).toNat (List.take (IntKind.i64.wrap ((↑i : Int) + (1 : Int))).toNat s)).length ≤ (9223372036854775807 : Nat)), true)] ∧ headOf Tryd.f59 (0 : Nat) = headOf Tryd.f59 (0 : Nat) ∧ (s = s ∧ (0 : Nat) = (0 : Nat) ∧ b ++ [s.getD i (0 : UInt8)] = b ++ List.drop (↑i : Int).toNat (List.take (IntKind.i64.wrap ((↑i : Int) + (1 : Int))).toNat s) ∧ (↑(i + (1 : Nat)) : Int) = IntKind.i64.wrap ((↑i : Int) + (1 : Int))) ∧ (↑(0 : Nat) : Int) = (↑(0 : Nat) : Int) ∧ (↑(0 : Nat) : Int) = (↑(0 : Nat) : Int) ∧ (↑(0 : Nat) : Int) = (↑(0 : Nat) : Int) ∧ (↑(0 : Nat) : Int) = (↑(0 : Nat) : Int) ∧ (↑(0 : Nat) : Int) = (↑(0 : Nat) : Int) ∧ ([] : List UInt8) = []) := by kernel_rfl

set_option maxHeartbeats 4000000 in
theorem s7N (s b : List UInt8) (i : Nat) (h3 : 3 ≤ i) (hs : s.length ≤ 1000) (hb : b.length ≤ i) (hi2 : i ≤ s.length) (hi : i < s.length) (h : sb s i ≠ 255)  (v : SV) (L' : HF) (next : RunsTo Tryd.prog 59 (headOf Tryd.f59 0) (envAt Tryd.f59.ntmps ([(0, vS s), (2, vP 101), (4, vS (b ++ [s.getD i 0])), (5, vN (i + 1 : Nat))])) (Sx.look ([] ++ ([⟨101, true, none, 6, itT zX 0 0⟩]))) 80 (v) (L') 190) :
    RunsTo Tryd.prog 59 (headOf Tryd.f59 0) (envAt Tryd.f59.ntmps ([(0, vS s), (2, vP 101), (4, vS (b)), (5, vN (i : Nat))])) (Sx.look ([] ++ ([⟨101, true, none, 6, itT zX 0 0⟩]))) 80 (v) (L') 190 := by
  have hw : IntKind.i64.wrap ((i : Int) + 1) = ((i + 1 : Nat) : Int) := by rw [wr64 (by omega)]; rfl
  have hw2 : IntKind.i64.wrap ((i : Int) + 2) = ((i + 2 : Nat) : Int) := by rw [wr64 (by omega)]; rfl
  have hm1 : IntKind.i64.wrap ((s.length : Int) - 1) = (s.length : Int) - 1 := wr64 (by omega)
  have q0 := sb_lt s i
  have q1 := sb_lt s (i + 1)
  have q2 := sb_lt s 2
  have u1 : IntKind.i64.wrap (sb s (i + 1) : Int) = (sb s (i + 1) : Int) := wr64 (by omega)
  have u2 : IntKind.i64.wrap (sb s 2 : Int) = (sb s 2 : Int) := wr64 (by omega)
  refine runs_more baseO (More.of (s7N_p0 s b i) ⟨?oo, rfl, ?rr⟩) (by kernel_rfl) (by kernel_rfl) rfl (gtL (by decide)) (by decide) next
  case oo =>
    clear next
    refine (okc ?_ (okc ?_ (okc ?_ (okc ?_ (okc ?_ (okc ?_ okn))))))
    all_goals ((try simp (disch := omega) only [SS, hw, hw2, hm1, u1, u2, sb_def, slice1, Go.Sx.sum, Int.toNat_natCast, List.length_append, List.length_cons, List.length_nil]); first | done | omega | assumption | (simp (disch := omega) only [SS, hw, hw2, hm1, u1, u2, sb_def, slice1, Go.Sx.sum, Int.toNat_natCast, List.length_append, List.length_cons, List.length_nil] at *; first | done | omega | assumption) | (simp_all; done))
  case rr =>
    clear next
    try simp (disch := omega) only [SS, hw, hw2, hm1, u1, u2, sb_def, slice1, Go.Sx.sum, Int.toNat_natCast, List.length_append, List.length_cons, List.length_nil]
    repeat' apply And.intro
    all_goals first | exact True.intro | with_reducible rfl | omega | (intros; first | exact True.intro | with_reducible rfl | omega | (simp_all; done)) | (simp_all; done) | rfl

theorem s7Q_p0 (s b : List UInt8) (i : Nat) :
    isMore (evTill Tryd.prog [] 300 (behind Tryd.f59 0) 900 59 (headOf Tryd.f59 0) (envAt Tryd.f59.ntmps ([(0, vS s), (2, vP 101), (4, vS (b)), (5, vN (i : Nat))])) ([] ++ ([⟨101, true, none, 6, itT zX 0 0⟩])) ⟨[.s true, .s true, .s false, .s false, .s true, .s false, .s true, .s false, .s true], 120⟩) (moreP (headOf Tryd.f59 0) ([]) Tryd.f59.ntmps ([(0, vS s), (2, vP 101), (4, vS (b ++ [255])), (5, vN (i + 2 : Nat))]) ([⟨101, true, none, 6, itT zX 0 0⟩]) 190) =
    (OkL [(decide ((↑i : Int) < (↑s.length : Int)), true), (decide ((0 : Int) ≤ (↑i : Int) ∧ (↑i : Int) < (↑s.length : Int)), true), ((↑(s.getD (↑i : Int).toNat (0 : UInt8)).toNat : Int) != (255 : Int), false), ((↑i : Int) == IntKind.i64.wrap ((↑s.length : Int) - (1 : Int)), false), (decide ((0 : Int) ≤ IntKind.i64.wrap ((↑i : Int) + (1 : Int)) ∧ IntKind.i64.wrap ((↑i : Int) + (1 : Int)) < (↑s.length : Int)), true), ((↑(s.getD (IntKind.i64.wrap ((↑i : Int) + (1 : Int))).toNat (0 : UInt8)).toNat : Int) == (240 : Int), false), (decide ((0 : Int) ≤ IntKind.i64.wrap ((↑i : Int) + (1 : Int)) ∧ IntKind.i64.wrap ((↑i : Int) + (1 : Int)) < (↑s.length : Int)), true), ((↑(s.getD (IntKind.i64.wrap ((↑i : Int) + (1 : Int))).toNat (0 : UInt8)).toNat : Int) != (255 : Int), false), (decide (b.length + (1 : Nat) ≤ (9223372036854775807 : Nat)), true)] ∧ headOf Tryd.f59 (0 : Nat) = headOf Tryd.f59 (0 : Nat) ∧ (s = s ∧ (0 : Nat) = (0 : Nat) ∧ b ++ [(255 : UInt8)] = b ++ [(255 : UInt8)] ∧ (↑(i + (2 : Nat)) : Int) = IntKind.i64.wrap (IntKind.i64.wrap ((↑i : Int) + (1 : Int)) + (1 : Int))) ∧ (↑(0 : Nat) : Int) = (↑(0 : Nat) : Int) ∧ (↑(0 : Nat) : Int) = (↑(0 : Nat) : Int) ∧ (↑(0 : Nat) : Int) = (↑(0 : Nat) : Int) ∧ (↑(0 : Nat) : Int) = (↑(0 : Nat) : Int) ∧ (↑(0 : Nat) : Int) = (↑(0 : Nat) : Int) ∧ ([] : List UInt8) = []) := by kernel_rfl

set_option maxHeartbeats 4000000 in
theorem s7Q (s b : List UInt8) (i : Nat) (h3 : 3 ≤ i) (hs : s.length ≤ 1000) (hb : b.length ≤ i) (hi2 : i ≤ s.length) (hi : i + 1 < s.length) (h : sb s i = 255) (h2 : sb s (i + 1) = 255)  (v : SV) (L' : HF) (next : RunsTo Tryd.prog 59 (headOf Tryd.f59 0) (envAt Tryd.f59.ntmps ([(0, vS s), (2, vP 101), (4, vS (b ++ [255])), (5, vN (i + 2 : Nat))])) (Sx.look ([] ++ ([⟨101, true, none, 6, itT zX 0 0⟩]))) 80 (v) (L') 190) :
    RunsTo Tryd.prog 59 (headOf Tryd.f59 0) (envAt Tryd.f59.ntmps ([(0, vS s), (2, vP 101), (4, vS (b)), (5, vN (i : Nat))])) (Sx.look ([] ++ ([⟨101, true, none, 6, itT zX 0 0⟩]))) 80 (v) (L') 190 := by
  have hw : IntKind.i64.wrap ((i : Int) + 1) = ((i + 1 : Nat) : Int) := by rw [wr64 (by omega)]; rfl
  have hw2 : IntKind.i64.wrap ((i : Int) + 2) = ((i + 2 : Nat) : Int) := by rw [wr64 (by omega)]; rfl
  have hm1 : IntKind.i64.wrap ((s.length : Int) - 1) = (s.length : Int) - 1 := wr64 (by omega)
  have q0 := sb_lt s i
  have q1 := sb_lt s (i + 1)
  have q2 := sb_lt s 2
  have u1 : IntKind.i64.wrap (sb s (i + 1) : Int) = (sb s (i + 1) : Int) := wr64 (by omega)
  have u2 : IntKind.i64.wrap (sb s 2 : Int) = (sb s 2 : Int) := wr64 (by omega)
  refine runs_more baseO (More.of (s7Q_p0 s b i) ⟨?oo, rfl, ?rr⟩) (by kernel_rfl) (by kernel_rfl) rfl (gtL (by decide)) (by decide) next
  case oo =>
    clear next
    refine (okc ?_ (okc ?_ (okc ?_ (okc ?_ (okc ?_ (okc ?_ (okc ?_ (okc ?_ (okc ?_ okn)))))))))
    all_goals ((try simp (disch := omega) only [SS, hw, hw2, hm1, u1, u2, sb_def, slice1, Go.Sx.sum, Int.toNat_natCast, List.length_append, List.length_cons, List.length_nil]); first | done | omega | assumption | (simp (disch := omega) only [SS, hw, hw2, hm1, u1, u2, sb_def, slice1, Go.Sx.sum, Int.toNat_natCast, List.length_append, List.length_cons, List.length_nil] at *; first | done | omega | assumption) | (simp_all; done))
  case rr =>
    clear next
    try simp (disch := omega) only [SS, hw, hw2, hm1, u1, u2, sb_def, slice1, Go.Sx.sum, Int.toNat_natCast, List.length_append, List.length_cons, List.length_nil]
    repeat' apply And.intro
    all_goals first | exact True.intro | with_reducible rfl | omega | (intros; first | exact True.intro | with_reducible rfl | omega | (simp_all; done)) | (simp_all; done) | rfl

theorem s7Cut_p0 (s b : List UInt8) (i : Nat) :
    isEnd (evTill Tryd.prog [] 300 (99) 900 59 (headOf Tryd.f59 0) (envAt Tryd.f59.ntmps ([(0, vS s), (2, vP 101), (4, vS (b)), (5, vN (i : Nat))])) ([] ++ ([⟨101, true, none, 6, itT zX 0 0⟩])) ⟨[.s true, .s true, .s false, .s true], 120⟩) (endP ([]) (itR .short) ([]) 190) =
    (OkL [(decide ((↑i : Int) < (↑s.length : Int)), true), (decide ((0 : Int) ≤ (↑i : Int) ∧ (↑i : Int) < (↑s.length : Int)), true), ((↑(s.getD (↑i : Int).toNat (0 : UInt8)).toNat : Int) != (255 : Int), false), ((↑i : Int) == IntKind.i64.wrap ((↑s.length : Int) - (1 : Int)), true)] ∧ (((↑(0 : Nat) : Int) = (0 : Int) ∧ (↑(0 : Nat) : Int) = (0 : Int) ∧ (↑(0 : Nat) : Int) = (0 : Int) ∧ (↑(0 : Nat) : Int) = (0 : Int) ∧ (↑(0 : Nat) : Int) = (0 : Int) ∧ ([] : List UInt8) = []) ∧ resI Res.short = (0 : Int) ∧ True) ∧ True) := by kernel_rfl

set_option maxHeartbeats 4000000 in
theorem s7Cut (s b : List UInt8) (i : Nat) (h3 : 3 ≤ i) (hs : s.length ≤ 1000) (hb : b.length ≤ i) (hi2 : i ≤ s.length) (hi : i + 1 = s.length) (h : sb s i = 255)  :
    RunsTo Tryd.prog 59 (headOf Tryd.f59 0) (envAt Tryd.f59.ntmps ([(0, vS s), (2, vP 101), (4, vS (b)), (5, vN (i : Nat))])) (Sx.look ([] ++ ([⟨101, true, none, 6, itT zX 0 0⟩]))) 80 (itR .short) (Sx.look ([])) 190 := by
  have hw : IntKind.i64.wrap ((i : Int) + 1) = ((i + 1 : Nat) : Int) := by rw [wr64 (by omega)]; rfl
  have hw2 : IntKind.i64.wrap ((i : Int) + 2) = ((i + 2 : Nat) : Int) := by rw [wr64 (by omega)]; rfl
  have hm1 : IntKind.i64.wrap ((s.length : Int) - 1) = (s.length : Int) - 1 := wr64 (by omega)
  have q0 := sb_lt s i
  have q1 := sb_lt s (i + 1)
  have q2 := sb_lt s 2
  have u1 : IntKind.i64.wrap (sb s (i + 1) : Int) = (sb s (i + 1) : Int) := wr64 (by omega)
  have u2 : IntKind.i64.wrap (sb s 2 : Int) = (sb s 2 : Int) := wr64 (by omega)
  refine runs_last baseO (Sx.Ends.of (s7Cut_p0 s b i) ⟨?oo, ?rr⟩) (by kernel_rfl) rfl (gtL (by decide)) (by decide)
  case oo =>
    refine (okc ?_ (okc ?_ (okc ?_ (okc ?_ okn))))
    all_goals ((try simp (disch := omega) only [SS, hw, hw2, hm1, u1, u2, sb_def, slice1, Go.Sx.sum, Int.toNat_natCast, List.length_append, List.length_cons, List.length_nil]); first | done | omega | assumption | (simp (disch := omega) only [SS, hw, hw2, hm1, u1, u2, sb_def, slice1, Go.Sx.sum, Int.toNat_natCast, List.length_append, List.length_cons, List.length_nil] at *; first | done | omega | assumption) | (simp_all; done))
  case rr =>
    try simp (disch := omega) only [SS, hw, hw2, hm1, u1, u2, sb_def, slice1, Go.Sx.sum, Int.toNat_natCast, List.length_append, List.length_cons, List.length_nil]
    repeat' apply And.intro
    all_goals first | exact True.intro | with_reducible rfl | omega | (simp_all; done) | (simp [itT, zX]; done) | (simp [itT, zX, resX, resI]; done) | rfl

theorem s7S_p0 (s b : List UInt8) (i : Nat) :
    isEnd (evTill Tryd.prog [] 300 (99) 900 59 (headOf Tryd.f59 0) (envAt Tryd.f59.ntmps ([(0, vS s), (2, vP 101), (4, vS (b)), (5, vN (i : Nat))])) ([] ++ ([⟨101, true, none, 6, itT zX 0 0⟩])) ⟨[.s true, .s true, .s false, .s false, .s true, .s true, .s true], 120⟩) (endP ([]) (itR (.ok ⟨5, 0, sb s 2, b⟩ (i + 2))) ([]) 190) =
    (OkL [(decide ((↑i : Int) < (↑s.length : Int)), true), (decide ((0 : Int) ≤ (↑i : Int) ∧ (↑i : Int) < (↑s.length : Int)), true), ((↑(s.getD (↑i : Int).toNat (0 : UInt8)).toNat : Int) != (255 : Int), false), ((↑i : Int) == IntKind.i64.wrap ((↑s.length : Int) - (1 : Int)), false), (decide ((0 : Int) ≤ IntKind.i64.wrap ((↑i : Int) + (1 : Int)) ∧ IntKind.i64.wrap ((↑i : Int) + (1 : Int)) < (↑s.length : Int)), true), ((↑(s.getD (IntKind.i64.wrap ((↑i : Int) + (1 : Int))).toNat (0 : UInt8)).toNat : Int) == (240 : Int), true), (decide ((0 : Int) ≤ (2 : Int) ∧ (2 : Int) < (↑s.length : Int)), true)] ∧ (((↑(5 : Nat) : Int) = (5 : Int) ∧ (↑(0 : Nat) : Int) = (0 : Int) ∧ (↑(0 : Nat) : Int) = (0 : Int) ∧ (↑(0 : Nat) : Int) = (0 : Int) ∧ (↑(sb s (2 : Nat)) : Int) = IntKind.i64.wrap (↑(s.getD (2 : Nat) (0 : UInt8)).toNat : Int) ∧ b = b) ∧ resI (Res.ok { kind := (5 : Nat), code := (0 : Nat), opt := sb s (2 : Nat), body := b } (i + (2 : Nat))) = IntKind.i64.wrap (IntKind.i64.wrap ((↑i : Int) + (1 : Int)) + (1 : Int)) ∧ True) ∧ True) := by kernel_rfl

set_option maxHeartbeats 4000000 in
theorem s7S (s b : List UInt8) (i : Nat) (h3 : 3 ≤ i) (hs : s.length ≤ 1000) (hb : b.length ≤ i) (hi2 : i ≤ s.length) (hi : i + 1 < s.length) (h : sb s i = 255) (h2 : sb s (i + 1) = 240)  :
    RunsTo Tryd.prog 59 (headOf Tryd.f59 0) (envAt Tryd.f59.ntmps ([(0, vS s), (2, vP 101), (4, vS (b)), (5, vN (i : Nat))])) (Sx.look ([] ++ ([⟨101, true, none, 6, itT zX 0 0⟩]))) 80 (itR (.ok ⟨5, 0, sb s 2, b⟩ (i + 2))) (Sx.look ([])) 190 := by
  have hw : IntKind.i64.wrap ((i : Int) + 1) = ((i + 1 : Nat) : Int) := by rw [wr64 (by omega)]; rfl
  have hw2 : IntKind.i64.wrap ((i : Int) + 2) = ((i + 2 : Nat) : Int) := by rw [wr64 (by omega)]; rfl
  have hm1 : IntKind.i64.wrap ((s.length : Int) - 1) = (s.length : Int) - 1 := wr64 (by omega)
  have q0 := sb_lt s i
  have q1 := sb_lt s (i + 1)
  have q2 := sb_lt s 2
  have u1 : IntKind.i64.wrap (sb s (i + 1) : Int) = (sb s (i + 1) : Int) := wr64 (by omega)
  have u2 : IntKind.i64.wrap (sb s 2 : Int) = (sb s 2 : Int) := wr64 (by omega)
  refine runs_last baseO (Sx.Ends.of (s7S_p0 s b i) ⟨?oo, ?rr⟩) (by kernel_rfl) rfl (gtL (by decide)) (by decide)
  case oo =>
    refine (okc ?_ (okc ?_ (okc ?_ (okc ?_ (okc ?_ (okc ?_ (okc ?_ okn)))))))
    all_goals ((try simp (disch := omega) only [SS, hw, hw2, hm1, u1, u2, sb_def, slice1, Go.Sx.sum, Int.toNat_natCast, List.length_append, List.length_cons, List.length_nil]); first | done | omega | assumption | (simp (disch := omega) only [SS, hw, hw2, hm1, u1, u2, sb_def, slice1, Go.Sx.sum, Int.toNat_natCast, List.length_append, List.length_cons, List.length_nil] at *; first | done | omega | assumption) | (simp_all; done))
  case rr =>
    try simp (disch := omega) only [SS, hw, hw2, hm1, u1, u2, sb_def, slice1, Go.Sx.sum, Int.toNat_natCast, List.length_append, List.length_cons, List.length_nil]
    repeat' apply And.intro
    all_goals first | exact True.intro | with_reducible rfl | omega | (simp_all; done) | (simp [itT, zX]; done) | (simp [itT, zX, resX, resI]; done) | rfl

theorem s7B_p0 (s b : List UInt8) (i : Nat) :
    isEnd (evTill Tryd.prog [] 300 (99) 900 59 (headOf Tryd.f59 0) (envAt Tryd.f59.ntmps ([(0, vS s), (2, vP 101), (4, vS (b)), (5, vN (i : Nat))])) ([] ++ ([⟨101, true, none, 6, itT zX 0 0⟩])) ⟨[.s true, .s true, .s false, .s false, .s true, .s false, .s true, .s true], 120⟩) (endP ([]) (itR .form) ([]) 190) =
    (OkL [(decide ((↑i : Int) < (↑s.length : Int)), true), (decide ((0 : Int) ≤ (↑i : Int) ∧ (↑i : Int) < (↑s.length : Int)), true), ((↑(s.getD (↑i : Int).toNat (0 : UInt8)).toNat : Int) != (255 : Int), false), ((↑i : Int) == IntKind.i64.wrap ((↑s.length : Int) - (1 : Int)), false), (decide ((0 : Int) ≤ IntKind.i64.wrap ((↑i : Int) + (1 : Int)) ∧ IntKind.i64.wrap ((↑i : Int) + (1 : Int)) < (↑s.length : Int)), true), ((↑(s.getD (IntKind.i64.wrap ((↑i : Int) + (1 : Int))).toNat (0 : UInt8)).toNat : Int) == (240 : Int), false), (decide ((0 : Int) ≤ IntKind.i64.wrap ((↑i : Int) + (1 : Int)) ∧ IntKind.i64.wrap ((↑i : Int) + (1 : Int)) < (↑s.length : Int)), true), ((↑(s.getD (IntKind.i64.wrap ((↑i : Int) + (1 : Int))).toNat (0 : UInt8)).toNat : Int) != (255 : Int), true)] ∧ (((↑(0 : Nat) : Int) = (0 : Int) ∧ (↑(0 : Nat) : Int) = (0 : Int) ∧ (↑(0 : Nat) : Int) = (0 : Int) ∧ (↑(0 : Nat) : Int) = (0 : Int) ∧ (↑(0 : Nat) : Int) = (0 : Int) ∧ ([] : List UInt8) = []) ∧ resI Res.form = (-1 : Int) ∧ True) ∧ True) := by kernel_rfl

set_option maxHeartbeats 4000000 in
theorem s7B (s b : List UInt8) (i : Nat) (h3 : 3 ≤ i) (hs : s.length ≤ 1000) (hb : b.length ≤ i) (hi2 : i ≤ s.length) (hi : i + 1 < s.length) (h : sb s i = 255) (h2 : sb s (i + 1) ≠ 240) (h4 : sb s (i + 1) ≠ 255)  :
    RunsTo Tryd.prog 59 (headOf Tryd.f59 0) (envAt Tryd.f59.ntmps ([(0, vS s), (2, vP 101), (4, vS (b)), (5, vN (i : Nat))])) (Sx.look ([] ++ ([⟨101, true, none, 6, itT zX 0 0⟩]))) 80 (itR .form) (Sx.look ([])) 190 := by
  have hw : IntKind.i64.wrap ((i : Int) + 1) = ((i + 1 : Nat) : Int) := by rw [wr64 (by omega)]; rfl
  have hw2 : IntKind.i64.wrap ((i : Int) + 2) = ((i + 2 : Nat) : Int) := by rw [wr64 (by omega)]; rfl
  have hm1 : IntKind.i64.wrap ((s.length : Int) - 1) = (s.length : Int) - 1 := wr64 (by omega)
  have q0 := sb_lt s i
  have q1 := sb_lt s (i + 1)
  have q2 := sb_lt s 2
  have u1 : IntKind.i64.wrap (sb s (i + 1) : Int) = (sb s (i + 1) : Int) := wr64 (by omega)
  have u2 : IntKind.i64.wrap (sb s 2 : Int) = (sb s 2 : Int) := wr64 (by omega)
  refine runs_last baseO (Sx.Ends.of (s7B_p0 s b i) ⟨?oo, ?rr⟩) (by kernel_rfl) rfl (gtL (by decide)) (by decide)
  case oo =>
    refine (okc ?_ (okc ?_ (okc ?_ (okc ?_ (okc ?_ (okc ?_ (okc ?_ (okc ?_ okn))))))))
    all_goals ((try simp (disch := omega) only [SS, hw, hw2, hm1, u1, u2, sb_def, slice1, Go.Sx.sum, Int.toNat_natCast, List.length_append, List.length_cons, List.length_nil]); first | done | omega | assumption | (simp (disch := omega) only [SS, hw, hw2, hm1, u1, u2, sb_def, slice1, Go.Sx.sum, Int.toNat_natCast, List.length_append, List.length_cons, List.length_nil] at *; first | done | omega | assumption) | (simp_all; done))
  case rr =>
    try simp (disch := omega) only [SS, hw, hw2, hm1, u1, u2, sb_def, slice1, Go.Sx.sum, Int.toNat_natCast, List.length_append, List.length_cons, List.length_nil]
    repeat' apply And.intro
    all_goals first | exact True.intro | with_reducible rfl | omega | (simp_all; done) | (simp [itT, zX]; done) | (simp [itT, zX, resX, resI]; done) | rfl

theorem s7E_p0 (s b : List UInt8) (i : Nat) :
    isEnd (evTill Tryd.prog [] 300 (99) 900 59 (headOf Tryd.f59 0) (envAt Tryd.f59.ntmps ([(0, vS s), (2, vP 101), (4, vS (b)), (5, vN (i : Nat))])) ([] ++ ([⟨101, true, none, 6, itT zX 0 0⟩])) ⟨[.s false], 120⟩) (endP ([]) (itR .short) ([]) 190) =
    (OkL [(decide ((↑i : Int) < (↑s.length : Int)), false)] ∧ (((↑(0 : Nat) : Int) = (0 : Int) ∧ (↑(0 : Nat) : Int) = (0 : Int) ∧ (↑(0 : Nat) : Int) = (0 : Int) ∧ (↑(0 : Nat) : Int) = (0 : Int) ∧ (↑(0 : Nat) : Int) = (0 : Int) ∧ ([] : List UInt8) = []) ∧ resI Res.short = (0 : Int) ∧ True) ∧ True) := by kernel_rfl

set_option maxHeartbeats 4000000 in
theorem s7E (s b : List UInt8) (i : Nat) (h3 : 3 ≤ i) (hs : s.length ≤ 1000) (hb : b.length ≤ i) (hi2 : i ≤ s.length) (hi : i = s.length)  :
    RunsTo Tryd.prog 59 (headOf Tryd.f59 0) (envAt Tryd.f59.ntmps ([(0, vS s), (2, vP 101), (4, vS (b)), (5, vN (i : Nat))])) (Sx.look ([] ++ ([⟨101, true, none, 6, itT zX 0 0⟩]))) 80 (itR .short) (Sx.look ([])) 190 := by
  have hw : IntKind.i64.wrap ((i : Int) + 1) = ((i + 1 : Nat) : Int) := by rw [wr64 (by omega)]; rfl
  have hw2 : IntKind.i64.wrap ((i : Int) + 2) = ((i + 2 : Nat) : Int) := by rw [wr64 (by omega)]; rfl
  have hm1 : IntKind.i64.wrap ((s.length : Int) - 1) = (s.length : Int) - 1 := wr64 (by omega)
  have q0 := sb_lt s i
  have q1 := sb_lt s (i + 1)
  have q2 := sb_lt s 2
  have u1 : IntKind.i64.wrap (sb s (i + 1) : Int) = (sb s (i + 1) : Int) := wr64 (by omega)
  have u2 : IntKind.i64.wrap (sb s 2 : Int) = (sb s 2 : Int) := wr64 (by omega)
  refine runs_last baseO (Sx.Ends.of (s7E_p0 s b i) ⟨?oo, ?rr⟩) (by kernel_rfl) rfl (gtL (by decide)) (by decide)
  case oo =>
    refine (okc ?_ okn)
    all_goals ((try simp (disch := omega) only [SS, hw, hw2, hm1, u1, u2, sb_def, slice1, Go.Sx.sum, Int.toNat_natCast, List.length_append, List.length_cons, List.length_nil]); first | done | omega | assumption | (simp (disch := omega) only [SS, hw, hw2, hm1, u1, u2, sb_def, slice1, Go.Sx.sum, Int.toNat_natCast, List.length_append, List.length_cons, List.length_nil] at *; first | done | omega | assumption) | (simp_all; done))
  case rr =>
    try simp (disch := omega) only [SS, hw, hw2, hm1, u1, u2, sb_def, slice1, Go.Sx.sum, Int.toNat_natCast, List.length_append, List.length_cons, List.length_nil]
    repeat' apply And.intro
    all_goals first | exact True.intro | with_reducible rfl | omega | (simp_all; done) | (simp [itT, zX]; done) | (simp [itT, zX, resX, resI]; done) | rfl

theorem s7L (s : List UInt8) (hs : s.length ≤ 1000) : ∀ (k i : Nat) (b : List UInt8), s.length - i ≤ k → 3 ≤ i → i ≤ s.length → b.length ≤ i → RunsTo Tryd.prog 59 (headOf Tryd.f59 0) (envAt Tryd.f59.ntmps ([(0, vS s), (2, vP 101), (4, vS (b)), (5, vN (i : Nat))])) (Sx.look ([] ++ ([⟨101, true, none, 6, itT zX 0 0⟩]))) 80 (itR (subI (sb s 2) (s.drop i) b i)) (Sx.look []) 190 := by
  intro k
  induction k with
  | zero =>
    intro i b hk h3 hi hb
    rw [show s.drop i = [] from List.drop_eq_nil_of_le (by omega)]
    exact s7E s b i h3 hs hb hi (by omega)
  | succ k ih =>
    intro i b hk h3 hi hb
    by_cases he : i = s.length
    · rw [show s.drop i = [] from List.drop_eq_nil_of_le (by omega)]
      exact s7E s b i h3 hs hb hi he
    · have hd := drop_at s (i := i) (by omega)
      by_cases h : sb s i = 255
      · have e := sb_eq (c := 255) h
        by_cases h1 : i + 1 = s.length
        · rw [hd, e, show s.drop (i + 1) = [] from List.drop_eq_nil_of_le (by omega), sub_1]
          exact s7Cut s b i h3 hs hb hi h1 h
        · have hd1 := drop_at s (i := i + 1) (by omega)
          rw [hd, e, hd1]
          by_cases h2 : sb s (i + 1) = 255
          · rw [sb_eq (c := 255) h2, sub_q]
            exact s7Q s b i h3 hs hb hi (by omega) h h2 _ _ (ih (i + 2) _ (by omega) (by omega) (by omega) (by simp; omega))
          · by_cases h4 : sb s (i + 1) = 240
            · rw [sb_eq (c := 240) h4, sub_e]
              exact s7S s b i h3 hs hb hi (by omega) h h4
            · rw [sub_f _ _ _ _ (fun q => h2 (by show (s.getD (i + 1) 0).toNat = 255; rw [q]; rfl)) (fun q => h4 (by show (s.getD (i + 1) 0).toNat = 240; rw [q]; rfl))]
              exact s7B s b i h3 hs hb hi (by omega) h h4 h2
      · rw [hd, sub_n _ _ _ _ (fun q => h (by show (s.getD i 0).toNat = 255; rw [q]; rfl))]
        exact s7N s b i h3 hs hb hi (by omega) h _ _ (ih (i + 1) _ (by omega) (by omega) (by omega) (by simp; omega))
theorem s7I (s : List UInt8) (h : 3 ≤ s.length ∧ s.length ≤ 1000) : RunsTo Tryd.prog 59 [.code (bodyOf Tryd.f59)] (envOf [vS s] Tryd.f59.ntmps) (Sx.look ([] ++ ([]))) 80 (itR (subI (sb s 2) (s.drop 3) [] 3)) (Sx.look []) 190 := s7Start s _ _ (s7L s h.2 s.length 3 [] (by omega) (by omega) h.1 (by simp))
def s7P : PC := { args := [.v (.vs 0)], heap := [], gs := [], G := 19, tp := 144, n := 80, n' := 190, cond := fun e => decide (3 ≤ (eS e 0 []).length ∧ (eS e 0 []).length ≤ 1000), v := fun e => itR (subI (sb (eS e 0 []) 2) ((eS e 0 []).drop 3) [] 3), post := fun e => [] }
theorem s7P_pc : PC.Runs Tryd.prog 59 Tryd.f59 (bodyOf Tryd.f59) s7P := ⟨Tryd.func59, by kernel_rfl, (fun g hg => by first | (cases hg; done) | (revert g; show ∀ g ∈ ([] : List Nat), g < 19; decide)), fun e H hc => by
  have hc : (decide (3 ≤ (eS e 0 []).length ∧ (eS e 0 []).length ≤ 1000)) = true := hc
  try simp only [Bool.and_eq_true, decide_eq_true_eq, Nat.beq_eq] at hc
  exact s7I (eS e 0 []) hc⟩
def sumsI7 : List (FuncId × Summ) := [(59, s7P.summ 38), (60, nxP_.summ 38)]
theorem baseI7 : Base0 Tryd.prog sumsI7 := ((baseO.cons Tryd.func60 (by kernel_rfl) (PC.summ_ok nxP__pc gtopG)).cons Tryd.func59 (by kernel_rfl) (PC.summ_ok s7P_pc gtopG))
theorem i7A_p0 (s : List UInt8) (raw : Bool) :
    isEnd (evTill Tryd.prog sumsI7 300 (99) 900 40 [.code (bodyOf Tryd.f40)] (envOf [vS s, vB raw] Tryd.f40.ntmps) ([] ++ ([])) ⟨[.s true, .s true, .s true, .s true], 80⟩) (endP ([]) (itR (.short)) ([]) 500) =
    (OkL [(decide ((0 : Int) ≤ (0 : Int) ∧ (0 : Int) < (↑s.length : Int)), true), ((↑(s.getD (0 : Nat) (0 : UInt8)).toNat : Int) == (13 : Int), true), (!raw, true), ((↑s.length : Int) == (1 : Int), true)] ∧ (((↑(0 : Nat) : Int) = (0 : Int) ∧ (↑(0 : Nat) : Int) = (0 : Int) ∧ (↑(0 : Nat) : Int) = (0 : Int) ∧ (↑(0 : Nat) : Int) = (0 : Int) ∧ (↑(0 : Nat) : Int) = (0 : Int) ∧ ([] : List UInt8) = []) ∧ resI Res.short = (0 : Int) ∧ True) ∧ True) := by kernel_rfl

set_option maxHeartbeats 4000000 in
theorem i7A (s : List UInt8) (raw : Bool) (hs : s.length ≤ 1000) (hp : 0 < s.length) (h0 : sb s 0 = 13) (hr : raw = false) (h : s.length = 1)  :
    RunsTo Tryd.prog 40 [.code (bodyOf Tryd.f40)] (envOf [vS s, vB raw] Tryd.f40.ntmps) (Sx.look ([] ++ ([]))) 80 (itR (.short)) (Sx.look ([])) 500 := by
  have q0 := sb_lt s 0
  have q1 := sb_lt s 1
  have q2 := sb_lt s 2
  have u0 : IntKind.i64.wrap (sb s 0 : Int) = (sb s 0 : Int) := wr64 (by omega)
  have u1 : IntKind.i64.wrap (sb s 1 : Int) = (sb s 1 : Int) := wr64 (by omega)
  have u2 : IntKind.i64.wrap (sb s 2 : Int) = (sb s 2 : Int) := wr64 (by omega)
  have w250 : ∀ k : Nat, k < 256 → IntKind.i64.wrap (k : Int) = (k : Int) := fun k hk => wr64 (by omega)
  refine runs_last baseI7 (Sx.Ends.of (i7A_p0 s raw) ⟨?oo, ?rr⟩) (by kernel_rfl) rfl (gtL (by decide)) (by decide)
  case oo =>
    refine (okc ?_ (okc ?_ (okc ?_ (okc ?_ okn))))
    all_goals ((try simp (disch := omega) only [SS, u0, u1, u2, sb_def, Int.toNat_natCast, h0, hr]); first | done | omega | assumption | (simp (disch := omega) only [SS, u0, u1, u2, sb_def, Int.toNat_natCast, h0, hr] at *; first | done | omega | assumption) | (simp_all; done))
  case rr =>
    try simp (disch := omega) only [SS, u0, u1, u2, sb_def, h0, hr]
    repeat' apply And.intro
    all_goals first | exact True.intro | with_reducible rfl | omega | (simp_all; done) | (simp [itT, zX, itR, resX, resI]; done) | (simp_all [itT, zX, itR, resX, resI]; done) | rfl

theorem i7B0_p0 (s : List UInt8) (raw : Bool) :
    isEnd (evTill Tryd.prog sumsI7 300 (99) 900 40 [.code (bodyOf Tryd.f40)] (envOf [vS s, vB raw] Tryd.f40.ntmps) ([] ++ ([])) ⟨[.s true, .s true, .s true, .s false, .s true, .s true, .s true], 80⟩) (endP ([]) (itR (.ok ⟨2, 0, 0, []⟩ 2)) ([]) 500) =
    (OkL [(decide ((0 : Int) ≤ (0 : Int) ∧ (0 : Int) < (↑s.length : Int)), true), ((↑(s.getD (0 : Nat) (0 : UInt8)).toNat : Int) == (13 : Int), true), (!raw, true), ((↑s.length : Int) == (1 : Int), false), (decide ((0 : Int) ≤ (1 : Int) ∧ (1 : Int) < (↑s.length : Int)), true), ((↑(s.getD (1 : Nat) (0 : UInt8)).toNat : Int) == (0 : Int), true), (decide ((0 : Int) ≤ (1 : Int) ∧ (1 : Int) < (↑s.length : Int)), true)] ∧ (((↑(2 : Nat) : Int) = (2 : Int) ∧ (↑(0 : Nat) : Int) = (0 : Int) ∧ (↑(0 : Nat) : Int) = (0 : Int) ∧ (↑(0 : Nat) : Int) = IntKind.i64.wrap (↑(s.getD (1 : Nat) (0 : UInt8)).toNat : Int) ∧ (↑(0 : Nat) : Int) = (0 : Int) ∧ ([] : List UInt8) = []) ∧ resI (Res.ok { kind := (2 : Nat), code := (0 : Nat), opt := (0 : Nat), body := [] } (2 : Nat)) = (2 : Int) ∧ True) ∧ True) := by kernel_rfl

set_option maxHeartbeats 4000000 in
theorem i7B0 (s : List UInt8) (raw : Bool) (hs : s.length ≤ 1000) (hp : 0 < s.length) (h0 : sb s 0 = 13) (hr : raw = false) (h : 1 < s.length) (h1 : sb s 1 = 0)  :
    RunsTo Tryd.prog 40 [.code (bodyOf Tryd.f40)] (envOf [vS s, vB raw] Tryd.f40.ntmps) (Sx.look ([] ++ ([]))) 80 (itR (.ok ⟨2, 0, 0, []⟩ 2)) (Sx.look ([])) 500 := by
  have q0 := sb_lt s 0
  have q1 := sb_lt s 1
  have q2 := sb_lt s 2
  have u0 : IntKind.i64.wrap (sb s 0 : Int) = (sb s 0 : Int) := wr64 (by omega)
  have u1 : IntKind.i64.wrap (sb s 1 : Int) = (sb s 1 : Int) := wr64 (by omega)
  have u2 : IntKind.i64.wrap (sb s 2 : Int) = (sb s 2 : Int) := wr64 (by omega)
  have w250 : ∀ k : Nat, k < 256 → IntKind.i64.wrap (k : Int) = (k : Int) := fun k hk => wr64 (by omega)
  refine runs_last baseI7 (Sx.Ends.of (i7B0_p0 s raw) ⟨?oo, ?rr⟩) (by kernel_rfl) rfl (gtL (by decide)) (by decide)
  case oo =>
    refine (okc ?_ (okc ?_ (okc ?_ (okc ?_ (okc ?_ (okc ?_ (okc ?_ okn)))))))
    all_goals ((try simp (disch := omega) only [SS, u0, u1, u2, sb_def, Int.toNat_natCast, h0, hr, h1]); first | done | omega | assumption | (simp (disch := omega) only [SS, u0, u1, u2, sb_def, Int.toNat_natCast, h0, hr, h1] at *; first | done | omega | assumption) | (simp_all; done))
  case rr =>
    try simp (disch := omega) only [SS, u0, u1, u2, sb_def, h0, hr, h1]
    repeat' apply And.intro
    all_goals first | exact True.intro | with_reducible rfl | omega | (simp_all; done) | (simp [itT, zX, itR, resX, resI]; done) | (simp_all [itT, zX, itR, resX, resI]; done) | rfl

theorem i7B1_p0 (s : List UInt8) (raw : Bool) :
    isEnd (evTill Tryd.prog sumsI7 300 (99) 900 40 [.code (bodyOf Tryd.f40)] (envOf [vS s, vB raw] Tryd.f40.ntmps) ([] ++ ([])) ⟨[.s true, .s true, .s true, .s false, .s true, .s false, .s true, .s true, .s true], 80⟩) (endP ([]) (itR (.ok ⟨2, 10, 0, []⟩ 2)) ([]) 500) =
    (OkL [(decide ((0 : Int) ≤ (0 : Int) ∧ (0 : Int) < (↑s.length : Int)), true), ((↑(s.getD (0 : Nat) (0 : UInt8)).toNat : Int) == (13 : Int), true), (!raw, true), ((↑s.length : Int) == (1 : Int), false), (decide ((0 : Int) ≤ (1 : Int) ∧ (1 : Int) < (↑s.length : Int)), true), ((↑(s.getD (1 : Nat) (0 : UInt8)).toNat : Int) == (0 : Int), false), (decide ((0 : Int) ≤ (1 : Int) ∧ (1 : Int) < (↑s.length : Int)), true), ((↑(s.getD (1 : Nat) (0 : UInt8)).toNat : Int) == (10 : Int), true), (decide ((0 : Int) ≤ (1 : Int) ∧ (1 : Int) < (↑s.length : Int)), true)] ∧ (((↑(2 : Nat) : Int) = (2 : Int) ∧ (↑(0 : Nat) : Int) = (0 : Int) ∧ (↑(0 : Nat) : Int) = (0 : Int) ∧ (↑(10 : Nat) : Int) = IntKind.i64.wrap (↑(s.getD (1 : Nat) (0 : UInt8)).toNat : Int) ∧ (↑(0 : Nat) : Int) = (0 : Int) ∧ ([] : List UInt8) = []) ∧ resI (Res.ok { kind := (2 : Nat), code := (10 : Nat), opt := (0 : Nat), body := [] } (2 : Nat)) = (2 : Int) ∧ True) ∧ True) := by kernel_rfl

set_option maxHeartbeats 4000000 in
theorem i7B1 (s : List UInt8) (raw : Bool) (hs : s.length ≤ 1000) (hp : 0 < s.length) (h0 : sb s 0 = 13) (hr : raw = false) (h : 1 < s.length) (h1 : sb s 1 = 10)  :
    RunsTo Tryd.prog 40 [.code (bodyOf Tryd.f40)] (envOf [vS s, vB raw] Tryd.f40.ntmps) (Sx.look ([] ++ ([]))) 80 (itR (.ok ⟨2, 10, 0, []⟩ 2)) (Sx.look ([])) 500 := by
  have q0 := sb_lt s 0
  have q1 := sb_lt s 1
  have q2 := sb_lt s 2
  have u0 : IntKind.i64.wrap (sb s 0 : Int) = (sb s 0 : Int) := wr64 (by omega)
  have u1 : IntKind.i64.wrap (sb s 1 : Int) = (sb s 1 : Int) := wr64 (by omega)
  have u2 : IntKind.i64.wrap (sb s 2 : Int) = (sb s 2 : Int) := wr64 (by omega)
  have w250 : ∀ k : Nat, k < 256 → IntKind.i64.wrap (k : Int) = (k : Int) := fun k hk => wr64 (by omega)
  refine runs_last baseI7 (Sx.Ends.of (i7B1_p0 s raw) ⟨?oo, ?rr⟩) (by kernel_rfl) rfl (gtL (by decide)) (by decide)
  case oo =>
    refine (okc ?_ (okc ?_ (okc ?_ (okc ?_ (okc ?_ (okc ?_ (okc ?_ (okc ?_ (okc ?_ okn)))))))))
    all_goals ((try simp (disch := omega) only [SS, u0, u1, u2, sb_def, Int.toNat_natCast, h0, hr, h1]); first | done | omega | assumption | (simp (disch := omega) only [SS, u0, u1, u2, sb_def, Int.toNat_natCast, h0, hr, h1] at *; first | done | omega | assumption) | (simp_all; done))
  case rr =>
    try simp (disch := omega) only [SS, u0, u1, u2, sb_def, h0, hr, h1]
    repeat' apply And.intro
    all_goals first | exact True.intro | with_reducible rfl | omega | (simp_all; done) | (simp [itT, zX, itR, resX, resI]; done) | (simp_all [itT, zX, itR, resX, resI]; done) | rfl

theorem i7C_p0 (s : List UInt8) (raw : Bool) :
    isEnd (evTill Tryd.prog sumsI7 300 (99) 900 40 [.code (bodyOf Tryd.f40)] (envOf [vS s, vB raw] Tryd.f40.ntmps) ([] ++ ([])) ⟨[.s true, .s false, .s true, .s true, .s true, .s true, .s true, .s true], 80⟩) (endP ([]) (itR (subI (sb s 2) (s.drop 3) [] 3)) ([]) 500) =
    (OkL [(decide ((0 : Int) ≤ (0 : Int) ∧ (0 : Int) < (↑s.length : Int)), true), ((↑(s.getD (0 : Nat) (0 : UInt8)).toNat : Int) == (13 : Int), false), (decide ((0 : Int) ≤ (0 : Int) ∧ (0 : Int) < (↑s.length : Int)), true), ((↑(s.getD (0 : Nat) (0 : UInt8)).toNat : Int) == (255 : Int), true), (decide ((↑s.length : Int) > (2 : Int)), true), (decide ((0 : Int) ≤ (1 : Int) ∧ (1 : Int) < (↑s.length : Int)), true), ((↑(s.getD (1 : Nat) (0 : UInt8)).toNat : Int) == (250 : Int), true), (decide ((3 : Nat) ≤ s.length ∧ s.length ≤ (1000 : Nat)), true)] ∧ (((↑(resX (subI (sb s (2 : Nat)) (List.drop (3 : Nat) s) [] (3 : Nat))).1 : Int) = (↑(resX (subI (sb s (2 : Nat)) (List.drop (3 : Nat) s) [] (3 : Nat))).1 : Int) ∧ (↑(0 : Nat) : Int) = (↑(0 : Nat) : Int) ∧ (↑(0 : Nat) : Int) = (↑(0 : Nat) : Int) ∧ (↑(resX (subI (sb s (2 : Nat)) (List.drop (3 : Nat) s) [] (3 : Nat))).2 : Int) = (↑(resX (subI (sb s (2 : Nat)) (List.drop (3 : Nat) s) [] (3 : Nat))).2 : Int) ∧ (↑(resX (subI (sb s (2 : Nat)) (List.drop (3 : Nat) s) [] (3 : Nat))).3 : Int) = (↑(resX (subI (sb s (2 : Nat)) (List.drop (3 : Nat) s) [] (3 : Nat))).3 : Int) ∧ (resX (subI (sb s (2 : Nat)) (List.drop (3 : Nat) s) [] (3 : Nat))).4 = (resX (subI (sb s (2 : Nat)) (List.drop (3 : Nat) s) [] (3 : Nat))).4) ∧ resI (subI (sb s (2 : Nat)) (List.drop (3 : Nat) s) [] (3 : Nat)) = resI (subI (sb s (2 : Nat)) (List.drop (3 : Nat) s) [] (3 : Nat)) ∧ True) ∧ True) := by kernel_rfl

set_option maxHeartbeats 4000000 in
theorem i7C (s : List UInt8) (raw : Bool) (hs : s.length ≤ 1000) (hp : 0 < s.length) (h0 : sb s 0 = 255) (h : 2 < s.length) (h1 : sb s 1 = 250)  :
    RunsTo Tryd.prog 40 [.code (bodyOf Tryd.f40)] (envOf [vS s, vB raw] Tryd.f40.ntmps) (Sx.look ([] ++ ([]))) 80 (itR (subI (sb s 2) (s.drop 3) [] 3)) (Sx.look ([])) 500 := by
  have q0 := sb_lt s 0
  have q1 := sb_lt s 1
  have q2 := sb_lt s 2
  have u0 : IntKind.i64.wrap (sb s 0 : Int) = (sb s 0 : Int) := wr64 (by omega)
  have u1 : IntKind.i64.wrap (sb s 1 : Int) = (sb s 1 : Int) := wr64 (by omega)
  have u2 : IntKind.i64.wrap (sb s 2 : Int) = (sb s 2 : Int) := wr64 (by omega)
  have w250 : ∀ k : Nat, k < 256 → IntKind.i64.wrap (k : Int) = (k : Int) := fun k hk => wr64 (by omega)
  refine runs_last baseI7 (Sx.Ends.of (i7C_p0 s raw) ⟨?oo, ?rr⟩) (by kernel_rfl) rfl (gtL (by decide)) (by decide)
  case oo =>
    refine (okc ?_ (okc ?_ (okc ?_ (okc ?_ (okc ?_ (okc ?_ (okc ?_ (okc ?_ okn))))))))
    all_goals ((try simp (disch := omega) only [SS, u0, u1, u2, sb_def, Int.toNat_natCast, h0, h1]); first | done | omega | assumption | (simp (disch := omega) only [SS, u0, u1, u2, sb_def, Int.toNat_natCast, h0, h1] at *; first | done | omega | assumption) | (simp_all; done))
  case rr =>
    try simp (disch := omega) only [SS, u0, u1, u2, sb_def, h0, h1]
    repeat' apply And.intro
    all_goals first | exact True.intro | with_reducible rfl | omega | (simp_all; done) | (simp [itT, zX, itR, resX, resI]; done) | (simp_all [itT, zX, itR, resX, resI]; done) | rfl

theorem i7Da_p0 (s : List UInt8) (raw : Bool) (r : Tok × Nat) :
    isEnd (evTill Tryd.prog sumsI7 300 (99) 900 40 [.code (bodyOf Tryd.f40)] (envOf [vS s, vB raw] Tryd.f40.ntmps) ([] ++ ([])) ⟨[.s true, .s false, .s true, .s false, .s true, .s false, .s true], 80⟩) (endP ([]) (itR (.ok ⟨1, r.1.code, 0, []⟩ 1)) ([]) 500) =
    (OkL [(decide ((0 : Int) ≤ (0 : Int) ∧ (0 : Int) < (↑s.length : Int)), true), ((↑(s.getD (0 : Nat) (0 : UInt8)).toNat : Int) == (13 : Int), false), (decide ((0 : Int) ≤ (0 : Int) ∧ (0 : Int) < (↑s.length : Int)), true), ((↑(s.getD (0 : Nat) (0 : UInt8)).toNat : Int) == (255 : Int), false), (decide (s.length ≤ (1000 : Nat)) && !(decide ((2 : Nat) < s.length) && (decide (sb s (0 : Nat) = (255 : Nat)) && decide (sb s (1 : Nat) = (250 : Nat)))), true), ((↑(nextR s).2 : Int) == (0 : Int), false), ((↑(nextR s).1.1 : Int) == (1 : Int), true)] ∧ (((↑(1 : Nat) : Int) = (1 : Int) ∧ (↑(0 : Nat) : Int) = (0 : Int) ∧ (↑(0 : Nat) : Int) = (0 : Int) ∧ (↑r.1.2 : Int) = (↑(nextR s).1.2 : Int) ∧ (↑(0 : Nat) : Int) = (0 : Int) ∧ ([] : List UInt8) = []) ∧ resI (Res.ok { kind := (1 : Nat), code := r.1.2, opt := (0 : Nat), body := [] } (1 : Nat)) = (↑(nextR s).2 : Int) ∧ True) ∧ True) := by kernel_rfl

set_option maxHeartbeats 4000000 in
theorem i7Da (s : List UInt8) (raw : Bool) (r : Tok × Nat) (hs : s.length ≤ 1000) (hp : 0 < s.length) (h0 : sb s 0 ≠ 255) (hq : sb s 0 ≠ 13) (hn : nextR s = r) (rk : r.1.kind = 1) (rn : r.2 = 1)  :
    RunsTo Tryd.prog 40 [.code (bodyOf Tryd.f40)] (envOf [vS s, vB raw] Tryd.f40.ntmps) (Sx.look ([] ++ ([]))) 80 (itR (.ok ⟨1, r.1.code, 0, []⟩ 1)) (Sx.look ([])) 500 := by
  have q0 := sb_lt s 0
  have q1 := sb_lt s 1
  have q2 := sb_lt s 2
  have u0 : IntKind.i64.wrap (sb s 0 : Int) = (sb s 0 : Int) := wr64 (by omega)
  have u1 : IntKind.i64.wrap (sb s 1 : Int) = (sb s 1 : Int) := wr64 (by omega)
  have u2 : IntKind.i64.wrap (sb s 2 : Int) = (sb s 2 : Int) := wr64 (by omega)
  have w250 : ∀ k : Nat, k < 256 → IntKind.i64.wrap (k : Int) = (k : Int) := fun k hk => wr64 (by omega)
  refine runs_last baseI7 (Sx.Ends.of (i7Da_p0 s raw r) ⟨?oo, ?rr⟩) (by kernel_rfl) rfl (gtL (by decide)) (by decide)
  case oo =>
    refine (okc ?_ (okc ?_ (okc ?_ (okc ?_ (okc ?_ (okc ?_ (okc ?_ okn)))))))
    all_goals ((try simp (disch := omega) only [SS, u0, u1, u2, sb_def, Int.toNat_natCast, hn, rk, rn]); first | done | omega | assumption | (simp (disch := omega) only [SS, u0, u1, u2, sb_def, Int.toNat_natCast, hn, rk, rn] at *; first | done | omega | assumption) | (simp_all; done))
  case rr =>
    try simp (disch := omega) only [SS, u0, u1, u2, sb_def, hn, rk, rn]
    repeat' apply And.intro
    all_goals first | exact True.intro | with_reducible rfl | omega | (simp_all; done) | (simp [itT, zX, itR, resX, resI]; done) | (simp_all [itT, zX, itR, resX, resI]; done) | rfl

theorem i7Db_p0 (s : List UInt8) (raw : Bool) (r : Tok × Nat) :
    isEnd (evTill Tryd.prog sumsI7 300 (99) 900 40 [.code (bodyOf Tryd.f40)] (envOf [vS s, vB raw] Tryd.f40.ntmps) ([] ++ ([])) ⟨[.s true, .s true, .s false, .s true, .s false, .s true, .s false, .s true], 80⟩) (endP ([]) (itR (.ok ⟨1, r.1.code, 0, []⟩ 1)) ([]) 500) =
    (OkL [(decide ((0 : Int) ≤ (0 : Int) ∧ (0 : Int) < (↑s.length : Int)), true), ((↑(s.getD (0 : Nat) (0 : UInt8)).toNat : Int) == (13 : Int), true), (!raw, false), (decide ((0 : Int) ≤ (0 : Int) ∧ (0 : Int) < (↑s.length : Int)), true), ((↑(s.getD (0 : Nat) (0 : UInt8)).toNat : Int) == (255 : Int), false), (decide (s.length ≤ (1000 : Nat)) && !(decide ((2 : Nat) < s.length) && (decide (sb s (0 : Nat) = (255 : Nat)) && decide (sb s (1 : Nat) = (250 : Nat)))), true), ((↑(nextR s).2 : Int) == (0 : Int), false), ((↑(nextR s).1.1 : Int) == (1 : Int), true)] ∧ (((↑(1 : Nat) : Int) = (1 : Int) ∧ (↑(0 : Nat) : Int) = (0 : Int) ∧ (↑(0 : Nat) : Int) = (0 : Int) ∧ (↑r.1.2 : Int) = (↑(nextR s).1.2 : Int) ∧ (↑(0 : Nat) : Int) = (0 : Int) ∧ ([] : List UInt8) = []) ∧ resI (Res.ok { kind := (1 : Nat), code := r.1.2, opt := (0 : Nat), body := [] } (1 : Nat)) = (↑(nextR s).2 : Int) ∧ True) ∧ True) := by kernel_rfl

set_option maxHeartbeats 4000000 in
theorem i7Db (s : List UInt8) (raw : Bool) (r : Tok × Nat) (hs : s.length ≤ 1000) (hp : 0 < s.length) (h0 : sb s 0 = 13) (hr : raw = true) (hn : nextR s = r) (rk : r.1.kind = 1) (rn : r.2 = 1)  :
    RunsTo Tryd.prog 40 [.code (bodyOf Tryd.f40)] (envOf [vS s, vB raw] Tryd.f40.ntmps) (Sx.look ([] ++ ([]))) 80 (itR (.ok ⟨1, r.1.code, 0, []⟩ 1)) (Sx.look ([])) 500 := by
  have q0 := sb_lt s 0
  have q1 := sb_lt s 1
  have q2 := sb_lt s 2
  have u0 : IntKind.i64.wrap (sb s 0 : Int) = (sb s 0 : Int) := wr64 (by omega)
  have u1 : IntKind.i64.wrap (sb s 1 : Int) = (sb s 1 : Int) := wr64 (by omega)
  have u2 : IntKind.i64.wrap (sb s 2 : Int) = (sb s 2 : Int) := wr64 (by omega)
  have w250 : ∀ k : Nat, k < 256 → IntKind.i64.wrap (k : Int) = (k : Int) := fun k hk => wr64 (by omega)
  refine runs_last baseI7 (Sx.Ends.of (i7Db_p0 s raw r) ⟨?oo, ?rr⟩) (by kernel_rfl) rfl (gtL (by decide)) (by decide)
  case oo =>
    refine (okc ?_ (okc ?_ (okc ?_ (okc ?_ (okc ?_ (okc ?_ (okc ?_ (okc ?_ okn))))))))
    all_goals ((try simp (disch := omega) only [SS, u0, u1, u2, sb_def, Int.toNat_natCast, hr, hn, rk, rn, h0]); first | done | omega | assumption | (simp (disch := omega) only [SS, u0, u1, u2, sb_def, Int.toNat_natCast, hr, hn, rk, rn, h0] at *; first | done | omega | assumption) | (simp_all; done))
  case rr =>
    try simp (disch := omega) only [SS, u0, u1, u2, sb_def, hr, hn, rk, rn, h0]
    repeat' apply And.intro
    all_goals first | exact True.intro | with_reducible rfl | omega | (simp_all; done) | (simp [itT, zX, itR, resX, resI]; done) | (simp_all [itT, zX, itR, resX, resI]; done) | rfl

theorem i7Dc_p0 (s : List UInt8) (raw : Bool) (r : Tok × Nat) :
    isEnd (evTill Tryd.prog sumsI7 300 (99) 900 40 [.code (bodyOf Tryd.f40)] (envOf [vS s, vB raw] Tryd.f40.ntmps) ([] ++ ([])) ⟨[.s true, .s true, .s true, .s false, .s true, .s false, .s true, .s false, .s true, .s false, .s true, .s false, .s true], 80⟩) (endP ([]) (itR (.ok ⟨1, r.1.code, 0, []⟩ 1)) ([]) 500) =
    (OkL [(decide ((0 : Int) ≤ (0 : Int) ∧ (0 : Int) < (↑s.length : Int)), true), ((↑(s.getD (0 : Nat) (0 : UInt8)).toNat : Int) == (13 : Int), true), (!raw, true), ((↑s.length : Int) == (1 : Int), false), (decide ((0 : Int) ≤ (1 : Int) ∧ (1 : Int) < (↑s.length : Int)), true), ((↑(s.getD (1 : Nat) (0 : UInt8)).toNat : Int) == (0 : Int), false), (decide ((0 : Int) ≤ (1 : Int) ∧ (1 : Int) < (↑s.length : Int)), true), ((↑(s.getD (1 : Nat) (0 : UInt8)).toNat : Int) == (10 : Int), false), (decide ((0 : Int) ≤ (0 : Int) ∧ (0 : Int) < (↑s.length : Int)), true), ((↑(s.getD (0 : Nat) (0 : UInt8)).toNat : Int) == (255 : Int), false), (decide (s.length ≤ (1000 : Nat)) && !(decide ((2 : Nat) < s.length) && (decide (sb s (0 : Nat) = (255 : Nat)) && decide (sb s (1 : Nat) = (250 : Nat)))), true), ((↑(nextR s).2 : Int) == (0 : Int), false), ((↑(nextR s).1.1 : Int) == (1 : Int), true)] ∧ (((↑(1 : Nat) : Int) = (1 : Int) ∧ (↑(0 : Nat) : Int) = (0 : Int) ∧ (↑(0 : Nat) : Int) = (0 : Int) ∧ (↑r.1.2 : Int) = (↑(nextR s).1.2 : Int) ∧ (↑(0 : Nat) : Int) = (0 : Int) ∧ ([] : List UInt8) = []) ∧ resI (Res.ok { kind := (1 : Nat), code := r.1.2, opt := (0 : Nat), body := [] } (1 : Nat)) = (↑(nextR s).2 : Int) ∧ True) ∧ True) := by kernel_rfl

set_option maxHeartbeats 4000000 in
theorem i7Dc (s : List UInt8) (raw : Bool) (r : Tok × Nat) (hs : s.length ≤ 1000) (hp : 0 < s.length) (h0 : sb s 0 = 13) (hr : raw = false) (h : 1 < s.length) (h1 : sb s 1 ≠ 0 ∧ sb s 1 ≠ 10) (hn : nextR s = r) (rk : r.1.kind = 1) (rn : r.2 = 1)  :
    RunsTo Tryd.prog 40 [.code (bodyOf Tryd.f40)] (envOf [vS s, vB raw] Tryd.f40.ntmps) (Sx.look ([] ++ ([]))) 80 (itR (.ok ⟨1, r.1.code, 0, []⟩ 1)) (Sx.look ([])) 500 := by
  have q0 := sb_lt s 0
  have q1 := sb_lt s 1
  have q2 := sb_lt s 2
  have u0 : IntKind.i64.wrap (sb s 0 : Int) = (sb s 0 : Int) := wr64 (by omega)
  have u1 : IntKind.i64.wrap (sb s 1 : Int) = (sb s 1 : Int) := wr64 (by omega)
  have u2 : IntKind.i64.wrap (sb s 2 : Int) = (sb s 2 : Int) := wr64 (by omega)
  have w250 : ∀ k : Nat, k < 256 → IntKind.i64.wrap (k : Int) = (k : Int) := fun k hk => wr64 (by omega)
  refine runs_last baseI7 (Sx.Ends.of (i7Dc_p0 s raw r) ⟨?oo, ?rr⟩) (by kernel_rfl) rfl (gtL (by decide)) (by decide)
  case oo =>
    refine (okc ?_ (okc ?_ (okc ?_ (okc ?_ (okc ?_ (okc ?_ (okc ?_ (okc ?_ (okc ?_ (okc ?_ (okc ?_ (okc ?_ (okc ?_ okn)))))))))))))
    all_goals ((try simp (disch := omega) only [SS, u0, u1, u2, sb_def, Int.toNat_natCast, hr, hn, rk, rn, h0]); first | done | omega | assumption | (simp (disch := omega) only [SS, u0, u1, u2, sb_def, Int.toNat_natCast, hr, hn, rk, rn, h0] at *; first | done | omega | assumption) | (simp_all; done))
  case rr =>
    try simp (disch := omega) only [SS, u0, u1, u2, sb_def, hr, hn, rk, rn, h0]
    repeat' apply And.intro
    all_goals first | exact True.intro | with_reducible rfl | omega | (simp_all; done) | (simp [itT, zX, itR, resX, resI]; done) | (simp_all [itT, zX, itR, resX, resI]; done) | rfl

theorem i7dz_p0 (s : List UInt8) (raw : Bool) (r : Tok × Nat) :
    isEnd (evTill Tryd.prog sumsI7 300 (99) 900 40 [.code (bodyOf Tryd.f40)] (envOf [vS s, vB raw] Tryd.f40.ntmps) ([] ++ ([])) ⟨[.s true, .s false, .s true, .s true, .s false, .s true, .s true], 80⟩) (endP ([]) (itR (.short)) ([]) 500) =
    (OkL [(decide ((0 : Int) ≤ (0 : Int) ∧ (0 : Int) < (↑s.length : Int)), true), ((↑(s.getD (0 : Nat) (0 : UInt8)).toNat : Int) == (13 : Int), false), (decide ((0 : Int) ≤ (0 : Int) ∧ (0 : Int) < (↑s.length : Int)), true), ((↑(s.getD (0 : Nat) (0 : UInt8)).toNat : Int) == (255 : Int), true), (decide ((↑s.length : Int) > (2 : Int)), false), (decide (s.length ≤ (1000 : Nat)) && !(decide ((2 : Nat) < s.length) && (decide (sb s (0 : Nat) = (255 : Nat)) && decide (sb s (1 : Nat) = (250 : Nat)))), true), ((↑(nextR s).2 : Int) == (0 : Int), true)] ∧ (((↑(0 : Nat) : Int) = (0 : Int) ∧ (↑(0 : Nat) : Int) = (0 : Int) ∧ (↑(0 : Nat) : Int) = (0 : Int) ∧ (↑(0 : Nat) : Int) = (0 : Int) ∧ (↑(0 : Nat) : Int) = (0 : Int) ∧ ([] : List UInt8) = []) ∧ resI Res.short = (0 : Int) ∧ True) ∧ True) := by kernel_rfl

set_option maxHeartbeats 4000000 in
theorem i7dz (s : List UInt8) (raw : Bool) (r : Tok × Nat) (hs : s.length ≤ 1000) (hp : 0 < s.length) (h0 : sb s 0 = 255) (h : s.length ≤ 2) (hn : nextR s = r) (rn : r.2 = 0)  :
    RunsTo Tryd.prog 40 [.code (bodyOf Tryd.f40)] (envOf [vS s, vB raw] Tryd.f40.ntmps) (Sx.look ([] ++ ([]))) 80 (itR (.short)) (Sx.look ([])) 500 := by
  have q0 := sb_lt s 0
  have q1 := sb_lt s 1
  have q2 := sb_lt s 2
  have u0 : IntKind.i64.wrap (sb s 0 : Int) = (sb s 0 : Int) := wr64 (by omega)
  have u1 : IntKind.i64.wrap (sb s 1 : Int) = (sb s 1 : Int) := wr64 (by omega)
  have u2 : IntKind.i64.wrap (sb s 2 : Int) = (sb s 2 : Int) := wr64 (by omega)
  have w250 : ∀ k : Nat, k < 256 → IntKind.i64.wrap (k : Int) = (k : Int) := fun k hk => wr64 (by omega)
  refine runs_last baseI7 (Sx.Ends.of (i7dz_p0 s raw r) ⟨?oo, ?rr⟩) (by kernel_rfl) rfl (gtL (by decide)) (by decide)
  case oo =>
    refine (okc ?_ (okc ?_ (okc ?_ (okc ?_ (okc ?_ (okc ?_ (okc ?_ okn)))))))
    all_goals ((try simp (disch := omega) only [SS, u0, u1, u2, sb_def, Int.toNat_natCast, hn, h0, rn]); first | done | omega | assumption | (simp (disch := omega) only [SS, u0, u1, u2, sb_def, Int.toNat_natCast, hn, h0, rn] at *; first | done | omega | assumption) | (simp_all; done))
  case rr =>
    try simp (disch := omega) only [SS, u0, u1, u2, sb_def, hn, h0, rn]
    repeat' apply And.intro
    all_goals first | exact True.intro | with_reducible rfl | omega | (simp_all; done) | (simp [itT, zX, itR, resX, resI]; done) | (simp_all [itT, zX, itR, resX, resI]; done) | rfl

theorem i7d1_p0 (s : List UInt8) (raw : Bool) (r : Tok × Nat) :
    isEnd (evTill Tryd.prog sumsI7 300 (99) 900 40 [.code (bodyOf Tryd.f40)] (envOf [vS s, vB raw] Tryd.f40.ntmps) ([] ++ ([])) ⟨[.s true, .s false, .s true, .s true, .s false, .s true, .s false, .s true], 80⟩) (endP ([]) (itR (.ok ⟨1, r.1.code, 0, []⟩ r.2)) ([]) 500) =
    (OkL [(decide ((0 : Int) ≤ (0 : Int) ∧ (0 : Int) < (↑s.length : Int)), true), ((↑(s.getD (0 : Nat) (0 : UInt8)).toNat : Int) == (13 : Int), false), (decide ((0 : Int) ≤ (0 : Int) ∧ (0 : Int) < (↑s.length : Int)), true), ((↑(s.getD (0 : Nat) (0 : UInt8)).toNat : Int) == (255 : Int), true), (decide ((↑s.length : Int) > (2 : Int)), false), (decide (s.length ≤ (1000 : Nat)) && !(decide ((2 : Nat) < s.length) && (decide (sb s (0 : Nat) = (255 : Nat)) && decide (sb s (1 : Nat) = (250 : Nat)))), true), ((↑(nextR s).2 : Int) == (0 : Int), false), ((↑(nextR s).1.1 : Int) == (1 : Int), true)] ∧ (((↑(1 : Nat) : Int) = (1 : Int) ∧ (↑(0 : Nat) : Int) = (0 : Int) ∧ (↑(0 : Nat) : Int) = (0 : Int) ∧ (↑r.1.2 : Int) = (↑(nextR s).1.2 : Int) ∧ (↑(0 : Nat) : Int) = (0 : Int) ∧ ([] : List UInt8) = []) ∧ resI (Res.ok { kind := (1 : Nat), code := r.1.2, opt := (0 : Nat), body := [] } r.2) = (↑(nextR s).2 : Int) ∧ True) ∧ True) := by kernel_rfl

set_option maxHeartbeats 4000000 in
theorem i7d1 (s : List UInt8) (raw : Bool) (r : Tok × Nat) (hs : s.length ≤ 1000) (hp : 0 < s.length) (h0 : sb s 0 = 255) (h : s.length ≤ 2) (hn : nextR s = r) (rn : r.2 ≠ 0) (rk : r.1.kind = 1)  :
    RunsTo Tryd.prog 40 [.code (bodyOf Tryd.f40)] (envOf [vS s, vB raw] Tryd.f40.ntmps) (Sx.look ([] ++ ([]))) 80 (itR (.ok ⟨1, r.1.code, 0, []⟩ r.2)) (Sx.look ([])) 500 := by
  have q0 := sb_lt s 0
  have q1 := sb_lt s 1
  have q2 := sb_lt s 2
  have u0 : IntKind.i64.wrap (sb s 0 : Int) = (sb s 0 : Int) := wr64 (by omega)
  have u1 : IntKind.i64.wrap (sb s 1 : Int) = (sb s 1 : Int) := wr64 (by omega)
  have u2 : IntKind.i64.wrap (sb s 2 : Int) = (sb s 2 : Int) := wr64 (by omega)
  have w250 : ∀ k : Nat, k < 256 → IntKind.i64.wrap (k : Int) = (k : Int) := fun k hk => wr64 (by omega)
  refine runs_last baseI7 (Sx.Ends.of (i7d1_p0 s raw r) ⟨?oo, ?rr⟩) (by kernel_rfl) rfl (gtL (by decide)) (by decide)
  case oo =>
    refine (okc ?_ (okc ?_ (okc ?_ (okc ?_ (okc ?_ (okc ?_ (okc ?_ (okc ?_ okn))))))))
    all_goals ((try simp (disch := omega) only [SS, u0, u1, u2, sb_def, Int.toNat_natCast, hn, h0, rk]); first | done | omega | assumption | (simp (disch := omega) only [SS, u0, u1, u2, sb_def, Int.toNat_natCast, hn, h0, rk] at *; first | done | omega | assumption) | (simp_all; done))
  case rr =>
    try simp (disch := omega) only [SS, u0, u1, u2, sb_def, hn, h0, rk]
    repeat' apply And.intro
    all_goals first | exact True.intro | with_reducible rfl | omega | (simp_all; done) | (simp [itT, zX, itR, resX, resI]; done) | (simp_all [itT, zX, itR, resX, resI]; done) | rfl

theorem i7d2_p0 (s : List UInt8) (raw : Bool) (r : Tok × Nat) :
    isEnd (evTill Tryd.prog sumsI7 300 (99) 900 40 [.code (bodyOf Tryd.f40)] (envOf [vS s, vB raw] Tryd.f40.ntmps) ([] ++ ([])) ⟨[.s true, .s false, .s true, .s true, .s false, .s true, .s false, .s false, .s true, .s true], 80⟩) (endP ([]) (itR (.ok ⟨3, r.1.code, 0, []⟩ r.2)) ([]) 500) =
    (OkL [(decide ((0 : Int) ≤ (0 : Int) ∧ (0 : Int) < (↑s.length : Int)), true), ((↑(s.getD (0 : Nat) (0 : UInt8)).toNat : Int) == (13 : Int), false), (decide ((0 : Int) ≤ (0 : Int) ∧ (0 : Int) < (↑s.length : Int)), true), ((↑(s.getD (0 : Nat) (0 : UInt8)).toNat : Int) == (255 : Int), true), (decide ((↑s.length : Int) > (2 : Int)), false), (decide (s.length ≤ (1000 : Nat)) && !(decide ((2 : Nat) < s.length) && (decide (sb s (0 : Nat) = (255 : Nat)) && decide (sb s (1 : Nat) = (250 : Nat)))), true), ((↑(nextR s).2 : Int) == (0 : Int), false), ((↑(nextR s).1.1 : Int) == (1 : Int), false), ((↑(nextR s).1.1 : Int) == (2 : Int), true), (decide ((↑(nextR s).1.2 : Int) > (240 : Int)), true)] ∧ (((↑(3 : Nat) : Int) = (3 : Int) ∧ (↑(0 : Nat) : Int) = (0 : Int) ∧ (↑(0 : Nat) : Int) = (0 : Int) ∧ (↑r.1.2 : Int) = (↑(nextR s).1.2 : Int) ∧ (↑(0 : Nat) : Int) = (0 : Int) ∧ ([] : List UInt8) = []) ∧ resI (Res.ok { kind := (3 : Nat), code := r.1.2, opt := (0 : Nat), body := [] } r.2) = (↑(nextR s).2 : Int) ∧ True) ∧ True) := by kernel_rfl

set_option maxHeartbeats 4000000 in
theorem i7d2 (s : List UInt8) (raw : Bool) (r : Tok × Nat) (hs : s.length ≤ 1000) (hp : 0 < s.length) (h0 : sb s 0 = 255) (h : s.length ≤ 2) (hn : nextR s = r) (rn : r.2 ≠ 0) (rk : r.1.kind = 2) (rc : 240 < r.1.code)  :
    RunsTo Tryd.prog 40 [.code (bodyOf Tryd.f40)] (envOf [vS s, vB raw] Tryd.f40.ntmps) (Sx.look ([] ++ ([]))) 80 (itR (.ok ⟨3, r.1.code, 0, []⟩ r.2)) (Sx.look ([])) 500 := by
  have q0 := sb_lt s 0
  have q1 := sb_lt s 1
  have q2 := sb_lt s 2
  have u0 : IntKind.i64.wrap (sb s 0 : Int) = (sb s 0 : Int) := wr64 (by omega)
  have u1 : IntKind.i64.wrap (sb s 1 : Int) = (sb s 1 : Int) := wr64 (by omega)
  have u2 : IntKind.i64.wrap (sb s 2 : Int) = (sb s 2 : Int) := wr64 (by omega)
  have w250 : ∀ k : Nat, k < 256 → IntKind.i64.wrap (k : Int) = (k : Int) := fun k hk => wr64 (by omega)
  refine runs_last baseI7 (Sx.Ends.of (i7d2_p0 s raw r) ⟨?oo, ?rr⟩) (by kernel_rfl) rfl (gtL (by decide)) (by decide)
  case oo =>
    refine (okc ?_ (okc ?_ (okc ?_ (okc ?_ (okc ?_ (okc ?_ (okc ?_ (okc ?_ (okc ?_ (okc ?_ okn))))))))))
    all_goals ((try simp (disch := omega) only [SS, u0, u1, u2, sb_def, Int.toNat_natCast, hn, h0, rk]); first | done | omega | assumption | (simp (disch := omega) only [SS, u0, u1, u2, sb_def, Int.toNat_natCast, hn, h0, rk] at *; first | done | omega | assumption) | (simp_all; done))
  case rr =>
    try simp (disch := omega) only [SS, u0, u1, u2, sb_def, hn, h0, rk]
    repeat' apply And.intro
    all_goals first | exact True.intro | with_reducible rfl | omega | (simp_all; done) | (simp [itT, zX, itR, resX, resI]; done) | (simp_all [itT, zX, itR, resX, resI]; done) | rfl

theorem i7df_p0 (s : List UInt8) (raw : Bool) (r : Tok × Nat) :
    isEnd (evTill Tryd.prog sumsI7 300 (99) 900 40 [.code (bodyOf Tryd.f40)] (envOf [vS s, vB raw] Tryd.f40.ntmps) ([] ++ ([])) ⟨[.s true, .s false, .s true, .s true, .s false, .s true, .s false, .s false, .s true, .s false, .s false], 80⟩) (endP ([]) (itR (.form)) ([]) 500) =
    (OkL [(decide ((0 : Int) ≤ (0 : Int) ∧ (0 : Int) < (↑s.length : Int)), true), ((↑(s.getD (0 : Nat) (0 : UInt8)).toNat : Int) == (13 : Int), false), (decide ((0 : Int) ≤ (0 : Int) ∧ (0 : Int) < (↑s.length : Int)), true), ((↑(s.getD (0 : Nat) (0 : UInt8)).toNat : Int) == (255 : Int), true), (decide ((↑s.length : Int) > (2 : Int)), false), (decide (s.length ≤ (1000 : Nat)) && !(decide ((2 : Nat) < s.length) && (decide (sb s (0 : Nat) = (255 : Nat)) && decide (sb s (1 : Nat) = (250 : Nat)))), true), ((↑(nextR s).2 : Int) == (0 : Int), false), ((↑(nextR s).1.1 : Int) == (1 : Int), false), ((↑(nextR s).1.1 : Int) == (2 : Int), true), (decide ((↑(nextR s).1.2 : Int) > (240 : Int)), false), ((↑(nextR s).1.1 : Int) == (3 : Int), false)] ∧ (((↑(0 : Nat) : Int) = (0 : Int) ∧ (↑(0 : Nat) : Int) = (0 : Int) ∧ (↑(0 : Nat) : Int) = (0 : Int) ∧ (↑(0 : Nat) : Int) = (0 : Int) ∧ (↑(0 : Nat) : Int) = (0 : Int) ∧ ([] : List UInt8) = []) ∧ resI Res.form = (-1 : Int) ∧ True) ∧ True) := by kernel_rfl

set_option maxHeartbeats 4000000 in
theorem i7df (s : List UInt8) (raw : Bool) (r : Tok × Nat) (hs : s.length ≤ 1000) (hp : 0 < s.length) (h0 : sb s 0 = 255) (h : s.length ≤ 2) (hn : nextR s = r) (rn : r.2 ≠ 0) (rk : r.1.kind = 2) (rc : r.1.code ≤ 240)  :
    RunsTo Tryd.prog 40 [.code (bodyOf Tryd.f40)] (envOf [vS s, vB raw] Tryd.f40.ntmps) (Sx.look ([] ++ ([]))) 80 (itR (.form)) (Sx.look ([])) 500 := by
  have q0 := sb_lt s 0
  have q1 := sb_lt s 1
  have q2 := sb_lt s 2
  have u0 : IntKind.i64.wrap (sb s 0 : Int) = (sb s 0 : Int) := wr64 (by omega)
  have u1 : IntKind.i64.wrap (sb s 1 : Int) = (sb s 1 : Int) := wr64 (by omega)
  have u2 : IntKind.i64.wrap (sb s 2 : Int) = (sb s 2 : Int) := wr64 (by omega)
  have w250 : ∀ k : Nat, k < 256 → IntKind.i64.wrap (k : Int) = (k : Int) := fun k hk => wr64 (by omega)
  refine runs_last baseI7 (Sx.Ends.of (i7df_p0 s raw r) ⟨?oo, ?rr⟩) (by kernel_rfl) rfl (gtL (by decide)) (by decide)
  case oo =>
    refine (okc ?_ (okc ?_ (okc ?_ (okc ?_ (okc ?_ (okc ?_ (okc ?_ (okc ?_ (okc ?_ (okc ?_ (okc ?_ okn)))))))))))
    all_goals ((try simp (disch := omega) only [SS, u0, u1, u2, sb_def, Int.toNat_natCast, hn, h0, rk]); first | done | omega | assumption | (simp (disch := omega) only [SS, u0, u1, u2, sb_def, Int.toNat_natCast, hn, h0, rk] at *; first | done | omega | assumption) | (simp_all; done))
  case rr =>
    try simp (disch := omega) only [SS, u0, u1, u2, sb_def, hn, h0, rk]
    repeat' apply And.intro
    all_goals first | exact True.intro | with_reducible rfl | omega | (simp_all; done) | (simp [itT, zX, itR, resX, resI]; done) | (simp_all [itT, zX, itR, resX, resI]; done) | rfl

theorem i7e1_p0 (s : List UInt8) (raw : Bool) (r : Tok × Nat) :
    isEnd (evTill Tryd.prog sumsI7 300 (99) 900 40 [.code (bodyOf Tryd.f40)] (envOf [vS s, vB raw] Tryd.f40.ntmps) ([] ++ ([])) ⟨[.s true, .s false, .s true, .s true, .s true, .s true, .s false, .s true, .s false, .s true], 80⟩) (endP ([]) (itR (.ok ⟨1, r.1.code, 0, []⟩ r.2)) ([]) 500) =
    (OkL [(decide ((0 : Int) ≤ (0 : Int) ∧ (0 : Int) < (↑s.length : Int)), true), ((↑(s.getD (0 : Nat) (0 : UInt8)).toNat : Int) == (13 : Int), false), (decide ((0 : Int) ≤ (0 : Int) ∧ (0 : Int) < (↑s.length : Int)), true), ((↑(s.getD (0 : Nat) (0 : UInt8)).toNat : Int) == (255 : Int), true), (decide ((↑s.length : Int) > (2 : Int)), true), (decide ((0 : Int) ≤ (1 : Int) ∧ (1 : Int) < (↑s.length : Int)), true), ((↑(s.getD (1 : Nat) (0 : UInt8)).toNat : Int) == (250 : Int), false), (decide (s.length ≤ (1000 : Nat)) && !(decide ((2 : Nat) < s.length) && (decide (sb s (0 : Nat) = (255 : Nat)) && decide (sb s (1 : Nat) = (250 : Nat)))), true), ((↑(nextR s).2 : Int) == (0 : Int), false), ((↑(nextR s).1.1 : Int) == (1 : Int), true)] ∧ (((↑(1 : Nat) : Int) = (1 : Int) ∧ (↑(0 : Nat) : Int) = (0 : Int) ∧ (↑(0 : Nat) : Int) = (0 : Int) ∧ (↑r.1.2 : Int) = (↑(nextR s).1.2 : Int) ∧ (↑(0 : Nat) : Int) = (0 : Int) ∧ ([] : List UInt8) = []) ∧ resI (Res.ok { kind := (1 : Nat), code := r.1.2, opt := (0 : Nat), body := [] } r.2) = (↑(nextR s).2 : Int) ∧ True) ∧ True) := by kernel_rfl

set_option maxHeartbeats 4000000 in
theorem i7e1 (s : List UInt8) (raw : Bool) (r : Tok × Nat) (hs : s.length ≤ 1000) (hp : 0 < s.length) (h0 : sb s 0 = 255) (h : 2 < s.length) (h1 : sb s 1 ≠ 250) (hn : nextR s = r) (rn : r.2 ≠ 0) (rk : r.1.kind = 1)  :
    RunsTo Tryd.prog 40 [.code (bodyOf Tryd.f40)] (envOf [vS s, vB raw] Tryd.f40.ntmps) (Sx.look ([] ++ ([]))) 80 (itR (.ok ⟨1, r.1.code, 0, []⟩ r.2)) (Sx.look ([])) 500 := by
  have q0 := sb_lt s 0
  have q1 := sb_lt s 1
  have q2 := sb_lt s 2
  have u0 : IntKind.i64.wrap (sb s 0 : Int) = (sb s 0 : Int) := wr64 (by omega)
  have u1 : IntKind.i64.wrap (sb s 1 : Int) = (sb s 1 : Int) := wr64 (by omega)
  have u2 : IntKind.i64.wrap (sb s 2 : Int) = (sb s 2 : Int) := wr64 (by omega)
  have w250 : ∀ k : Nat, k < 256 → IntKind.i64.wrap (k : Int) = (k : Int) := fun k hk => wr64 (by omega)
  refine runs_last baseI7 (Sx.Ends.of (i7e1_p0 s raw r) ⟨?oo, ?rr⟩) (by kernel_rfl) rfl (gtL (by decide)) (by decide)
  case oo =>
    refine (okc ?_ (okc ?_ (okc ?_ (okc ?_ (okc ?_ (okc ?_ (okc ?_ (okc ?_ (okc ?_ (okc ?_ okn))))))))))
    all_goals ((try simp (disch := omega) only [SS, u0, u1, u2, sb_def, Int.toNat_natCast, hn, h0, rk]); first | done | omega | assumption | (simp (disch := omega) only [SS, u0, u1, u2, sb_def, Int.toNat_natCast, hn, h0, rk] at *; first | done | omega | assumption) | (simp_all; done))
  case rr =>
    try simp (disch := omega) only [SS, u0, u1, u2, sb_def, hn, h0, rk]
    repeat' apply And.intro
    all_goals first | exact True.intro | with_reducible rfl | omega | (simp_all; done) | (simp [itT, zX, itR, resX, resI]; done) | (simp_all [itT, zX, itR, resX, resI]; done) | rfl

theorem i7e2_p0 (s : List UInt8) (raw : Bool) (r : Tok × Nat) :
    isEnd (evTill Tryd.prog sumsI7 300 (99) 900 40 [.code (bodyOf Tryd.f40)] (envOf [vS s, vB raw] Tryd.f40.ntmps) ([] ++ ([])) ⟨[.s true, .s false, .s true, .s true, .s true, .s true, .s false, .s true, .s false, .s false, .s true, .s true], 80⟩) (endP ([]) (itR (.ok ⟨3, r.1.code, 0, []⟩ r.2)) ([]) 500) =
    (OkL [(decide ((0 : Int) ≤ (0 : Int) ∧ (0 : Int) < (↑s.length : Int)), true), ((↑(s.getD (0 : Nat) (0 : UInt8)).toNat : Int) == (13 : Int), false), (decide ((0 : Int) ≤ (0 : Int) ∧ (0 : Int) < (↑s.length : Int)), true), ((↑(s.getD (0 : Nat) (0 : UInt8)).toNat : Int) == (255 : Int), true), (decide ((↑s.length : Int) > (2 : Int)), true), (decide ((0 : Int) ≤ (1 : Int) ∧ (1 : Int) < (↑s.length : Int)), true), ((↑(s.getD (1 : Nat) (0 : UInt8)).toNat : Int) == (250 : Int), false), (decide (s.length ≤ (1000 : Nat)) && !(decide ((2 : Nat) < s.length) && (decide (sb s (0 : Nat) = (255 : Nat)) && decide (sb s (1 : Nat) = (250 : Nat)))), true), ((↑(nextR s).2 : Int) == (0 : Int), false), ((↑(nextR s).1.1 : Int) == (1 : Int), false), ((↑(nextR s).1.1 : Int) == (2 : Int), true), (decide ((↑(nextR s).1.2 : Int) > (240 : Int)), true)] ∧ (((↑(3 : Nat) : Int) = (3 : Int) ∧ (↑(0 : Nat) : Int) = (0 : Int) ∧ (↑(0 : Nat) : Int) = (0 : Int) ∧ (↑r.1.2 : Int) = (↑(nextR s).1.2 : Int) ∧ (↑(0 : Nat) : Int) = (0 : Int) ∧ ([] : List UInt8) = []) ∧ resI (Res.ok { kind := (3 : Nat), code := r.1.2, opt := (0 : Nat), body := [] } r.2) = (↑(nextR s).2 : Int) ∧ True) ∧ True) := by kernel_rfl

set_option maxHeartbeats 4000000 in
theorem i7e2 (s : List UInt8) (raw : Bool) (r : Tok × Nat) (hs : s.length ≤ 1000) (hp : 0 < s.length) (h0 : sb s 0 = 255) (h : 2 < s.length) (h1 : sb s 1 ≠ 250) (hn : nextR s = r) (rn : r.2 ≠ 0) (rk : r.1.kind = 2) (rc : 240 < r.1.code)  :
    RunsTo Tryd.prog 40 [.code (bodyOf Tryd.f40)] (envOf [vS s, vB raw] Tryd.f40.ntmps) (Sx.look ([] ++ ([]))) 80 (itR (.ok ⟨3, r.1.code, 0, []⟩ r.2)) (Sx.look ([])) 500 := by
  have q0 := sb_lt s 0
  have q1 := sb_lt s 1
  have q2 := sb_lt s 2
  have u0 : IntKind.i64.wrap (sb s 0 : Int) = (sb s 0 : Int) := wr64 (by omega)
  have u1 : IntKind.i64.wrap (sb s 1 : Int) = (sb s 1 : Int) := wr64 (by omega)
  have u2 : IntKind.i64.wrap (sb s 2 : Int) = (sb s 2 : Int) := wr64 (by omega)
  have w250 : ∀ k : Nat, k < 256 → IntKind.i64.wrap (k : Int) = (k : Int) := fun k hk => wr64 (by omega)
  refine runs_last baseI7 (Sx.Ends.of (i7e2_p0 s raw r) ⟨?oo, ?rr⟩) (by kernel_rfl) rfl (gtL (by decide)) (by decide)
  case oo =>
    refine (okc ?_ (okc ?_ (okc ?_ (okc ?_ (okc ?_ (okc ?_ (okc ?_ (okc ?_ (okc ?_ (okc ?_ (okc ?_ (okc ?_ okn))))))))))))
    all_goals ((try simp (disch := omega) only [SS, u0, u1, u2, sb_def, Int.toNat_natCast, hn, h0, rk]); first | done | omega | assumption | (simp (disch := omega) only [SS, u0, u1, u2, sb_def, Int.toNat_natCast, hn, h0, rk] at *; first | done | omega | assumption) | (simp_all; done))
  case rr =>
    try simp (disch := omega) only [SS, u0, u1, u2, sb_def, hn, h0, rk]
    repeat' apply And.intro
    all_goals first | exact True.intro | with_reducible rfl | omega | (simp_all; done) | (simp [itT, zX, itR, resX, resI]; done) | (simp_all [itT, zX, itR, resX, resI]; done) | rfl

theorem i7e3_p0 (s : List UInt8) (raw : Bool) (r : Tok × Nat) :
    isEnd (evTill Tryd.prog sumsI7 300 (99) 900 40 [.code (bodyOf Tryd.f40)] (envOf [vS s, vB raw] Tryd.f40.ntmps) ([] ++ ([])) ⟨[.s true, .s false, .s true, .s true, .s true, .s true, .s false, .s true, .s false, .s false, .s false, .s true], 80⟩) (endP ([]) (itR (.ok ⟨4, r.1.code, r.1.opt, []⟩ r.2)) ([]) 500) =
    (OkL [(decide ((0 : Int) ≤ (0 : Int) ∧ (0 : Int) < (↑s.length : Int)), true), ((↑(s.getD (0 : Nat) (0 : UInt8)).toNat : Int) == (13 : Int), false), (decide ((0 : Int) ≤ (0 : Int) ∧ (0 : Int) < (↑s.length : Int)), true), ((↑(s.getD (0 : Nat) (0 : UInt8)).toNat : Int) == (255 : Int), true), (decide ((↑s.length : Int) > (2 : Int)), true), (decide ((0 : Int) ≤ (1 : Int) ∧ (1 : Int) < (↑s.length : Int)), true), ((↑(s.getD (1 : Nat) (0 : UInt8)).toNat : Int) == (250 : Int), false), (decide (s.length ≤ (1000 : Nat)) && !(decide ((2 : Nat) < s.length) && (decide (sb s (0 : Nat) = (255 : Nat)) && decide (sb s (1 : Nat) = (250 : Nat)))), true), ((↑(nextR s).2 : Int) == (0 : Int), false), ((↑(nextR s).1.1 : Int) == (1 : Int), false), ((↑(nextR s).1.1 : Int) == (2 : Int), false), ((↑(nextR s).1.1 : Int) == (3 : Int), true)] ∧ (((↑(4 : Nat) : Int) = (4 : Int) ∧ (↑(0 : Nat) : Int) = (0 : Int) ∧ (↑(0 : Nat) : Int) = (0 : Int) ∧ (↑r.1.2 : Int) = (↑(nextR s).1.2 : Int) ∧ (↑r.1.3 : Int) = (↑(nextR s).1.3 : Int) ∧ ([] : List UInt8) = []) ∧ resI (Res.ok { kind := (4 : Nat), code := r.1.2, opt := r.1.3, body := [] } r.2) = (↑(nextR s).2 : Int) ∧ True) ∧ True) := by kernel_rfl

set_option maxHeartbeats 4000000 in
theorem i7e3 (s : List UInt8) (raw : Bool) (r : Tok × Nat) (hs : s.length ≤ 1000) (hp : 0 < s.length) (h0 : sb s 0 = 255) (h : 2 < s.length) (h1 : sb s 1 ≠ 250) (hn : nextR s = r) (rn : r.2 ≠ 0) (rk : r.1.kind = 3)  :
    RunsTo Tryd.prog 40 [.code (bodyOf Tryd.f40)] (envOf [vS s, vB raw] Tryd.f40.ntmps) (Sx.look ([] ++ ([]))) 80 (itR (.ok ⟨4, r.1.code, r.1.opt, []⟩ r.2)) (Sx.look ([])) 500 := by
  have q0 := sb_lt s 0
  have q1 := sb_lt s 1
  have q2 := sb_lt s 2
  have u0 : IntKind.i64.wrap (sb s 0 : Int) = (sb s 0 : Int) := wr64 (by omega)
  have u1 : IntKind.i64.wrap (sb s 1 : Int) = (sb s 1 : Int) := wr64 (by omega)
  have u2 : IntKind.i64.wrap (sb s 2 : Int) = (sb s 2 : Int) := wr64 (by omega)
  have w250 : ∀ k : Nat, k < 256 → IntKind.i64.wrap (k : Int) = (k : Int) := fun k hk => wr64 (by omega)
  refine runs_last baseI7 (Sx.Ends.of (i7e3_p0 s raw r) ⟨?oo, ?rr⟩) (by kernel_rfl) rfl (gtL (by decide)) (by decide)
  case oo =>
    refine (okc ?_ (okc ?_ (okc ?_ (okc ?_ (okc ?_ (okc ?_ (okc ?_ (okc ?_ (okc ?_ (okc ?_ (okc ?_ (okc ?_ okn))))))))))))
    all_goals ((try simp (disch := omega) only [SS, u0, u1, u2, sb_def, Int.toNat_natCast, hn, h0, rk]); first | done | omega | assumption | (simp (disch := omega) only [SS, u0, u1, u2, sb_def, Int.toNat_natCast, hn, h0, rk] at *; first | done | omega | assumption) | (simp_all; done))
  case rr =>
    try simp (disch := omega) only [SS, u0, u1, u2, sb_def, hn, h0, rk]
    repeat' apply And.intro
    all_goals first | exact True.intro | with_reducible rfl | omega | (simp_all; done) | (simp [itT, zX, itR, resX, resI]; done) | (simp_all [itT, zX, itR, resX, resI]; done) | rfl

theorem i7ef_p0 (s : List UInt8) (raw : Bool) (r : Tok × Nat) :
    isEnd (evTill Tryd.prog sumsI7 300 (99) 900 40 [.code (bodyOf Tryd.f40)] (envOf [vS s, vB raw] Tryd.f40.ntmps) ([] ++ ([])) ⟨[.s true, .s false, .s true, .s true, .s true, .s true, .s false, .s true, .s false, .s false, .s true, .s false, .s false], 80⟩) (endP ([]) (itR (.form)) ([]) 500) =
    (OkL [(decide ((0 : Int) ≤ (0 : Int) ∧ (0 : Int) < (↑s.length : Int)), true), ((↑(s.getD (0 : Nat) (0 : UInt8)).toNat : Int) == (13 : Int), false), (decide ((0 : Int) ≤ (0 : Int) ∧ (0 : Int) < (↑s.length : Int)), true), ((↑(s.getD (0 : Nat) (0 : UInt8)).toNat : Int) == (255 : Int), true), (decide ((↑s.length : Int) > (2 : Int)), true), (decide ((0 : Int) ≤ (1 : Int) ∧ (1 : Int) < (↑s.length : Int)), true), ((↑(s.getD (1 : Nat) (0 : UInt8)).toNat : Int) == (250 : Int), false), (decide (s.length ≤ (1000 : Nat)) && !(decide ((2 : Nat) < s.length) && (decide (sb s (0 : Nat) = (255 : Nat)) && decide (sb s (1 : Nat) = (250 : Nat)))), true), ((↑(nextR s).2 : Int) == (0 : Int), false), ((↑(nextR s).1.1 : Int) == (1 : Int), false), ((↑(nextR s).1.1 : Int) == (2 : Int), true), (decide ((↑(nextR s).1.2 : Int) > (240 : Int)), false), ((↑(nextR s).1.1 : Int) == (3 : Int), false)] ∧ (((↑(0 : Nat) : Int) = (0 : Int) ∧ (↑(0 : Nat) : Int) = (0 : Int) ∧ (↑(0 : Nat) : Int) = (0 : Int) ∧ (↑(0 : Nat) : Int) = (0 : Int) ∧ (↑(0 : Nat) : Int) = (0 : Int) ∧ ([] : List UInt8) = []) ∧ resI Res.form = (-1 : Int) ∧ True) ∧ True) := by kernel_rfl

set_option maxHeartbeats 4000000 in
theorem i7ef (s : List UInt8) (raw : Bool) (r : Tok × Nat) (hs : s.length ≤ 1000) (hp : 0 < s.length) (h0 : sb s 0 = 255) (h : 2 < s.length) (h1 : sb s 1 ≠ 250) (hn : nextR s = r) (rn : r.2 ≠ 0) (rk : r.1.kind = 2) (rc : r.1.code ≤ 240)  :
    RunsTo Tryd.prog 40 [.code (bodyOf Tryd.f40)] (envOf [vS s, vB raw] Tryd.f40.ntmps) (Sx.look ([] ++ ([]))) 80 (itR (.form)) (Sx.look ([])) 500 := by
  have q0 := sb_lt s 0
  have q1 := sb_lt s 1
  have q2 := sb_lt s 2
  have u0 : IntKind.i64.wrap (sb s 0 : Int) = (sb s 0 : Int) := wr64 (by omega)
  have u1 : IntKind.i64.wrap (sb s 1 : Int) = (sb s 1 : Int) := wr64 (by omega)
  have u2 : IntKind.i64.wrap (sb s 2 : Int) = (sb s 2 : Int) := wr64 (by omega)
  have w250 : ∀ k : Nat, k < 256 → IntKind.i64.wrap (k : Int) = (k : Int) := fun k hk => wr64 (by omega)
  refine runs_last baseI7 (Sx.Ends.of (i7ef_p0 s raw r) ⟨?oo, ?rr⟩) (by kernel_rfl) rfl (gtL (by decide)) (by decide)
  case oo =>
    refine (okc ?_ (okc ?_ (okc ?_ (okc ?_ (okc ?_ (okc ?_ (okc ?_ (okc ?_ (okc ?_ (okc ?_ (okc ?_ (okc ?_ (okc ?_ okn)))))))))))))
    all_goals ((try simp (disch := omega) only [SS, u0, u1, u2, sb_def, Int.toNat_natCast, hn, h0, rk]); first | done | omega | assumption | (simp (disch := omega) only [SS, u0, u1, u2, sb_def, Int.toNat_natCast, hn, h0, rk] at *; first | done | omega | assumption) | (simp_all; done))
  case rr =>
    try simp (disch := omega) only [SS, u0, u1, u2, sb_def, hn, h0, rk]
    repeat' apply And.intro
    all_goals first | exact True.intro | with_reducible rfl | omega | (simp_all; done) | (simp [itT, zX, itR, resX, resI]; done) | (simp_all [itT, zX, itR, resX, resI]; done) | rfl

end Go.Proofs.YtcphocfnhekdaaaDoor

set_option linter.unusedSimpArgs false
set_option linter.unusedVariables false
set_option maxRecDepth 100000
namespace Go.Proofs.YtcphocfnhekdaaaDoor
open Go.Sx

open CleanR GramR
theorem itI (s : List UInt8) (raw : Bool) (hs : s.length ≤ 1000) (hp : 0 < s.length) : RunsTo Tryd.prog 40 [.code (bodyOf Tryd.f40)] (envOf [vS s, vB raw] Tryd.f40.ntmps) (Sx.look ([] ++ ([]))) 80 (itR (itemI raw s)) (Sx.look []) 500 := by
  match s, hs, hp with
  | c :: r, hs, hp =>
    by_cases h255 : c = 255
    · subst h255
      have ec : itemI raw (255 :: r) = cmdI r := by simp [itemI]
      rw [ec]
      match r, hs, hp with
      | [], hs, hp => exact i7dz [255] raw (z0, 0) hs hp rfl (by simp) (by simp [nextR]) rfl
      | d :: r2, hs, hp =>
        have hd := d.toNat_lt
        by_cases d255 : d = 255
        · subst d255
          rw [show cmdI (255 :: r2) = .ok ⟨1, 255, 0, []⟩ 2 by simp [cmdI]]
          by_cases hl : (255 :: 255 :: r2 : List UInt8).length ≤ 2
          · exact i7d1 _ raw (⟨1, 255, 0, []⟩, 2) hs hp rfl hl (by simp [nextR]) (by simp) rfl
          · exact i7e1 _ raw (⟨1, 255, 0, []⟩, 2) hs hp rfl (by omega) (by show (255 : Nat) ≠ 250; decide) (by simp [nextR]) (by simp) rfl
        have n255 : d.toNat ≠ 255 := fun e => d255 (u8eq e)
        by_cases d250 : d = 250
        · subst d250
          match r2, hs, hp with
          | [], hs, hp =>
            rw [show cmdI [250] = .short by simp [cmdI]]
            exact i7dz [255, 250] raw (z0, 0) hs hp rfl (by simp) (by simp [nextR]) rfl
          | e :: r3, hs, hp =>
            rw [show cmdI (250 :: e :: r3) = subI e.toNat r3 [] 3 by simp [cmdI]]
            exact i7C (255 :: 250 :: e :: r3) raw hs hp rfl (by simp) rfl
        have n250 : d.toNat ≠ 250 := fun e => d250 (u8eq e)
        by_cases hlt : d.toNat < 250
        · have en : nextR (255 :: d :: r2) = (⟨2, d.toNat, 0, []⟩, 2) := by simp [nextR, d255, hlt]
          by_cases h240 : 240 < d.toNat
          · rw [show cmdI (d :: r2) = .ok ⟨3, d.toNat, 0, []⟩ 2 by simp only [cmdI, if_neg d255]; rw [if_pos (show 241 ≤ d.toNat ∧ d.toNat ≤ 249 by omega)]]
            by_cases hl : (255 :: d :: r2 : List UInt8).length ≤ 2
            · exact i7d2 _ raw (⟨2, d.toNat, 0, []⟩, 2) hs hp rfl hl en (by simp) rfl h240
            · exact i7e2 _ raw (⟨2, d.toNat, 0, []⟩, 2) hs hp rfl (by omega) n250 en (by simp) rfl h240
          · rw [show cmdI (d :: r2) = .form by simp only [cmdI, if_neg d255]; rw [if_neg (show ¬ (241 ≤ d.toNat ∧ d.toNat ≤ 249) by omega), if_neg (show ¬ (251 ≤ d.toNat ∧ d.toNat ≤ 254) by omega), if_neg d250]]
            by_cases hl : (255 :: d :: r2 : List UInt8).length ≤ 2
            · exact i7df _ raw (⟨2, d.toNat, 0, []⟩, 2) hs hp rfl hl en (by simp) rfl (by show d.toNat ≤ 240; omega)
            · exact i7ef _ raw (⟨2, d.toNat, 0, []⟩, 2) hs hp rfl (by omega) n250 en (by simp) rfl (by show d.toNat ≤ 240; omega)
        · match r2, hs, hp with
          | [], hs, hp =>
            rw [show cmdI [d] = .short by simp only [cmdI, if_neg d255]; rw [if_neg (show ¬ (241 ≤ d.toNat ∧ d.toNat ≤ 249) by omega), if_pos (show 251 ≤ d.toNat ∧ d.toNat ≤ 254 by omega)]]
            exact i7dz [255, d] raw (z0, 0) hs hp rfl (by simp) (by simp [nextR, d255, hlt]) rfl
          | e :: r3, hs, hp =>
            rw [show cmdI (d :: e :: r3) = .ok ⟨4, d.toNat, e.toNat, []⟩ 3 by simp only [cmdI, if_neg d255]; rw [if_neg (show ¬ (241 ≤ d.toNat ∧ d.toNat ≤ 249) by omega), if_pos (show 251 ≤ d.toNat ∧ d.toNat ≤ 254 by omega)]]
            exact i7e3 _ raw (⟨3, d.toNat, e.toNat, []⟩, 3) hs hp rfl (by simp) n250 (by simp [nextR, d255, hlt, show 250 < d.toNat by omega]) (by simp) rfl
    · have n255 : c.toNat ≠ 255 := fun e => h255 (u8eq e)
      have en : ∀ q : List UInt8, nextR (c :: q) = (⟨1, c.toNat, 0, []⟩, 1) := fun q => by rw [nextR.eq_def]; simp [h255]
      by_cases h13 : c = 13
      · subst h13
        cases raw with
        | true =>
          rw [show itemI true (13 :: r) = .ok ⟨1, 13, 0, []⟩ 1 by rw [itemI.eq_def]; simp]
          exact i7Db _ true (⟨1, 13, 0, []⟩, 1) hs hp rfl rfl (en r) rfl rfl
        | false =>
          match r, hs, hp with
          | [], hs, hp => rw [show itemI false [13] = .short by simp [itemI]]; exact i7A [13] false hs hp rfl rfl rfl
          | d :: r2, hs, hp =>
            by_cases d0 : d = 0
            · subst d0; rw [show itemI false (13 :: 0 :: r2) = .ok ⟨2, 0, 0, []⟩ 2 by simp [itemI]]; exact i7B0 _ false hs hp rfl rfl (by simp) rfl
            by_cases d1 : d = 10
            · subst d1; rw [show itemI false (13 :: 10 :: r2) = .ok ⟨2, 10, 0, []⟩ 2 by simp [itemI]]; exact i7B1 _ false hs hp rfl rfl (by simp) rfl
            rw [show itemI false (13 :: d :: r2) = .ok ⟨1, 13, 0, []⟩ 1 by simp [itemI, d0, d1]]
            exact i7Dc _ false (⟨1, 13, 0, []⟩, 1) hs hp rfl rfl (by simp) ⟨fun e => d0 (u8eq e), fun e => d1 (u8eq e)⟩ (en _) rfl rfl
      · have n13 : c.toNat ≠ 13 := fun e => h13 (u8eq e)
        rw [show itemI raw (c :: r) = .ok ⟨1, c.toNat, 0, []⟩ 1 by rw [itemI.eq_def]; simp [h255, h13]]
        exact i7Da _ raw (⟨1, c.toNat, 0, []⟩, 1) hs hp n255 n13 (en r) rfl rfl
def itP : PC := { args := [.v (.vs 0), .v (.vb 1)], heap := [], gs := [], G := 19, tp := 144, n := 80, n' := 500, cond := fun e => decide ((eS e 0 []).length ≤ 1000) && decide (0 < (eS e 0 []).length), v := fun e => itR (itemI (eB e 1 []) (eS e 0 [])), post := fun e => [] }
theorem itP_pc : PC.Runs Tryd.prog 40 Tryd.f40 (bodyOf Tryd.f40) itP := ⟨Tryd.func40, by kernel_rfl, (fun g hg => by first | (cases hg; done) | (revert g; show ∀ g ∈ ([] : List Nat), g < 19; decide)), fun e H hc => by
  have hc : (decide ((eS e 0 []).length ≤ 1000) && decide (0 < (eS e 0 []).length)) = true := hc
  try simp only [Bool.and_eq_true, decide_eq_true_eq, Nat.beq_eq] at hc
  exact itI (eS e 0 []) (eB e 1 []) hc.1 hc.2⟩
abbrev vi64 (a : Int) : Tr := .vi .i64 fun _ => a
def iY (T : List Itm) : Ix → List UInt8 := fun is => (T.getD (is.headD 0) zIt).1.body
def jE (l : Nat) (T : List Itm) : List Ent := [⟨l, true, none, 6, .ta T.length (.tc (.vi .i64 (iK T)) (.tc (.vi .i64 (iF T)) (.tc (.vi .i64 (iT T)) (.tc (.vi .i64 (iC T)) (.tc (.vi .i64 (iO T)) (.tc (.vs (iY T)) .t0))))))⟩]
def zE (l : Nat) : List Ent := [⟨l, true, none, 6, .ta 0 (.tc (.vi .i64 fun _ => 0) (.tc (.vi .i64 fun _ => 0) (.tc (.vi .i64 fun _ => 0) (.tc (.vi .i64 fun _ => 0) (.tc (.vi .i64 fun _ => 0) (.tc (.vs fun _ => []) .t0))))))⟩]
theorem iY_app (T : List Itm) (t : Itm) (g : Ix → List UInt8) (hg : g [0] = t.1.body) : ∀ k, k < T.length + 1 → iY (T ++ [t]) [k] = appF T.length 0 (iY T) g [k] := it_app (fun t => t.1.body) T t g hg
def sumsR6 : List (FuncId × Summ) := [(40, itP.summ 38)]
theorem baseR6 : Base0 Tryd.prog sumsR6 := (baseO.cons Tryd.func40 (by kernel_rfl) (PC.summ_ok itP_pc gtopG))
theorem r6Start_p0 (s : List UInt8) (raw : Bool) :
    isMore (evTill Tryd.prog sumsR6 300 (behind Tryd.f16 0) 900 16 [.code (bodyOf Tryd.f16)] (envOf [vS s, vB raw] Tryd.f16.ntmps) ([] ++ ([])) ⟨[], 80⟩) (moreP (headOf Tryd.f16 0) ([((101 : Nat), Rn.to (80 : Nat))]) Tryd.f16.ntmps ([(0, vS s), (1, vB raw), (7, vL 101 6 (([] : List Itm)).length), (8, vN (0 : Nat))]) (jE 101 (([] : List Itm))) 700) =
    (OkL [] ∧ headOf Tryd.f16 (0 : Nat) = headOf Tryd.f16 (0 : Nat) ∧ (s = s ∧ raw = raw ∧ ((0 : Nat) = (0 : Nat) ∧ (0 : Nat) = (0 : Nat)) ∧ (↑(0 : Nat) : Int) = (0 : Int)) ∧ (0 : Nat) = (0 : Nat) ∧ (∀ (i : Nat), i < (0 : Nat) → iK [] [i] = (0 : Int)) ∧ (∀ (i : Nat), i < (0 : Nat) → iF [] [i] = (0 : Int)) ∧ (∀ (i : Nat), i < (0 : Nat) → iT [] [i] = (0 : Int)) ∧ (∀ (i : Nat), i < (0 : Nat) → iC [] [i] = (0 : Int)) ∧ (∀ (i : Nat), i < (0 : Nat) → iO [] [i] = (0 : Int)) ∧ ∀ (i : Nat), i < (0 : Nat) → iY [] [i] = []) := by kernel_rfl

set_option maxHeartbeats 4000000 in
theorem r6Start (s : List UInt8) (raw : Bool)  (v : SV) (L' : HF) (next : RunsTo Tryd.prog 16 (headOf Tryd.f16 0) (envAt Tryd.f16.ntmps ([(0, vS s), (1, vB raw), (7, vL 101 6 (([] : List Itm)).length), (8, vN (0 : Nat))])) (Sx.look ([] ++ (jE 101 (([] : List Itm))))) 80 (v) (L') 700) :
    RunsTo Tryd.prog 16 [.code (bodyOf Tryd.f16)] (envOf [vS s, vB raw] Tryd.f16.ntmps) (Sx.look ([] ++ ([]))) 80 (v) (L') 700 := by
  refine runs_more baseR6 (More.of (r6Start_p0 s raw) ⟨?oo, rfl, ?rr⟩) (by kernel_rfl) (by kernel_rfl) rfl (gtL (by decide)) (by decide) next
  case oo =>
    clear next
    refine okn
    all_goals ((try simp (disch := omega) only [SS]); first | done | omega | assumption | (simp (disch := omega) only [SS] at *; first | done | omega | assumption) | (simp_all; done))
  case rr =>
    clear next
    try simp (disch := omega) only [SS]
    repeat' apply And.intro
    all_goals first | exact True.intro | with_reducible rfl | omega | (intros; first | exact True.intro | with_reducible rfl | omega | (simp_all; done)) | (simp_all; done) | rfl

theorem r6R_p0 (s : List UInt8) (raw : Bool) (T : List Itm) (i : Nat) (x : It) (n : Nat) :
    isMore (evTill Tryd.prog sumsR6 300 (behind Tryd.f16 0) 900 16 (headOf Tryd.f16 0) (envAt Tryd.f16.ntmps ([(0, vS s), (1, vB raw), (7, vL 101 6 (T).length), (8, vN (i : Nat))])) ([] ++ (jE 101 (T))) ⟨[.s true, .s true, .s true, .s false, .s false, .t, .s true, .s true], 120⟩) (moreP (headOf Tryd.f16 0) ([((101 : Nat), Rn.to (542 : Nat))]) Tryd.f16.ntmps ([(0, vS s), (1, vB raw), (7, vL 101 6 (T ++ [(x, i, i + n)]).length), (8, vN (i + n : Nat))]) (jE 101 (T ++ [(x, i, i + n)])) 700) =
    (OkL [(decide ((↑i : Int) < (↑s.length : Int)), true), (decide ((0 : Int) ≤ (↑i : Int) ∧ (↑i : Int) ≤ (↑s.length : Int)), true), (decide ((List.drop (↑i : Int).toNat (List.take s.length s)).length ≤ (1000 : Nat)) && decide ((0 : Nat) < (List.drop (↑i : Int).toNat (List.take s.length s)).length), true), (decide (resI (itemI raw (List.drop (↑i : Int).toNat (List.take s.length s))) < (0 : Int)), false), (resI (itemI raw (List.drop (↑i : Int).toNat (List.take s.length s))) == (0 : Int), false), (((0 : Nat) + T.length).ble T.length, true), (decide (((2 : Nat) * (T.length + (1 : Nat)) + (192 : Nat)) * (56 : Nat) ≤ (281474976710656 : Nat)), true)] ∧ headOf Tryd.f16 (0 : Nat) = headOf Tryd.f16 (0 : Nat) ∧ (s = s ∧ raw = raw ∧ ((0 : Nat) = (0 : Nat) ∧ (T ++ [(x, i, i + n)]).length = T.length + (1 : Nat)) ∧ (↑(i + n) : Int) = IntKind.i64.wrap ((↑i : Int) + resI (itemI raw (List.drop (↑i : Int).toNat (List.take s.length s))))) ∧ (T ++ [(x, i, i + n)]).length = T.length + (1 : Nat) ∧ (∀ (i_1 : Nat), i_1 < (T ++ [(x, i, i + n)]).length → iK (T ++ [(x, i, i + n)]) [i_1] = appF T.length (0 : Nat) (iK T) (fun js => (↑(resX (itemI raw (List.drop (↑i : Int).toNat (List.take s.length s)))).1 : Int)) [i_1]) ∧ (∀ (i_1 : Nat), i_1 < (T ++ [(x, i, i + n)]).length → iF (T ++ [(x, i, i + n)]) [i_1] = appF T.length (0 : Nat) (iF T) (fun js => (↑i : Int)) [i_1]) ∧ (∀ (i_1 : Nat), i_1 < (T ++ [(x, i, i + n)]).length → iT (T ++ [(x, i, i + n)]) [i_1] = appF T.length (0 : Nat) (iT T) (fun js => IntKind.i64.wrap ((↑i : Int) + resI (itemI raw (List.drop (↑i : Int).toNat (List.take s.length s))))) [i_1]) ∧ (∀ (i_1 : Nat), i_1 < (T ++ [(x, i, i + n)]).length → iC (T ++ [(x, i, i + n)]) [i_1] = appF T.length (0 : Nat) (iC T) (fun js => (↑(resX (itemI raw (List.drop (↑i : Int).toNat (List.take s.length s)))).2 : Int)) [i_1]) ∧ (∀ (i_1 : Nat), i_1 < (T ++ [(x, i, i + n)]).length → iO (T ++ [(x, i, i + n)]) [i_1] = appF T.length (0 : Nat) (iO T) (fun js => (↑(resX (itemI raw (List.drop (↑i : Int).toNat (List.take s.length s)))).3 : Int)) [i_1]) ∧ ∀ (i_1 : Nat), i_1 < (T ++ [(x, i, i + n)]).length → iY (T ++ [(x, i, i + n)]) [i_1] = appF T.length (0 : Nat) (iY T) (fun js => (resX (itemI raw (List.drop (↑i : Int).toNat (List.take s.length s)))).4) [i_1]) := by kernel_rfl

set_option maxHeartbeats 4000000 in
theorem r6R (s : List UInt8) (raw : Bool) (T : List Itm) (i : Nat) (x : It) (n : Nat) (hs : s.length ≤ 1000) (hi : i < s.length) (hT : T.length ≤ i) (hr : itemI raw (s.drop i) = .ok x n) (hn : 0 < n) (hn2 : n ≤ s.length - i)  (v : SV) (L' : HF) (next : RunsTo Tryd.prog 16 (headOf Tryd.f16 0) (envAt Tryd.f16.ntmps ([(0, vS s), (1, vB raw), (7, vL 101 6 (T ++ [(x, i, i + n)]).length), (8, vN (i + n : Nat))])) (Sx.look ([] ++ (jE 101 (T ++ [(x, i, i + n)])))) 80 (v) (L') 700) :
    RunsTo Tryd.prog 16 (headOf Tryd.f16 0) (envAt Tryd.f16.ntmps ([(0, vS s), (1, vB raw), (7, vL 101 6 (T).length), (8, vN (i : Nat))])) (Sx.look ([] ++ (jE 101 (T)))) 80 (v) (L') 700 := by
  have hl : (s.drop i).length = s.length - i := List.length_drop
  have ht : List.take s.length s = s := List.take_length
  have rI : resI (.ok x n) = (n : Int) := rfl
  have rX : resX (.ok x n) = x := rfl
  have ws : IntKind.i64.wrap ((i : Int) + (n : Int)) = ((i + n : Nat) : Int) := by rw [wr64 (by omega)]; rfl
  refine runs_more baseR6 (More.of (r6R_p0 s raw T i x n) ⟨?oo, rfl, ?rr⟩) (by kernel_rfl) (by kernel_rfl) rfl (gtL (by decide)) (by decide) next
  case oo =>
    clear next
    refine (okc ?_ (okc ?_ (okc ?_ (okc ?_ (okc ?_ (okc ?_ (okc ?_ okn)))))))
    all_goals ((try simp (disch := omega) only [SS, ht, hl, Go.Sx.sum, Int.toNat_natCast, List.length_append, List.length_cons, List.length_nil, Nat.zero_add, hr, rI, rX, ws]); first | done | omega | assumption | (simp (disch := omega) only [SS, ht, hl, Go.Sx.sum, Int.toNat_natCast, List.length_append, List.length_cons, List.length_nil, Nat.zero_add, hr, rI, rX, ws] at *; first | done | omega | assumption) | (simp_all; done))
  case rr =>
    clear next
    simp (disch := omega) only [SS, ht, hl, Go.Sx.sum, Int.toNat_natCast, List.length_append, List.length_cons, List.length_nil, Nat.zero_add, hr, rI, rX, ws]
    repeat' apply And.intro
    all_goals first | exact True.intro | with_reducible rfl | omega | exact iK_app T _ _ rfl | exact iF_app T _ _ rfl | exact iT_app T _ _ rfl | exact iC_app T _ _ rfl | exact iO_app T _ _ rfl | exact iY_app T _ _ rfl | (simp_all; done)

theorem r6S_p0 (s : List UInt8) (raw : Bool) (T : List Itm) (i : Nat) :
    isEnd (evTill Tryd.prog sumsR6 300 (99) 900 16 (headOf Tryd.f16 0) (envAt Tryd.f16.ntmps ([(0, vS s), (1, vB raw), (7, vL 101 6 (T).length), (8, vN (i : Nat))])) ([] ++ (jE 101 (T))) ⟨[.s true, .s true, .s true, .s false, .s true], 120⟩) (endP ([]) (.tup [(false, .vl 101 (fun _ => 0) 6 [] (fun _ => (T).length)), (false, vi64 (((s.length - i : Nat) : Int))), (false, .vb fun _ => true)]) (jE 101 T) 700) =
    (OkL [(decide ((↑i : Int) < (↑s.length : Int)), true), (decide ((0 : Int) ≤ (↑i : Int) ∧ (↑i : Int) ≤ (↑s.length : Int)), true), (decide ((List.drop (↑i : Int).toNat (List.take s.length s)).length ≤ (1000 : Nat)) && decide ((0 : Nat) < (List.drop (↑i : Int).toNat (List.take s.length s)).length), true), (decide (resI (itemI raw (List.drop (↑i : Int).toNat (List.take s.length s))) < (0 : Int)), false), (resI (itemI raw (List.drop (↑i : Int).toNat (List.take s.length s))) == (0 : Int), true)] ∧ (((0 : Nat) = (0 : Nat) ∧ T.length = T.length) ∧ (↑(s.length - i) : Int) = IntKind.i64.wrap ((↑s.length : Int) - (↑i : Int)) ∧ true = true ∧ True) ∧ T.length = T.length ∧ (∀ (i : Nat), i < T.length → iK T [i] = iK T [i]) ∧ (∀ (i : Nat), i < T.length → iF T [i] = iF T [i]) ∧ (∀ (i : Nat), i < T.length → iT T [i] = iT T [i]) ∧ (∀ (i : Nat), i < T.length → iC T [i] = iC T [i]) ∧ (∀ (i : Nat), i < T.length → iO T [i] = iO T [i]) ∧ ∀ (i : Nat), i < T.length → iY T [i] = iY T [i]) := by kernel_rfl

set_option maxHeartbeats 4000000 in
theorem r6S (s : List UInt8) (raw : Bool) (T : List Itm) (i : Nat) (hs : s.length ≤ 1000) (hi : i < s.length) (hT : T.length ≤ i) (hr : itemI raw (s.drop i) = .short)  :
    RunsTo Tryd.prog 16 (headOf Tryd.f16 0) (envAt Tryd.f16.ntmps ([(0, vS s), (1, vB raw), (7, vL 101 6 (T).length), (8, vN (i : Nat))])) (Sx.look ([] ++ (jE 101 (T)))) 80 (.tup [(false, .vl 101 (fun _ => 0) 6 [] (fun _ => (T).length)), (false, vi64 (((s.length - i : Nat) : Int))), (false, .vb fun _ => true)]) (Sx.look (jE 101 T)) 700 := by
  have hl : (s.drop i).length = s.length - i := List.length_drop
  have ht : List.take s.length s = s := List.take_length
  have rI : resI .short = 0 := rfl
  have ws : IntKind.i64.wrap ((s.length : Int) - (i : Int)) = ((s.length - i : Nat) : Int) := by rw [wr64 (by omega)]; omega
  refine runs_last baseR6 (Sx.Ends.of (r6S_p0 s raw T i) ⟨?oo, ?rr⟩) (by kernel_rfl) rfl (gtL (by decide)) (by decide)
  case oo =>
    refine (okc ?_ (okc ?_ (okc ?_ (okc ?_ (okc ?_ okn)))))
    all_goals ((try simp (disch := omega) only [SS, ht, hl, Go.Sx.sum, Int.toNat_natCast, List.length_append, List.length_cons, List.length_nil, Nat.zero_add, hr, rI, ws]); first | done | omega | assumption | (simp (disch := omega) only [SS, ht, hl, Go.Sx.sum, Int.toNat_natCast, List.length_append, List.length_cons, List.length_nil, Nat.zero_add, hr, rI, ws] at *; first | done | omega | assumption) | (simp_all; done))
  case rr =>
    try simp (disch := omega) only [SS, ht, hl, Go.Sx.sum, Int.toNat_natCast, List.length_append, List.length_cons, List.length_nil, Nat.zero_add, hr, rI, ws]
    repeat' apply And.intro
    all_goals first | exact True.intro | with_reducible rfl | omega | (intros; first | exact True.intro | with_reducible rfl | omega | (simp_all; done)) | (simp_all; done) | rfl

theorem r6F_p0 (s : List UInt8) (raw : Bool) (T : List Itm) (i : Nat) :
    isEnd (evTill Tryd.prog sumsR6 300 (99) 900 16 (headOf Tryd.f16 0) (envAt Tryd.f16.ntmps ([(0, vS s), (1, vB raw), (7, vL 101 6 (T).length), (8, vN (i : Nat))])) ([] ++ (jE 101 (T))) ⟨[.s true, .s true, .s true, .s true], 120⟩) (endP ([]) (.tup [(false, .vl0), (false, vi64 0), (false, .vb fun _ => false)]) ([]) 700) =
    (OkL [(decide ((↑i : Int) < (↑s.length : Int)), true), (decide ((0 : Int) ≤ (↑i : Int) ∧ (↑i : Int) ≤ (↑s.length : Int)), true), (decide ((List.drop (↑i : Int).toNat (List.take s.length s)).length ≤ (1000 : Nat)) && decide ((0 : Nat) < (List.drop (↑i : Int).toNat (List.take s.length s)).length), true), (decide (resI (itemI raw (List.drop (↑i : Int).toNat (List.take s.length s))) < (0 : Int)), true)] ∧ (True ∧ (0 : Int) = (0 : Int) ∧ false = false ∧ True) ∧ True) := by kernel_rfl

set_option maxHeartbeats 4000000 in
theorem r6F (s : List UInt8) (raw : Bool) (T : List Itm) (i : Nat) (hs : s.length ≤ 1000) (hi : i < s.length) (hT : T.length ≤ i) (hr : itemI raw (s.drop i) = .form)  :
    RunsTo Tryd.prog 16 (headOf Tryd.f16 0) (envAt Tryd.f16.ntmps ([(0, vS s), (1, vB raw), (7, vL 101 6 (T).length), (8, vN (i : Nat))])) (Sx.look ([] ++ (jE 101 (T)))) 80 (.tup [(false, .vl0), (false, vi64 0), (false, .vb fun _ => false)]) (Sx.look ([])) 700 := by
  have hl : (s.drop i).length = s.length - i := List.length_drop
  have ht : List.take s.length s = s := List.take_length
  have rI : resI .form = -1 := rfl
  refine runs_last baseR6 (Sx.Ends.of (r6F_p0 s raw T i) ⟨?oo, ?rr⟩) (by kernel_rfl) rfl (gtL (by decide)) (by decide)
  case oo =>
    refine (okc ?_ (okc ?_ (okc ?_ (okc ?_ okn))))
    all_goals ((try simp (disch := omega) only [SS, ht, hl, Go.Sx.sum, Int.toNat_natCast, List.length_append, List.length_cons, List.length_nil, Nat.zero_add, hr, rI]); first | done | omega | assumption | (simp (disch := omega) only [SS, ht, hl, Go.Sx.sum, Int.toNat_natCast, List.length_append, List.length_cons, List.length_nil, Nat.zero_add, hr, rI] at *; first | done | omega | assumption) | (simp_all; done))
  case rr =>
    try simp (disch := omega) only [SS, ht, hl, Go.Sx.sum, Int.toNat_natCast, List.length_append, List.length_cons, List.length_nil, Nat.zero_add, hr, rI]
    repeat' apply And.intro
    all_goals first | exact True.intro | with_reducible rfl | omega | (intros; first | exact True.intro | with_reducible rfl | omega | (simp_all; done)) | (simp_all; done) | rfl

theorem r6E_p0 (s : List UInt8) (raw : Bool) (T : List Itm) (i : Nat) :
    isEnd (evTill Tryd.prog sumsR6 300 (99) 900 16 (headOf Tryd.f16 0) (envAt Tryd.f16.ntmps ([(0, vS s), (1, vB raw), (7, vL 101 6 (T).length), (8, vN (i : Nat))])) ([] ++ (jE 101 (T))) ⟨[.s false], 120⟩) (endP ([]) (.tup [(false, .vl 101 (fun _ => 0) 6 [] (fun _ => (T).length)), (false, vi64 (0)), (false, .vb fun _ => true)]) (jE 101 T) 700) =
    (OkL [(decide ((↑i : Int) < (↑s.length : Int)), false)] ∧ (((0 : Nat) = (0 : Nat) ∧ T.length = T.length) ∧ (0 : Int) = (0 : Int) ∧ true = true ∧ True) ∧ T.length = T.length ∧ (∀ (i : Nat), i < T.length → iK T [i] = iK T [i]) ∧ (∀ (i : Nat), i < T.length → iF T [i] = iF T [i]) ∧ (∀ (i : Nat), i < T.length → iT T [i] = iT T [i]) ∧ (∀ (i : Nat), i < T.length → iC T [i] = iC T [i]) ∧ (∀ (i : Nat), i < T.length → iO T [i] = iO T [i]) ∧ ∀ (i : Nat), i < T.length → iY T [i] = iY T [i]) := by kernel_rfl

set_option maxHeartbeats 4000000 in
theorem r6E (s : List UInt8) (raw : Bool) (T : List Itm) (i : Nat) (hi : i = s.length)  :
    RunsTo Tryd.prog 16 (headOf Tryd.f16 0) (envAt Tryd.f16.ntmps ([(0, vS s), (1, vB raw), (7, vL 101 6 (T).length), (8, vN (i : Nat))])) (Sx.look ([] ++ (jE 101 (T)))) 80 (.tup [(false, .vl 101 (fun _ => 0) 6 [] (fun _ => (T).length)), (false, vi64 (0)), (false, .vb fun _ => true)]) (Sx.look (jE 101 T)) 700 := by
  refine runs_last baseR6 (Sx.Ends.of (r6E_p0 s raw T i) ⟨?oo, ?rr⟩) (by kernel_rfl) rfl (gtL (by decide)) (by decide)
  case oo =>
    refine (okc ?_ okn)
    all_goals ((try simp (disch := omega) only [SS]); first | done | omega | assumption | (simp (disch := omega) only [SS] at *; first | done | omega | assumption) | (simp_all; done))
  case rr =>
    try simp (disch := omega) only [SS]
    repeat' apply And.intro
    all_goals first | exact True.intro | with_reducible rfl | omega | (intros; first | exact True.intro | with_reducible rfl | omega | (simp_all; done)) | (simp_all; done) | rfl

theorem r6L (s : List UInt8) (raw : Bool) (hs : s.length ≤ 1000) : ∀ (k i : Nat) (T : List Itm), s.length - i < k → i ≤ s.length → T.length ≤ i → match (goI raw k i (s.drop i)).2 with
    | some mm => RunsTo Tryd.prog 16 (headOf Tryd.f16 0) (envAt Tryd.f16.ntmps ([(0, vS s), (1, vB raw), (7, vL 101 6 (T).length), (8, vN (i : Nat))])) (Sx.look ([] ++ (jE 101 (T)))) 80 (.tup [(false, .vl 101 (fun _ => 0) 6 [] (fun _ => ((T ++ (goI raw k i (s.drop i)).1)).length)), (false, vi64 ((mm : Int))), (false, .vb fun _ => true)]) (Sx.look (jE 101 (T ++ (goI raw k i (s.drop i)).1))) 700
    | none => RunsTo Tryd.prog 16 (headOf Tryd.f16 0) (envAt Tryd.f16.ntmps ([(0, vS s), (1, vB raw), (7, vL 101 6 (T).length), (8, vN (i : Nat))])) (Sx.look ([] ++ (jE 101 (T)))) 80 (.tup [(false, .vl0), (false, vi64 0), (false, .vb fun _ => false)]) (Sx.look []) 700 := by
  intro k
  induction k with
  | zero => intro i T hk; omega
  | succ k ih =>
    intro i T hk hi hT
    simp only [goI]
    by_cases he : i = s.length
    · rw [if_pos (show s.drop i = [] from List.drop_eq_nil_of_le (by omega))]
      simp only [List.append_nil]
      exact r6E s raw T i he
    · have e0 := drop_at s (i := i) (by omega)
      rw [if_neg (by rw [e0]; simp)]
      cases hx : itemI raw (s.drop i) with
      | ok x n =>
        obtain ⟨p1, p2, _⟩ := item_pre raw _ x n hx
        rw [List.length_drop] at p2
        have q := ih (i + n) (T ++ [(x, i, i + n)]) (by omega) (by omega) (by simp; omega)
        have hdd : (s.drop i).drop n = s.drop (i + n) := by rw [List.drop_drop]
        simp only
        rw [hdd]
        revert q
        rw [← List.append_cons]
        cases (goI raw k (i + n) (s.drop (i + n))).2 with
        | some mm => intro q; exact r6R s raw T i x n hs (by omega) hT hx p1 p2 _ _ q
        | none => intro q; exact r6R s raw T i x n hs (by omega) hT hx p1 p2 _ _ q
      | short =>
        simp only [List.append_nil, List.length_drop]
        exact r6S s raw T i hs (by omega) hT hx
      | form => exact r6F s raw T i hs (by omega) hT hx
theorem r6I (s : List UInt8) (raw : Bool) (hs : s.length ≤ 1000) : match (allI raw s).2 with
    | some mm => RunsTo Tryd.prog 16 [.code (bodyOf Tryd.f16)] (envOf [vS s, vB raw] Tryd.f16.ntmps) (Sx.look ([] ++ ([]))) 80 (.tup [(false, .vl 101 (fun _ => 0) 6 [] (fun _ => ((allI raw s).1).length)), (false, vi64 ((mm : Int))), (false, .vb fun _ => true)]) (Sx.look (jE 101 (allI raw s).1)) 700
    | none => RunsTo Tryd.prog 16 [.code (bodyOf Tryd.f16)] (envOf [vS s, vB raw] Tryd.f16.ntmps) (Sx.look ([] ++ ([]))) 80 (.tup [(false, .vl0), (false, vi64 0), (false, .vb fun _ => false)]) (Sx.look []) 700 := by
  have q := r6L s raw hs (s.length + 1) 0 [] (by omega) (by omega) (by simp)
  rw [List.drop_zero, List.nil_append] at q
  show match (goI raw (s.length + 1) 0 s).2 with
    | some mm => _
    | none => _
  revert q
  unfold allI
  cases (goI raw (s.length + 1) 0 s).2 with
  | some mm => intro q; exact r6Start s raw _ _ q
  | none => intro q; exact r6Start s raw _ _ q
def alT (raw : Bool) (s : List UInt8) : List Itm := (allI raw s).1
def alN (raw : Bool) (s : List UInt8) : Nat := (allI raw s).2.getD 0
def alS (raw : Bool) (s : List UInt8) : Bool := (allI raw s).2.isSome
theorem r6OkI (s : List UInt8) (raw : Bool) (hs : s.length ≤ 1000) (hr : alS raw s = true) : RunsTo Tryd.prog 16 [.code (bodyOf Tryd.f16)] (envOf [vS s, vB raw] Tryd.f16.ntmps) (Sx.look ([] ++ ([]))) 80 (.tup [(false, .vl 101 (fun _ => 0) 6 [] (fun _ => (alT raw s).length)), (false, vi64 (((alN raw s : Nat) : Int))), (false, .vb fun _ => true)]) (Sx.look (jE 101 (alT raw s))) 700 := by
  have q := r6I s raw hs
  unfold alS at hr
  try unfold alT alN
  revert hr q
  generalize allI raw s = A
  obtain ⟨l, o⟩ := A
  cases o with
  | some m => intro hr q; first | (cases hr; done) | exact q
  | none => intro hr q; first | (cases hr; done) | exact q
def r6Ok : PC := { args := [.v (.vs 0), .v (.vb 1)], heap := [], gs := [], G := 19, tp := 144, n := 80, n' := 700, cond := fun e => decide ((eS e 0 []).length ≤ 1000) && alS (eB e 1 []) (eS e 0 []), v := fun e => .tup [(false, .vl 101 (fun _ => 0) 6 [] (fun _ => (alT (eB e 1 []) (eS e 0 [])).length)), (false, vi64 (((alN (eB e 1 []) (eS e 0 []) : Nat) : Int))), (false, .vb fun _ => true)], post := fun e => jE 101 (alT (eB e 1 []) (eS e 0 [])) }
theorem r6Ok_pc : PC.Runs Tryd.prog 16 Tryd.f16 (bodyOf Tryd.f16) r6Ok := ⟨Tryd.func16, by kernel_rfl, (fun g hg => by first | (cases hg; done) | (revert g; show ∀ g ∈ ([] : List Nat), g < 19; decide)), fun e H hc => by
  have hc : (decide ((eS e 0 []).length ≤ 1000) && alS (eB e 1 []) (eS e 0 [])) = true := hc
  try simp only [Bool.and_eq_true, decide_eq_true_eq, Nat.beq_eq] at hc
  exact r6OkI (eS e 0 []) (eB e 1 []) hc.1 (by have h := hc.2; exact h)⟩
theorem r6FoI (s : List UInt8) (raw : Bool) (hs : s.length ≤ 1000) (hr : alS raw s = false) : RunsTo Tryd.prog 16 [.code (bodyOf Tryd.f16)] (envOf [vS s, vB raw] Tryd.f16.ntmps) (Sx.look ([] ++ ([]))) 80 (.tup [(false, .vl0), (false, vi64 0), (false, .vb fun _ => false)]) (Sx.look ([])) 700 := by
  have q := r6I s raw hs
  unfold alS at hr
  try unfold alT alN
  revert hr q
  generalize allI raw s = A
  obtain ⟨l, o⟩ := A
  cases o with
  | some m => intro hr q; first | (cases hr; done) | exact q
  | none => intro hr q; first | (cases hr; done) | exact q
def r6Fo : PC := { args := [.v (.vs 0), .v (.vb 1)], heap := [], gs := [], G := 19, tp := 144, n := 80, n' := 700, cond := fun e => decide ((eS e 0 []).length ≤ 1000) && !alS (eB e 1 []) (eS e 0 []), v := fun e => .tup [(false, .vl0), (false, vi64 0), (false, .vb fun _ => false)], post := fun e => [] }
theorem r6Fo_pc : PC.Runs Tryd.prog 16 Tryd.f16 (bodyOf Tryd.f16) r6Fo := ⟨Tryd.func16, by kernel_rfl, (fun g hg => by first | (cases hg; done) | (revert g; show ∀ g ∈ ([] : List Nat), g < 19; decide)), fun e H hc => by
  have hc : (decide ((eS e 0 []).length ≤ 1000) && !alS (eB e 1 []) (eS e 0 [])) = true := hc
  try simp only [Bool.and_eq_true, decide_eq_true_eq, Nat.beq_eq] at hc
  exact r6FoI (eS e 0 []) (eB e 1 []) hc.1 (by have h := hc.2; simpa using h)⟩
end Go.Proofs.YtcphocfnhekdaaaDoor

set_option linter.unusedSimpArgs false
set_option linter.unusedVariables false
set_option maxRecDepth 100000
namespace Go.Proofs.YtcphocfnhekdaaaDoor
open Go.Sx

open CleanR GramR
def rR (l N : Nat) (K F T C O : Ix → Int) (S : Ix → List UInt8) : List Ent := [⟨l, false, none, 6, .ta N (.tc (.vi .i64 K) (.tc (.vi .i64 F) (.tc (.vi .i64 T) (.tc (.vi .i64 C) (.tc (.vi .i64 O) (.tc (.vs S) .t0))))))⟩]
def txG (K C : Ix → Int) : Nat → List UInt8
  | 0 => []
  | n + 1 => if K [n] = 1 then txG K C n ++ [UInt8.ofNat (C [n]).toNat] else if K [n] = 2 ∧ C [n] = 10 then txG K C n ++ [13, 10] else if K [n] = 2 then txG K C n ++ [13] else txG K C n
def cdB (K C : Ix → Int) (N : Nat) : Bool := (List.range N).all fun i => decide (K [i] ≠ 1 ∨ (0 ≤ C [i] ∧ C [i] < 256))
def anyV (F T : Ix → Int) (c : Int) : Nat → Nat → Bool
  | 0, _ => false
  | k + 1, i => if F [i] = c ∨ T [i] = c then true else anyV F T c k (i + 1)
def brW (F T : Ix → Int) (n : Nat) (many c : Int) : Bool := decide (c = 0) || (decide (c = many) || anyV F T c n 0)
def inG (B : Ix → Int) (N i : Nat) : Ix → Int := fun is => if is.headD 0 < N then B [is.headD 0] else if is.headD 0 < N + i then 90 else 0
theorem all_ok {N : Nat} {p : Nat → Bool} (h : (List.range N).all p = true) {i : Nat} (hi : i < N) : p i = true := List.all_eq_true.1 h i (List.mem_range.2 hi)
theorem inG_at (B : Ix → Int) (N i k : Nat) : inG B N i [k] = if k < N then B [k] else if k < N + i then 90 else 0 := rfl
theorem inG_0 (B : Ix → Int) (N k : Nat) : inG B N 0 [k] = cpyF N 0 (fun is => 0) (fun js => B (subIx 0 js)) [k] := by
  rw [inG_at]
  simp only [cpyF, subIx, Nat.zero_add, Nat.sub_zero, Nat.add_zero, Nat.zero_le, true_and]
  by_cases h : k < N
  · rw [if_pos h, if_pos h]
  · rw [if_neg h, if_neg h, if_neg h]
theorem inG_step (B : Ix → Int) (N i : Nat) (k : Nat) : inG B N (i + 1) [k] = upd (inG B N i) [N + i] 90 [k] := by
  simp only [upd, List.cons.injEq, and_true]
  rw [inG_at, inG_at]
  by_cases h : k < N
  · rw [if_pos h, if_neg (show ¬ k = N + i by omega), if_pos h]
  · rw [if_neg h]
    by_cases h2 : k = N + i
    · subst h2; rw [if_pos (show N + i < N + (i + 1) by omega), if_pos rfl]
    · rw [if_neg h2, if_neg h]
      by_cases h3 : k < N + i
      · rw [if_pos h3, if_pos (show k < N + (i + 1) by omega)]
      · rw [if_neg h3, if_neg (show ¬ k < N + (i + 1) by omega)]
theorem txG_F (T : List Itm) : ∀ n, txG (iK T) (iC T) n = txF T n
  | 0 => rfl
  | n + 1 => by
    have e1 : iK T [n] = ((T.getD n zIt).1.kind : Int) := rfl
    have e2 : iC T [n] = ((T.getD n zIt).1.code : Int) := rfl
    have c1 : (((T.getD n zIt).1.kind : Int) = 1) = ((T.getD n zIt).1.kind = 1) := propext (by omega)
    have c2 : (((T.getD n zIt).1.kind : Int) = 2) = ((T.getD n zIt).1.kind = 2) := propext (by omega)
    have c3 : (((T.getD n zIt).1.code : Int) = 10) = ((T.getD n zIt).1.code = 10) := propext (by omega)
    simp only [txG, txF, e1, e2, txG_F T n, Int.toNat_natCast, c1, c2, c3]
theorem txG_len (K C : Ix → Int) : ∀ n, (txG K C n).length ≤ 2 * n
  | 0 => by simp [txG]
  | n + 1 => by
    have := txG_len K C n
    simp only [txG]
    (repeat' split) <;> (try simp only [List.length_append, List.length_cons, List.length_nil]) <;> omega
theorem yStart_p0 (N : Nat) (K F T C O : Ix → Int) (S : Ix → List UInt8) :
    isMore (evTill Tryd.prog [] 300 (behind Tryd.f21 0) 900 21 [.code (bodyOf Tryd.f21)] (envOf [vL 61 6 N] Tryd.f21.ntmps) (rR 61 N K F T C O S ++ ([])) ⟨[], 80⟩) (moreP (headOf Tryd.f21 0) ([]) Tryd.f21.ntmps ([(3, vS (([] : List UInt8))), (6, vL 61 6 N), (7, vN N), (8, vN (0 : Nat))]) ([]) 160) =
    (OkL [] ∧ headOf Tryd.f21 (0 : Nat) = headOf Tryd.f21 (0 : Nat) ∧ (([] : List UInt8) = [] ∧ ((0 : Nat) = (0 : Nat) ∧ N = N) ∧ (↑N : Int) = (↑N : Int) ∧ (↑(0 : Nat) : Int) = (0 : Int)) ∧ True) := by kernel_rfl

set_option maxHeartbeats 4000000 in
theorem yStart (N : Nat) (K F T C O : Ix → Int) (S : Ix → List UInt8)  (v : SV) (L' : HF) (next : RunsTo Tryd.prog 21 (headOf Tryd.f21 0) (envAt Tryd.f21.ntmps ([(3, vS (([] : List UInt8))), (6, vL 61 6 N), (7, vN N), (8, vN (0 : Nat))])) (Sx.look (rR 61 N K F T C O S ++ ([]))) 80 (v) (L') 160) :
    RunsTo Tryd.prog 21 [.code (bodyOf Tryd.f21)] (envOf [vL 61 6 N] Tryd.f21.ntmps) (Sx.look (rR 61 N K F T C O S ++ ([]))) 80 (v) (L') 160 := by
  refine runs_more baseO (More.of (yStart_p0 N K F T C O S) ⟨?oo, rfl, ?rr⟩) (by kernel_rfl) (by kernel_rfl) rfl (gtL (by decide)) (by decide) next
  case oo =>
    clear next
    refine okn
    all_goals ((try simp (disch := omega) only [SS]); first | done | omega | assumption | (simp (disch := omega) only [SS] at *; first | done | omega | assumption) | (simp_all; done))
  case rr =>
    clear next
    try simp (disch := omega) only [SS]
    repeat' apply And.intro
    all_goals first | exact True.intro | with_reducible rfl | omega | (intros; first | exact True.intro | with_reducible rfl | omega | (simp_all; done)) | (simp_all; done) | rfl

theorem y1_p0 (N : Nat) (K F T C O : Ix → Int) (S : Ix → List UInt8) (o : List UInt8) (i : Nat) :
    isMore (evTill Tryd.prog [] 300 (behind Tryd.f21 0) 900 21 (headOf Tryd.f21 0) (envAt Tryd.f21.ntmps ([(3, vS (o)), (6, vL 61 6 N), (7, vN N), (8, vN (i : Nat))])) (rR 61 N K F T C O S ++ ([])) ⟨[.s true, .s true, .s true, .s true, .s true, .t, .s true, .s false, .s false], 120⟩) (moreP (headOf Tryd.f21 0) ([]) Tryd.f21.ntmps ([(3, vS (o ++ [UInt8.ofNat (C [i]).toNat])), (6, vL 61 6 N), (7, vN N), (8, vN (i + 1 : Nat))]) ([]) 160) =
    (OkL [(decide ((↑i : Int) < (↑N : Int)), true), (decide ((0 : Int) ≤ (↑i : Int) ∧ (↑i : Int) < (↑N : Int)), true), (((0 : Nat) + (↑i : Int).toNat).blt N, true), (((0 : Nat) + (↑i : Int).toNat).blt N, true), (K [(0 : Nat) + (↑i : Int).toNat] == (1 : Int), true), (decide (o.length + (bytesOf (fun is => IntKind.u8.wrap (C [(0 : Nat) + (↑i : Int).toNat])) [] (0 : Nat) (1 : Nat)).length ≤ (9223372036854775807 : Nat)), true), (K [(0 : Nat) + (↑i : Int).toNat] == (2 : Int), false), (K [(0 : Nat) + (↑i : Int).toNat] == (2 : Int), false)] ∧ headOf Tryd.f21 (0 : Nat) = headOf Tryd.f21 (0 : Nat) ∧ (o ++ [UInt8.ofNat (C [i]).toNat] = o ++ bytesOf (fun is => IntKind.u8.wrap (C [(0 : Nat) + (↑i : Int).toNat])) [] (0 : Nat) (1 : Nat) ∧ ((0 : Nat) = (0 : Nat) ∧ N = N) ∧ (↑N : Int) = (↑N : Int) ∧ (↑(i + (1 : Nat)) : Int) = IntKind.i64.wrap ((↑i : Int) + (1 : Int))) ∧ True) := by kernel_rfl

set_option maxHeartbeats 4000000 in
theorem y1 (N : Nat) (K F T C O : Ix → Int) (S : Ix → List UInt8) (o : List UInt8) (i : Nat) (hi : i < N) (hN : N ≤ 10000) (ho : o.length ≤ 20000) (h : K [i] = 1) (h2 : 0 ≤ C [i] ∧ C [i] < 256)  (v : SV) (L' : HF) (next : RunsTo Tryd.prog 21 (headOf Tryd.f21 0) (envAt Tryd.f21.ntmps ([(3, vS (o ++ [UInt8.ofNat (C [i]).toNat])), (6, vL 61 6 N), (7, vN N), (8, vN (i + 1 : Nat))])) (Sx.look (rR 61 N K F T C O S ++ ([]))) 80 (v) (L') 160) :
    RunsTo Tryd.prog 21 (headOf Tryd.f21 0) (envAt Tryd.f21.ntmps ([(3, vS (o)), (6, vL 61 6 N), (7, vN N), (8, vN (i : Nat))])) (Sx.look (rR 61 N K F T C O S ++ ([]))) 80 (v) (L') 160 := by
  have hw : IntKind.i64.wrap ((i : Int) + 1) = ((i + 1 : Nat) : Int) := by rw [wr64 (by omega)]; rfl
  have hu : IntKind.u8.wrap (C [i]) = C [i] := u8id h2
  refine runs_more baseO (More.of (y1_p0 N K F T C O S o i) ⟨?oo, rfl, ?rr⟩) (by kernel_rfl) (by kernel_rfl) rfl (gtL (by decide)) (by decide) next
  case oo =>
    clear next
    refine (okc ?_ (okc ?_ (okc ?_ (okc ?_ (okc ?_ (okc ?_ (okc ?_ (okc ?_ okn))))))))
    all_goals ((try simp (disch := omega) only [SS, hw, Go.Sx.sum, Nat.zero_add, List.length_append, List.length_cons, List.length_nil, h, hu, bytesOf_len]); first | done | omega | assumption | (simp (disch := omega) only [SS, hw, Go.Sx.sum, Nat.zero_add, List.length_append, List.length_cons, List.length_nil, h, hu, bytesOf_len] at *; first | done | omega | assumption) | (simp_all; done))
  case rr =>
    clear next
    try simp (disch := omega) only [SS, hw, Go.Sx.sum, Nat.zero_add, List.length_append, List.length_cons, List.length_nil, h, hu, bytesOf_len]
    repeat' apply And.intro
    all_goals first | exact True.intro | with_reducible rfl | omega | (simp [bytesOf, upd, hu]; done) | (simp_all; done) | (simp_all [bytesOf, upd]; done) | rfl

theorem y2_p0 (N : Nat) (K F T C O : Ix → Int) (S : Ix → List UInt8) (o : List UInt8) (i : Nat) :
    isMore (evTill Tryd.prog [] 300 (behind Tryd.f21 0) 900 21 (headOf Tryd.f21 0) (envAt Tryd.f21.ntmps ([(3, vS (o)), (6, vL 61 6 N), (7, vN N), (8, vN (i : Nat))])) (rR 61 N K F T C O S ++ ([])) ⟨[.s true, .s true, .s true, .s true, .s false, .s true, .s true, .s true, .s true, .s true], 120⟩) (moreP (headOf Tryd.f21 0) ([]) Tryd.f21.ntmps ([(3, vS (o ++ [13, 10])), (6, vL 61 6 N), (7, vN N), (8, vN (i + 1 : Nat))]) ([]) 160) =
    (OkL [(decide ((↑i : Int) < (↑N : Int)), true), (decide ((0 : Int) ≤ (↑i : Int) ∧ (↑i : Int) < (↑N : Int)), true), (((0 : Nat) + (↑i : Int).toNat).blt N, true), (((0 : Nat) + (↑i : Int).toNat).blt N, true), (K [(0 : Nat) + (↑i : Int).toNat] == (1 : Int), false), (K [(0 : Nat) + (↑i : Int).toNat] == (2 : Int), true), (decide (o.length + (1 : Nat) ≤ (9223372036854775807 : Nat)), true), (K [(0 : Nat) + (↑i : Int).toNat] == (2 : Int), true), (C [(0 : Nat) + (↑i : Int).toNat] == (10 : Int), true), (decide ((o ++ [(13 : UInt8)]).length + (1 : Nat) ≤ (9223372036854775807 : Nat)), true)] ∧ headOf Tryd.f21 (0 : Nat) = headOf Tryd.f21 (0 : Nat) ∧ (o ++ [(13 : UInt8), (10 : UInt8)] = o ++ [(13 : UInt8)] ++ [(10 : UInt8)] ∧ ((0 : Nat) = (0 : Nat) ∧ N = N) ∧ (↑N : Int) = (↑N : Int) ∧ (↑(i + (1 : Nat)) : Int) = IntKind.i64.wrap ((↑i : Int) + (1 : Int))) ∧ True) := by kernel_rfl

set_option maxHeartbeats 4000000 in
theorem y2 (N : Nat) (K F T C O : Ix → Int) (S : Ix → List UInt8) (o : List UInt8) (i : Nat) (hi : i < N) (hN : N ≤ 10000) (ho : o.length ≤ 20000) (h : K [i] = 2) (h2 : C [i] = 10)  (v : SV) (L' : HF) (next : RunsTo Tryd.prog 21 (headOf Tryd.f21 0) (envAt Tryd.f21.ntmps ([(3, vS (o ++ [13, 10])), (6, vL 61 6 N), (7, vN N), (8, vN (i + 1 : Nat))])) (Sx.look (rR 61 N K F T C O S ++ ([]))) 80 (v) (L') 160) :
    RunsTo Tryd.prog 21 (headOf Tryd.f21 0) (envAt Tryd.f21.ntmps ([(3, vS (o)), (6, vL 61 6 N), (7, vN N), (8, vN (i : Nat))])) (Sx.look (rR 61 N K F T C O S ++ ([]))) 80 (v) (L') 160 := by
  have hw : IntKind.i64.wrap ((i : Int) + 1) = ((i + 1 : Nat) : Int) := by rw [wr64 (by omega)]; rfl
  have hu : True := trivial
  refine runs_more baseO (More.of (y2_p0 N K F T C O S o i) ⟨?oo, rfl, ?rr⟩) (by kernel_rfl) (by kernel_rfl) rfl (gtL (by decide)) (by decide) next
  case oo =>
    clear next
    refine (okc ?_ (okc ?_ (okc ?_ (okc ?_ (okc ?_ (okc ?_ (okc ?_ (okc ?_ (okc ?_ (okc ?_ okn))))))))))
    all_goals ((try simp (disch := omega) only [SS, hw, Go.Sx.sum, Nat.zero_add, List.length_append, List.length_cons, List.length_nil, h, h2, bytesOf_len]); first | done | omega | assumption | (simp (disch := omega) only [SS, hw, Go.Sx.sum, Nat.zero_add, List.length_append, List.length_cons, List.length_nil, h, h2, bytesOf_len] at *; first | done | omega | assumption) | (simp_all; done))
  case rr =>
    clear next
    try simp (disch := omega) only [SS, hw, Go.Sx.sum, Nat.zero_add, List.length_append, List.length_cons, List.length_nil, h, h2, bytesOf_len]
    repeat' apply And.intro
    all_goals first | exact True.intro | with_reducible rfl | omega | (simp [bytesOf, upd, hu]; done) | (simp_all; done) | (simp_all [bytesOf, upd]; done) | rfl

theorem y3_p0 (N : Nat) (K F T C O : Ix → Int) (S : Ix → List UInt8) (o : List UInt8) (i : Nat) :
    isMore (evTill Tryd.prog [] 300 (behind Tryd.f21 0) 900 21 (headOf Tryd.f21 0) (envAt Tryd.f21.ntmps ([(3, vS (o)), (6, vL 61 6 N), (7, vN N), (8, vN (i : Nat))])) (rR 61 N K F T C O S ++ ([])) ⟨[.s true, .s true, .s true, .s true, .s false, .s true, .s true, .s true, .s false], 120⟩) (moreP (headOf Tryd.f21 0) ([]) Tryd.f21.ntmps ([(3, vS (o ++ [13])), (6, vL 61 6 N), (7, vN N), (8, vN (i + 1 : Nat))]) ([]) 160) =
    (OkL [(decide ((↑i : Int) < (↑N : Int)), true), (decide ((0 : Int) ≤ (↑i : Int) ∧ (↑i : Int) < (↑N : Int)), true), (((0 : Nat) + (↑i : Int).toNat).blt N, true), (((0 : Nat) + (↑i : Int).toNat).blt N, true), (K [(0 : Nat) + (↑i : Int).toNat] == (1 : Int), false), (K [(0 : Nat) + (↑i : Int).toNat] == (2 : Int), true), (decide (o.length + (1 : Nat) ≤ (9223372036854775807 : Nat)), true), (K [(0 : Nat) + (↑i : Int).toNat] == (2 : Int), true), (C [(0 : Nat) + (↑i : Int).toNat] == (10 : Int), false)] ∧ headOf Tryd.f21 (0 : Nat) = headOf Tryd.f21 (0 : Nat) ∧ (o ++ [(13 : UInt8)] = o ++ [(13 : UInt8)] ∧ ((0 : Nat) = (0 : Nat) ∧ N = N) ∧ (↑N : Int) = (↑N : Int) ∧ (↑(i + (1 : Nat)) : Int) = IntKind.i64.wrap ((↑i : Int) + (1 : Int))) ∧ True) := by kernel_rfl

set_option maxHeartbeats 4000000 in
theorem y3 (N : Nat) (K F T C O : Ix → Int) (S : Ix → List UInt8) (o : List UInt8) (i : Nat) (hi : i < N) (hN : N ≤ 10000) (ho : o.length ≤ 20000) (h : K [i] = 2) (h2 : C [i] ≠ 10)  (v : SV) (L' : HF) (next : RunsTo Tryd.prog 21 (headOf Tryd.f21 0) (envAt Tryd.f21.ntmps ([(3, vS (o ++ [13])), (6, vL 61 6 N), (7, vN N), (8, vN (i + 1 : Nat))])) (Sx.look (rR 61 N K F T C O S ++ ([]))) 80 (v) (L') 160) :
    RunsTo Tryd.prog 21 (headOf Tryd.f21 0) (envAt Tryd.f21.ntmps ([(3, vS (o)), (6, vL 61 6 N), (7, vN N), (8, vN (i : Nat))])) (Sx.look (rR 61 N K F T C O S ++ ([]))) 80 (v) (L') 160 := by
  have hw : IntKind.i64.wrap ((i : Int) + 1) = ((i + 1 : Nat) : Int) := by rw [wr64 (by omega)]; rfl
  have hu : True := trivial
  refine runs_more baseO (More.of (y3_p0 N K F T C O S o i) ⟨?oo, rfl, ?rr⟩) (by kernel_rfl) (by kernel_rfl) rfl (gtL (by decide)) (by decide) next
  case oo =>
    clear next
    refine (okc ?_ (okc ?_ (okc ?_ (okc ?_ (okc ?_ (okc ?_ (okc ?_ (okc ?_ (okc ?_ okn)))))))))
    all_goals ((try simp (disch := omega) only [SS, hw, Go.Sx.sum, Nat.zero_add, List.length_append, List.length_cons, List.length_nil, h, bytesOf_len]); first | done | omega | assumption | (simp (disch := omega) only [SS, hw, Go.Sx.sum, Nat.zero_add, List.length_append, List.length_cons, List.length_nil, h, bytesOf_len] at *; first | done | omega | assumption) | (simp_all; done))
  case rr =>
    clear next
    try simp (disch := omega) only [SS, hw, Go.Sx.sum, Nat.zero_add, List.length_append, List.length_cons, List.length_nil, h, bytesOf_len]
    repeat' apply And.intro
    all_goals first | exact True.intro | with_reducible rfl | omega | (simp [bytesOf, upd, hu]; done) | (simp_all; done) | (simp_all [bytesOf, upd]; done) | rfl

theorem y0_p0 (N : Nat) (K F T C O : Ix → Int) (S : Ix → List UInt8) (o : List UInt8) (i : Nat) :
    isMore (evTill Tryd.prog [] 300 (behind Tryd.f21 0) 900 21 (headOf Tryd.f21 0) (envAt Tryd.f21.ntmps ([(3, vS (o)), (6, vL 61 6 N), (7, vN N), (8, vN (i : Nat))])) (rR 61 N K F T C O S ++ ([])) ⟨[.s true, .s true, .s true, .s true, .s false, .s false, .s false], 120⟩) (moreP (headOf Tryd.f21 0) ([]) Tryd.f21.ntmps ([(3, vS (o)), (6, vL 61 6 N), (7, vN N), (8, vN (i + 1 : Nat))]) ([]) 160) =
    (OkL [(decide ((↑i : Int) < (↑N : Int)), true), (decide ((0 : Int) ≤ (↑i : Int) ∧ (↑i : Int) < (↑N : Int)), true), (((0 : Nat) + (↑i : Int).toNat).blt N, true), (((0 : Nat) + (↑i : Int).toNat).blt N, true), (K [(0 : Nat) + (↑i : Int).toNat] == (1 : Int), false), (K [(0 : Nat) + (↑i : Int).toNat] == (2 : Int), false), (K [(0 : Nat) + (↑i : Int).toNat] == (2 : Int), false)] ∧ headOf Tryd.f21 (0 : Nat) = headOf Tryd.f21 (0 : Nat) ∧ (o = o ∧ ((0 : Nat) = (0 : Nat) ∧ N = N) ∧ (↑N : Int) = (↑N : Int) ∧ (↑(i + (1 : Nat)) : Int) = IntKind.i64.wrap ((↑i : Int) + (1 : Int))) ∧ True) := by kernel_rfl

set_option maxHeartbeats 4000000 in
theorem y0 (N : Nat) (K F T C O : Ix → Int) (S : Ix → List UInt8) (o : List UInt8) (i : Nat) (hi : i < N) (hN : N ≤ 10000) (ho : o.length ≤ 20000) (h : K [i] ≠ 1) (h2 : K [i] ≠ 2)  (v : SV) (L' : HF) (next : RunsTo Tryd.prog 21 (headOf Tryd.f21 0) (envAt Tryd.f21.ntmps ([(3, vS (o)), (6, vL 61 6 N), (7, vN N), (8, vN (i + 1 : Nat))])) (Sx.look (rR 61 N K F T C O S ++ ([]))) 80 (v) (L') 160) :
    RunsTo Tryd.prog 21 (headOf Tryd.f21 0) (envAt Tryd.f21.ntmps ([(3, vS (o)), (6, vL 61 6 N), (7, vN N), (8, vN (i : Nat))])) (Sx.look (rR 61 N K F T C O S ++ ([]))) 80 (v) (L') 160 := by
  have hw : IntKind.i64.wrap ((i : Int) + 1) = ((i + 1 : Nat) : Int) := by rw [wr64 (by omega)]; rfl
  have hu : True := trivial
  refine runs_more baseO (More.of (y0_p0 N K F T C O S o i) ⟨?oo, rfl, ?rr⟩) (by kernel_rfl) (by kernel_rfl) rfl (gtL (by decide)) (by decide) next
  case oo =>
    clear next
    refine (okc ?_ (okc ?_ (okc ?_ (okc ?_ (okc ?_ (okc ?_ (okc ?_ okn)))))))
    all_goals ((try simp (disch := omega) only [SS, hw, Go.Sx.sum, Nat.zero_add, List.length_append, List.length_cons, List.length_nil, bytesOf_len]); first | done | omega | assumption | (simp (disch := omega) only [SS, hw, Go.Sx.sum, Nat.zero_add, List.length_append, List.length_cons, List.length_nil, bytesOf_len] at *; first | done | omega | assumption) | (simp_all; done))
  case rr =>
    clear next
    try simp (disch := omega) only [SS, hw, Go.Sx.sum, Nat.zero_add, List.length_append, List.length_cons, List.length_nil, bytesOf_len]
    repeat' apply And.intro
    all_goals first | exact True.intro | with_reducible rfl | omega | (simp [bytesOf, upd, hu]; done) | (simp_all; done) | (simp_all [bytesOf, upd]; done) | rfl

theorem yEnd_p0 (N : Nat) (K F T C O : Ix → Int) (S : Ix → List UInt8) (o : List UInt8) (i : Nat) :
    isEnd (evTill Tryd.prog [] 300 (99) 900 21 (headOf Tryd.f21 0) (envAt Tryd.f21.ntmps ([(3, vS (o)), (6, vL 61 6 N), (7, vN N), (8, vN (i : Nat))])) (rR 61 N K F T C O S ++ ([])) ⟨[.s false], 120⟩) (endP ([]) (vS o) ([]) 160) =
    (OkL [(decide ((↑i : Int) < (↑N : Int)), false)] ∧ o = o ∧ True) := by kernel_rfl

set_option maxHeartbeats 4000000 in
theorem yEnd (N : Nat) (K F T C O : Ix → Int) (S : Ix → List UInt8) (o : List UInt8) (i : Nat) (hi : i = N)  :
    RunsTo Tryd.prog 21 (headOf Tryd.f21 0) (envAt Tryd.f21.ntmps ([(3, vS (o)), (6, vL 61 6 N), (7, vN N), (8, vN (i : Nat))])) (Sx.look (rR 61 N K F T C O S ++ ([]))) 80 (vS o) (Sx.look ([])) 160 := by
  refine runs_last baseO (Sx.Ends.of (yEnd_p0 N K F T C O S o i) ⟨?oo, ?rr⟩) (by kernel_rfl) rfl (gtL (by decide)) (by decide)
  case oo =>
    refine (okc ?_ okn)
    all_goals ((try simp (disch := omega) only [SS]); first | done | omega | assumption | (simp (disch := omega) only [SS] at *; first | done | omega | assumption) | (simp_all; done))
  case rr =>
    try simp (disch := omega) only [SS]
    repeat' apply And.intro
    all_goals first | exact True.intro | with_reducible rfl | omega | (intros; first | exact True.intro | with_reducible rfl | omega | (simp_all; done)) | (simp_all; done) | rfl

theorem yI (N : Nat) (K F T C O : Ix → Int) (S : Ix → List UInt8) (hN : N ≤ 10000) (hc : cdB K C N = true) : RunsTo Tryd.prog 21 [.code (bodyOf Tryd.f21)] (envOf [vL 61 6 N] Tryd.f21.ntmps) (Sx.look (rR 61 N K F T C O S ++ ([]))) 80 (vS (txG K C N)) (Sx.look []) 160 := by
  refine yStart N K F T C O S _ _ ?_
  suffices q : ∀ (k i : Nat), i + k = N → RunsTo Tryd.prog 21 (headOf Tryd.f21 0) (envAt Tryd.f21.ntmps ([(3, vS (txG K C i)), (6, vL 61 6 N), (7, vN N), (8, vN (i : Nat))])) (Sx.look (rR 61 N K F T C O S ++ ([]))) 80 (vS (txG K C N)) (Sx.look []) 160 from q N 0 (by omega)
  intro k
  induction k with
  | zero => intro i hi; rw [show i = N by omega]; exact yEnd N K F T C O S _ N rfl
  | succ k ih =>
    intro i hi
    have q := ih (i + 1) (by omega)
    have hl := txG_len K C i
    have h0 := all_ok hc (i := i) (by omega)
    simp only [decide_eq_true_eq] at h0
    by_cases h1 : K [i] = 1
    · simp only [txG, if_pos h1] at q; exact y1 N K F T C O S _ i (by omega) hN (by omega) h1 (h0.resolve_left (fun e => e h1)) _ _ q
    · by_cases h2 : K [i] = 2
      · by_cases h3 : C [i] = 10
        · simp only [txG, if_neg h1] at q; rw [if_pos ⟨h2, h3⟩] at q; exact y2 N K F T C O S _ i (by omega) hN (by omega) h2 h3 _ _ q
        · simp only [txG, if_neg h1] at q; rw [if_neg (fun e => h3 e.2), if_pos h2] at q; exact y3 N K F T C O S _ i (by omega) hN (by omega) h2 h3 _ _ q
      · simp only [txG, if_neg h1] at q; rw [if_neg (fun e => h2 e.1), if_neg h2] at q; exact y0 N K F T C O S _ i (by omega) hN (by omega) h1 h2 _ _ q
def yP : PC := { args := [.v (.vl 61 6 0)], heap := [⟨61, false, 6, .ta 0 (.tc (.vi .i64 1) (.tc (.vi .i64 2) (.tc (.vi .i64 3) (.tc (.vi .i64 4) (.tc (.vi .i64 5) (.tc (.vs 6) .t0))))))⟩], gs := [], G := 19, tp := 144, n := 80, n' := 160, cond := fun e => decide (eN e 0 ≤ 10000) && cdB (eI e 1) (eI e 4) (eN e 0), v := fun e => vS (txG (eI e 1) (eI e 4) (eN e 0)), post := fun e => [] }
theorem yP_pc : PC.Runs Tryd.prog 21 Tryd.f21 (bodyOf Tryd.f21) yP := ⟨Tryd.func21, by kernel_rfl, (fun g hg => by first | (cases hg; done) | (revert g; show ∀ g ∈ ([] : List Nat), g < 19; decide)), fun e H hc => by
  have hc : (decide (eN e 0 ≤ 10000) && cdB (eI e 1) (eI e 4) (eN e 0)) = true := hc
  try simp only [Bool.and_eq_true, decide_eq_true_eq, Nat.beq_eq] at hc
  exact yI (eN e 0) (eI e 1) (eI e 2) (eI e 3) (eI e 4) (eI e 5) (eS e 6) hc.1 hc.2⟩
theorem z0_p0 (N : Nat) (K F T C O : Ix → Int) (S : Ix → List UInt8) (many c : Int) :
    isEnd (evTill Tryd.prog [] 300 (99) 900 17 [.code (bodyOf Tryd.f17)] (envOf [vL 61 6 N, vN many, vN c] Tryd.f17.ntmps) (rR 61 N K F T C O S ++ ([])) ⟨[.s true], 80⟩) (endP ([]) (YES) ([]) 160) =
    (OkL [(c == (0 : Int), true)] ∧ true = true ∧ True) := by kernel_rfl

set_option maxHeartbeats 4000000 in
theorem z0 (N : Nat) (K F T C O : Ix → Int) (S : Ix → List UInt8) (many c : Int) (h : c = 0)  :
    RunsTo Tryd.prog 17 [.code (bodyOf Tryd.f17)] (envOf [vL 61 6 N, vN many, vN c] Tryd.f17.ntmps) (Sx.look (rR 61 N K F T C O S ++ ([]))) 80 (YES) (Sx.look ([])) 160 := by
  refine runs_last baseO (Sx.Ends.of (z0_p0 N K F T C O S many c) ⟨?oo, ?rr⟩) (by kernel_rfl) rfl (gtL (by decide)) (by decide)
  case oo =>
    refine (okc ?_ okn)
    all_goals ((try simp (disch := omega) only [SS]); first | done | omega | assumption | (simp (disch := omega) only [SS] at *; first | done | omega | assumption) | (simp_all; done))
  case rr =>
    try simp (disch := omega) only [SS]
    repeat' apply And.intro
    all_goals first | exact True.intro | with_reducible rfl | omega | (intros; first | exact True.intro | with_reducible rfl | omega | (simp_all; done)) | (simp_all; done) | rfl

theorem zN_p0 (N : Nat) (K F T C O : Ix → Int) (S : Ix → List UInt8) (many c : Int) :
    isEnd (evTill Tryd.prog [] 300 (99) 900 17 [.code (bodyOf Tryd.f17)] (envOf [vL 61 6 N, vN many, vN c] Tryd.f17.ntmps) (rR 61 N K F T C O S ++ ([])) ⟨[.s false, .s true], 80⟩) (endP ([]) (YES) ([]) 160) =
    (OkL [(c == (0 : Int), false), (c == many, true)] ∧ true = true ∧ True) := by kernel_rfl

set_option maxHeartbeats 4000000 in
theorem zN (N : Nat) (K F T C O : Ix → Int) (S : Ix → List UInt8) (many c : Int) (h0 : c ≠ 0) (h : c = many)  :
    RunsTo Tryd.prog 17 [.code (bodyOf Tryd.f17)] (envOf [vL 61 6 N, vN many, vN c] Tryd.f17.ntmps) (Sx.look (rR 61 N K F T C O S ++ ([]))) 80 (YES) (Sx.look ([])) 160 := by
  refine runs_last baseO (Sx.Ends.of (zN_p0 N K F T C O S many c) ⟨?oo, ?rr⟩) (by kernel_rfl) rfl (gtL (by decide)) (by decide)
  case oo =>
    refine (okc ?_ (okc ?_ okn))
    all_goals ((try simp (disch := omega) only [SS]); first | done | omega | assumption | (simp (disch := omega) only [SS] at *; first | done | omega | assumption) | (simp_all; done))
  case rr =>
    try simp (disch := omega) only [SS]
    repeat' apply And.intro
    all_goals first | exact True.intro | with_reducible rfl | omega | (intros; first | exact True.intro | with_reducible rfl | omega | (simp_all; done)) | (simp_all; done) | rfl

theorem zStart_p0 (N : Nat) (K F T C O : Ix → Int) (S : Ix → List UInt8) (many c : Int) :
    isMore (evTill Tryd.prog [] 300 (behind Tryd.f17 0) 900 17 [.code (bodyOf Tryd.f17)] (envOf [vL 61 6 N, vN many, vN c] Tryd.f17.ntmps) (rR 61 N K F T C O S ++ ([])) ⟨[.s false, .s false], 80⟩) (moreP (headOf Tryd.f17 0) ([]) Tryd.f17.ntmps ([(2, vN c), (16, vL 61 6 N), (17, vN N), (18, vN (0 : Nat))]) ([]) 160) =
    (OkL [(c == (0 : Int), false), (c == many, false)] ∧ headOf Tryd.f17 (0 : Nat) = headOf Tryd.f17 (0 : Nat) ∧ (c = c ∧ ((0 : Nat) = (0 : Nat) ∧ N = N) ∧ (↑N : Int) = (↑N : Int) ∧ (↑(0 : Nat) : Int) = (0 : Int)) ∧ True) := by kernel_rfl

set_option maxHeartbeats 4000000 in
theorem zStart (N : Nat) (K F T C O : Ix → Int) (S : Ix → List UInt8) (many c : Int) (h0 : c ≠ 0) (h : c ≠ many)  (v : SV) (L' : HF) (next : RunsTo Tryd.prog 17 (headOf Tryd.f17 0) (envAt Tryd.f17.ntmps ([(2, vN c), (16, vL 61 6 N), (17, vN N), (18, vN (0 : Nat))])) (Sx.look (rR 61 N K F T C O S ++ ([]))) 80 (v) (L') 160) :
    RunsTo Tryd.prog 17 [.code (bodyOf Tryd.f17)] (envOf [vL 61 6 N, vN many, vN c] Tryd.f17.ntmps) (Sx.look (rR 61 N K F T C O S ++ ([]))) 80 (v) (L') 160 := by
  refine runs_more baseO (More.of (zStart_p0 N K F T C O S many c) ⟨?oo, rfl, ?rr⟩) (by kernel_rfl) (by kernel_rfl) rfl (gtL (by decide)) (by decide) next
  case oo =>
    clear next
    refine (okc ?_ (okc ?_ okn))
    all_goals ((try simp (disch := omega) only [SS]); first | done | omega | assumption | (simp (disch := omega) only [SS] at *; first | done | omega | assumption) | (simp_all; done))
  case rr =>
    clear next
    try simp (disch := omega) only [SS]
    repeat' apply And.intro
    all_goals first | exact True.intro | with_reducible rfl | omega | (intros; first | exact True.intro | with_reducible rfl | omega | (simp_all; done)) | (simp_all; done) | rfl

theorem zF_p0 (N : Nat) (K F T C O : Ix → Int) (S : Ix → List UInt8) (many c : Int) (i : Nat) :
    isEnd (evTill Tryd.prog [] 300 (99) 900 17 (headOf Tryd.f17 0) (envAt Tryd.f17.ntmps ([(2, vN c), (16, vL 61 6 N), (17, vN N), (18, vN (i : Nat))])) (rR 61 N K F T C O S ++ ([])) ⟨[.s true, .s true, .s true, .s true, .s true], 120⟩) (endP ([]) (YES) ([]) 160) =
    (OkL [(decide ((↑i : Int) < (↑N : Int)), true), (decide ((0 : Int) ≤ (↑i : Int) ∧ (↑i : Int) < (↑N : Int)), true), (((0 : Nat) + (↑i : Int).toNat).blt N, true), (((0 : Nat) + (↑i : Int).toNat).blt N, true), (F [(0 : Nat) + (↑i : Int).toNat] == c, true)] ∧ true = true ∧ True) := by kernel_rfl

set_option maxHeartbeats 4000000 in
theorem zF (N : Nat) (K F T C O : Ix → Int) (S : Ix → List UInt8) (many c : Int) (i : Nat) (hi : i < N) (h : F [i] = c)  :
    RunsTo Tryd.prog 17 (headOf Tryd.f17 0) (envAt Tryd.f17.ntmps ([(2, vN c), (16, vL 61 6 N), (17, vN N), (18, vN (i : Nat))])) (Sx.look (rR 61 N K F T C O S ++ ([]))) 80 (YES) (Sx.look ([])) 160 := by
  refine runs_last baseO (Sx.Ends.of (zF_p0 N K F T C O S many c i) ⟨?oo, ?rr⟩) (by kernel_rfl) rfl (gtL (by decide)) (by decide)
  case oo =>
    refine (okc ?_ (okc ?_ (okc ?_ (okc ?_ (okc ?_ okn)))))
    all_goals ((try simp (disch := omega) only [SS, h]); first | done | omega | assumption | (simp (disch := omega) only [SS, h] at *; first | done | omega | assumption) | (simp_all; done))
  case rr =>
    try simp (disch := omega) only [SS, h]
    repeat' apply And.intro
    all_goals first | exact True.intro | with_reducible rfl | omega | (intros; first | exact True.intro | with_reducible rfl | omega | (simp_all; done)) | (simp_all; done) | rfl

theorem zT_p0 (N : Nat) (K F T C O : Ix → Int) (S : Ix → List UInt8) (many c : Int) (i : Nat) :
    isEnd (evTill Tryd.prog [] 300 (99) 900 17 (headOf Tryd.f17 0) (envAt Tryd.f17.ntmps ([(2, vN c), (16, vL 61 6 N), (17, vN N), (18, vN (i : Nat))])) (rR 61 N K F T C O S ++ ([])) ⟨[.s true, .s true, .s true, .s true, .s false, .s true], 120⟩) (endP ([]) (YES) ([]) 160) =
    (OkL [(decide ((↑i : Int) < (↑N : Int)), true), (decide ((0 : Int) ≤ (↑i : Int) ∧ (↑i : Int) < (↑N : Int)), true), (((0 : Nat) + (↑i : Int).toNat).blt N, true), (((0 : Nat) + (↑i : Int).toNat).blt N, true), (F [(0 : Nat) + (↑i : Int).toNat] == c, false), (T [(0 : Nat) + (↑i : Int).toNat] == c, true)] ∧ true = true ∧ True) := by kernel_rfl

set_option maxHeartbeats 4000000 in
theorem zT (N : Nat) (K F T C O : Ix → Int) (S : Ix → List UInt8) (many c : Int) (i : Nat) (hi : i < N) (h : F [i] ≠ c) (h2 : T [i] = c)  :
    RunsTo Tryd.prog 17 (headOf Tryd.f17 0) (envAt Tryd.f17.ntmps ([(2, vN c), (16, vL 61 6 N), (17, vN N), (18, vN (i : Nat))])) (Sx.look (rR 61 N K F T C O S ++ ([]))) 80 (YES) (Sx.look ([])) 160 := by
  refine runs_last baseO (Sx.Ends.of (zT_p0 N K F T C O S many c i) ⟨?oo, ?rr⟩) (by kernel_rfl) rfl (gtL (by decide)) (by decide)
  case oo =>
    refine (okc ?_ (okc ?_ (okc ?_ (okc ?_ (okc ?_ (okc ?_ okn))))))
    all_goals ((try simp (disch := omega) only [SS, h2]); first | done | omega | assumption | (simp (disch := omega) only [SS, h2] at *; first | done | omega | assumption) | (simp_all; done))
  case rr =>
    try simp (disch := omega) only [SS, h2]
    repeat' apply And.intro
    all_goals first | exact True.intro | with_reducible rfl | omega | (intros; first | exact True.intro | with_reducible rfl | omega | (simp_all; done)) | (simp_all; done) | rfl

theorem zR_p0 (N : Nat) (K F T C O : Ix → Int) (S : Ix → List UInt8) (many c : Int) (i : Nat) :
    isMore (evTill Tryd.prog [] 300 (behind Tryd.f17 0) 900 17 (headOf Tryd.f17 0) (envAt Tryd.f17.ntmps ([(2, vN c), (16, vL 61 6 N), (17, vN N), (18, vN (i : Nat))])) (rR 61 N K F T C O S ++ ([])) ⟨[.s true, .s true, .s true, .s true, .s false, .s false], 120⟩) (moreP (headOf Tryd.f17 0) ([]) Tryd.f17.ntmps ([(2, vN c), (16, vL 61 6 N), (17, vN N), (18, vN (i + 1 : Nat))]) ([]) 160) =
    (OkL [(decide ((↑i : Int) < (↑N : Int)), true), (decide ((0 : Int) ≤ (↑i : Int) ∧ (↑i : Int) < (↑N : Int)), true), (((0 : Nat) + (↑i : Int).toNat).blt N, true), (((0 : Nat) + (↑i : Int).toNat).blt N, true), (F [(0 : Nat) + (↑i : Int).toNat] == c, false), (T [(0 : Nat) + (↑i : Int).toNat] == c, false)] ∧ headOf Tryd.f17 (0 : Nat) = headOf Tryd.f17 (0 : Nat) ∧ (c = c ∧ ((0 : Nat) = (0 : Nat) ∧ N = N) ∧ (↑N : Int) = (↑N : Int) ∧ (↑(i + (1 : Nat)) : Int) = IntKind.i64.wrap ((↑i : Int) + (1 : Int))) ∧ True) := by kernel_rfl

set_option maxHeartbeats 4000000 in
theorem zR (N : Nat) (K F T C O : Ix → Int) (S : Ix → List UInt8) (many c : Int) (i : Nat) (hi : i < N) (hN : N ≤ 10000) (h : F [i] ≠ c) (h2 : T [i] ≠ c)  (v : SV) (L' : HF) (next : RunsTo Tryd.prog 17 (headOf Tryd.f17 0) (envAt Tryd.f17.ntmps ([(2, vN c), (16, vL 61 6 N), (17, vN N), (18, vN (i + 1 : Nat))])) (Sx.look (rR 61 N K F T C O S ++ ([]))) 80 (v) (L') 160) :
    RunsTo Tryd.prog 17 (headOf Tryd.f17 0) (envAt Tryd.f17.ntmps ([(2, vN c), (16, vL 61 6 N), (17, vN N), (18, vN (i : Nat))])) (Sx.look (rR 61 N K F T C O S ++ ([]))) 80 (v) (L') 160 := by
  have hw : IntKind.i64.wrap ((i : Int) + 1) = ((i + 1 : Nat) : Int) := by rw [wr64 (by omega)]; rfl
  refine runs_more baseO (More.of (zR_p0 N K F T C O S many c i) ⟨?oo, rfl, ?rr⟩) (by kernel_rfl) (by kernel_rfl) rfl (gtL (by decide)) (by decide) next
  case oo =>
    clear next
    refine (okc ?_ (okc ?_ (okc ?_ (okc ?_ (okc ?_ (okc ?_ okn))))))
    all_goals ((try simp (disch := omega) only [SS, hw, Go.Sx.sum, Nat.zero_add]); first | done | omega | assumption | (simp (disch := omega) only [SS, hw, Go.Sx.sum, Nat.zero_add] at *; first | done | omega | assumption) | (simp_all; done))
  case rr =>
    clear next
    try simp (disch := omega) only [SS, hw, Go.Sx.sum, Nat.zero_add]
    repeat' apply And.intro
    all_goals first | exact True.intro | with_reducible rfl | omega | (intros; first | exact True.intro | with_reducible rfl | omega | (simp_all; done)) | (simp_all; done) | rfl

theorem zEnd_p0 (N : Nat) (K F T C O : Ix → Int) (S : Ix → List UInt8) (many c : Int) (i : Nat) :
    isEnd (evTill Tryd.prog [] 300 (99) 900 17 (headOf Tryd.f17 0) (envAt Tryd.f17.ntmps ([(2, vN c), (16, vL 61 6 N), (17, vN N), (18, vN (i : Nat))])) (rR 61 N K F T C O S ++ ([])) ⟨[.s false], 120⟩) (endP ([]) (vB false) ([]) 160) =
    (OkL [(decide ((↑i : Int) < (↑N : Int)), false)] ∧ false = false ∧ True) := by kernel_rfl

set_option maxHeartbeats 4000000 in
theorem zEnd (N : Nat) (K F T C O : Ix → Int) (S : Ix → List UInt8) (many c : Int) (i : Nat) (hi : i = N)  :
    RunsTo Tryd.prog 17 (headOf Tryd.f17 0) (envAt Tryd.f17.ntmps ([(2, vN c), (16, vL 61 6 N), (17, vN N), (18, vN (i : Nat))])) (Sx.look (rR 61 N K F T C O S ++ ([]))) 80 (vB false) (Sx.look ([])) 160 := by
  refine runs_last baseO (Sx.Ends.of (zEnd_p0 N K F T C O S many c i) ⟨?oo, ?rr⟩) (by kernel_rfl) rfl (gtL (by decide)) (by decide)
  case oo =>
    refine (okc ?_ okn)
    all_goals ((try simp (disch := omega) only [SS]); first | done | omega | assumption | (simp (disch := omega) only [SS] at *; first | done | omega | assumption) | (simp_all; done))
  case rr =>
    try simp (disch := omega) only [SS]
    repeat' apply And.intro
    all_goals first | exact True.intro | with_reducible rfl | omega | (intros; first | exact True.intro | with_reducible rfl | omega | (simp_all; done)) | (simp_all; done) | rfl

theorem zI (N : Nat) (K F T C O : Ix → Int) (S : Ix → List UInt8) (many c : Int) (hN : N ≤ 10000) : RunsTo Tryd.prog 17 [.code (bodyOf Tryd.f17)] (envOf [vL 61 6 N, vN many, vN c] Tryd.f17.ntmps) (Sx.look (rR 61 N K F T C O S ++ ([]))) 80 (vB (brW F T N many c)) (Sx.look []) 160 := by
  unfold brW
  by_cases h0 : c = 0
  · rw [decide_eq_true h0]; exact z0 N K F T C O S many c h0
  rw [decide_eq_false h0]
  by_cases h1 : c = many
  · rw [decide_eq_true h1]; exact zN N K F T C O S many c h0 h1
  rw [decide_eq_false h1]
  refine zStart N K F T C O S many c h0 h1 _ _ ?_
  suffices q : ∀ (k i : Nat), i + k = N → RunsTo Tryd.prog 17 (headOf Tryd.f17 0) (envAt Tryd.f17.ntmps ([(2, vN c), (16, vL 61 6 N), (17, vN N), (18, vN (i : Nat))])) (Sx.look (rR 61 N K F T C O S ++ ([]))) 80 (vB (anyV F T c k i)) (Sx.look []) 160 from q N 0 (by omega)
  intro k
  induction k with
  | zero => intro i hi; exact zEnd N K F T C O S many c i (by omega)
  | succ k ih =>
    intro i hi
    have q := ih (i + 1) (by omega)
    simp only [anyV]
    by_cases h2 : F [i] = c
    · rw [if_pos (.inl h2)]; exact zF N K F T C O S many c i (by omega) h2
    by_cases h3 : T [i] = c
    · rw [if_pos (.inr h3)]; exact zT N K F T C O S many c i (by omega) h2 h3
    rw [if_neg (fun e => e.elim h2 h3)]
    exact zR N K F T C O S many c i (by omega) hN h2 h3 _ _ q
def zP : PC := { args := [.v (.vl 61 6 0), .v (.vi .i64 7), .v (.vi .i64 8)], heap := [⟨61, false, 6, .ta 0 (.tc (.vi .i64 1) (.tc (.vi .i64 2) (.tc (.vi .i64 3) (.tc (.vi .i64 4) (.tc (.vi .i64 5) (.tc (.vs 6) .t0))))))⟩], gs := [], G := 19, tp := 144, n := 80, n' := 160, cond := fun e => decide (eN e 0 ≤ 10000), v := fun e => vB (brW (eI e 2) (eI e 3) (eN e 0) (eI e 7 []) (eI e 8 [])), post := fun e => [] }
theorem zP_pc : PC.Runs Tryd.prog 17 Tryd.f17 (bodyOf Tryd.f17) zP := ⟨Tryd.func17, by kernel_rfl, (fun g hg => by first | (cases hg; done) | (revert g; show ∀ g ∈ ([] : List Nat), g < 19; decide)), fun e H hc => by
  have hc : (decide (eN e 0 ≤ 10000)) = true := hc
  try simp only [Bool.and_eq_true, decide_eq_true_eq, Nat.beq_eq] at hc
  exact zI (eN e 0) (eI e 1) (eI e 2) (eI e 3) (eI e 4) (eI e 5) (eS e 6) (eI e 7 []) (eI e 8 []) hc⟩
theorem byStart_p0 (N : Nat) (B : Ix → Int) :
    isMore (evTill Tryd.prog [] 300 (behind Tryd.f14 0) 900 14 [.code (bodyOf Tryd.f14)] (envOf [vL 60 1 N] Tryd.f14.ntmps) (rB 60 N B ++ ([])) ⟨[.s true, .s true, .s true, .s true, .s true, .s true, .s true, .s true], 80⟩) (moreP (headOf Tryd.f14 0) ([((101 : Nat), Rn.to (80 : Nat))]) Tryd.f14.ntmps ([(0, vL 60 1 N), (3, vL 101 1 N), (21, vN 5), (22, vN (0 : Nat))]) ([⟨101, true, none, 1, .ta (N + 5) (.vi .u8 (inG B N (0)))⟩]) 160) =
    (OkL [(decide ((0 : Int) ≤ (↑N : Int) ∧ (↑N : Int) ≤ IntKind.i64.wrap ((↑N : Int) + (5 : Int))), true), (decide ((↑(1 : Nat) : Int) * IntKind.i64.wrap ((↑N : Int) + (5 : Int)) ≤ (281474976710656 : Int)), true), (((0 : Nat) + N).ble N, true), (N.ble (↑N : Int).toNat, true), (((0 : Nat) + (↑N : Int).toNat).ble (IntKind.i64.wrap ((↑N : Int) + (5 : Int))).toNat, true), (((0 : Nat) + (↑N : Int).toNat).ble (IntKind.i64.wrap ((↑N : Int) + (5 : Int))).toNat, true), (decide ((0 : Int) ≤ IntKind.i64.wrap ((↑N : Int) + (5 : Int)) ∧ IntKind.i64.wrap ((↑N : Int) + (5 : Int)) + (↑(0 : Nat) : Int) ≤ (↑(IntKind.i64.wrap ((↑N : Int) + (5 : Int))).toNat : Int)), true), (decide ((0 : Int) ≤ (↑N : Int) ∧ (↑N : Int) ≤ IntKind.i64.wrap ((↑N : Int) + (5 : Int))), true)] ∧ headOf Tryd.f14 (0 : Nat) = headOf Tryd.f14 (0 : Nat) ∧ (((0 : Nat) = (0 : Nat) ∧ N = N) ∧ ((0 : Nat) = (0 : Nat) ∧ N = (↑N : Int).toNat) ∧ (5 : Int) = (↑((IntKind.i64.wrap ((↑N : Int) + (5 : Int))).toNat - (↑N : Int).toNat) : Int) ∧ (↑(0 : Nat) : Int) = (0 : Int)) ∧ N + (5 : Nat) = (IntKind.i64.wrap ((↑N : Int) + (5 : Int))).toNat ∧ ∀ (i : Nat), i < N + (5 : Nat) → inG B N (0 : Nat) [i] = cpyF N (0 : Nat) (fun is => (0 : Int)) (fun js => B (subIx (0 : Nat) js)) [i]) := by kernel_rfl

set_option maxHeartbeats 4000000 in
theorem byStart (N : Nat) (B : Ix → Int) (hN : N ≤ 1000)  (v : SV) (L' : HF) (next : RunsTo Tryd.prog 14 (headOf Tryd.f14 0) (envAt Tryd.f14.ntmps ([(0, vL 60 1 N), (3, vL 101 1 N), (21, vN 5), (22, vN (0 : Nat))])) (Sx.look (rB 60 N B ++ ([⟨101, true, none, 1, .ta (N + 5) (.vi .u8 (inG B N (0)))⟩]))) 80 (v) (L') 160) :
    RunsTo Tryd.prog 14 [.code (bodyOf Tryd.f14)] (envOf [vL 60 1 N] Tryd.f14.ntmps) (Sx.look (rB 60 N B ++ ([]))) 80 (v) (L') 160 := by
  have hw5 : IntKind.i64.wrap ((N : Int) + 5) = ((N + 5 : Nat) : Int) := by rw [wr64 (by omega)]; rfl
  refine runs_more baseO (More.of (byStart_p0 N B) ⟨?oo, rfl, ?rr⟩) (by kernel_rfl) (by kernel_rfl) rfl (gtL (by decide)) (by decide) next
  case oo =>
    clear next
    refine (okc ?_ (okc ?_ (okc ?_ (okc ?_ (okc ?_ (okc ?_ (okc ?_ (okc ?_ okn))))))))
    all_goals ((try simp (disch := omega) only [SS, hw5, Int.toNat_natCast, Go.Sx.sum]); first | done | omega | assumption | (simp (disch := omega) only [SS, hw5, Int.toNat_natCast, Go.Sx.sum] at *; first | done | omega | assumption) | (simp_all; done))
  case rr =>
    clear next
    try simp (disch := omega) only [SS, hw5, Int.toNat_natCast, Go.Sx.sum]
    repeat' apply And.intro
    all_goals first | exact True.intro | with_reducible rfl | omega | (intro k hk; exact inG_0 B N k) | (intro k hk; simp [inG, cpyF]; done) | (intro k hk; simp [inG, cpyF]; split <;> simp_all; done) | (simp_all; done)

theorem byR_p0 (N : Nat) (B : Ix → Int) (i : Nat) :
    isMore (evTill Tryd.prog [] 300 (behind Tryd.f14 0) 900 14 (headOf Tryd.f14 0) (envAt Tryd.f14.ntmps ([(0, vL 60 1 N), (3, vL 101 1 N), (21, vN 5), (22, vN (i : Nat))])) (rB 60 N B ++ ([⟨101, true, none, 1, .ta (N + 5) (.vi .u8 (inG B N (i)))⟩])) ⟨[.s true, .s true, .s true, .s true, .s true, .s true], 120⟩) (moreP (headOf Tryd.f14 0) ([]) Tryd.f14.ntmps ([(0, vL 60 1 N), (3, vL 101 1 N), (21, vN 5), (22, vN (i + 1 : Nat))]) ([⟨101, true, none, 1, .ta (N + 5) (.vi .u8 (inG B N (i + 1)))⟩]) 160) =
    (OkL [(decide ((↑i : Int) < (5 : Int)), true), (((0 : Nat) + N).ble (N + (5 : Nat)), true), (decide ((0 : Int) ≤ IntKind.i64.wrap ((↑N : Int) + (5 : Int)) ∧ IntKind.i64.wrap ((↑N : Int) + (5 : Int)) + (↑(0 : Nat) : Int) ≤ (↑(N + (5 : Nat)) : Int)), true), (decide ((0 : Int) ≤ IntKind.i64.wrap ((↑N : Int) + (↑i : Int)) ∧ IntKind.i64.wrap ((↑N : Int) + (↑i : Int)) < (↑(IntKind.i64.wrap ((↑N : Int) + (5 : Int))).toNat : Int)), true), (((0 : Nat) + (IntKind.i64.wrap ((↑N : Int) + (↑i : Int))).toNat).blt (N + (5 : Nat)), true), (((0 : Nat) + (IntKind.i64.wrap ((↑N : Int) + (↑i : Int))).toNat).blt (N + (5 : Nat)), true)] ∧ headOf Tryd.f14 (0 : Nat) = headOf Tryd.f14 (0 : Nat) ∧ (((0 : Nat) = (0 : Nat) ∧ N = N) ∧ ((0 : Nat) = (0 : Nat) ∧ N = N) ∧ (5 : Int) = (5 : Int) ∧ (↑(i + (1 : Nat)) : Int) = IntKind.i64.wrap ((↑i : Int) + (1 : Int))) ∧ N + (5 : Nat) = N + (5 : Nat) ∧ ∀ (i_1 : Nat), i_1 < N + (5 : Nat) → inG B N (i + (1 : Nat)) [i_1] = upd (inG B N i) [(0 : Nat) + (IntKind.i64.wrap ((↑N : Int) + (↑i : Int))).toNat] (90 : Int) [i_1]) := by kernel_rfl

set_option maxHeartbeats 4000000 in
theorem byR (N : Nat) (B : Ix → Int) (i : Nat) (hi : i < 5) (hN : N ≤ 1000)  (v : SV) (L' : HF) (next : RunsTo Tryd.prog 14 (headOf Tryd.f14 0) (envAt Tryd.f14.ntmps ([(0, vL 60 1 N), (3, vL 101 1 N), (21, vN 5), (22, vN (i + 1 : Nat))])) (Sx.look (rB 60 N B ++ ([⟨101, true, none, 1, .ta (N + 5) (.vi .u8 (inG B N (i + 1)))⟩]))) 80 (v) (L') 160) :
    RunsTo Tryd.prog 14 (headOf Tryd.f14 0) (envAt Tryd.f14.ntmps ([(0, vL 60 1 N), (3, vL 101 1 N), (21, vN 5), (22, vN (i : Nat))])) (Sx.look (rB 60 N B ++ ([⟨101, true, none, 1, .ta (N + 5) (.vi .u8 (inG B N (i)))⟩]))) 80 (v) (L') 160 := by
  have hw : IntKind.i64.wrap ((i : Int) + 1) = ((i + 1 : Nat) : Int) := by rw [wr64 (by omega)]; rfl
  have hw5 : IntKind.i64.wrap ((N : Int) + 5) = ((N + 5 : Nat) : Int) := by rw [wr64 (by omega)]; rfl
  have hwi : IntKind.i64.wrap ((N : Int) + (i : Int)) = ((N + i : Nat) : Int) := by rw [wr64 (by omega)]; rfl
  refine runs_more baseO (More.of (byR_p0 N B i) ⟨?oo, rfl, ?rr⟩) (by kernel_rfl) (by kernel_rfl) rfl (gtL (by decide)) (by decide) next
  case oo =>
    clear next
    refine (okc ?_ (okc ?_ (okc ?_ (okc ?_ (okc ?_ (okc ?_ okn))))))
    all_goals ((try simp (disch := omega) only [SS, hw, hw5, hwi, Int.toNat_natCast, Go.Sx.sum, Nat.zero_add]); first | done | omega | assumption | (simp (disch := omega) only [SS, hw, hw5, hwi, Int.toNat_natCast, Go.Sx.sum, Nat.zero_add] at *; first | done | omega | assumption) | (simp_all; done))
  case rr =>
    clear next
    try simp (disch := omega) only [SS, hw, hw5, hwi, Int.toNat_natCast, Go.Sx.sum, Nat.zero_add]
    repeat' apply And.intro
    all_goals first | exact True.intro | with_reducible rfl | omega | (intro k hk; exact inG_step B N i k) | (simp_all; done)

theorem byEnd_p0 (N : Nat) (B : Ix → Int) (i : Nat) :
    isEnd (evTill Tryd.prog [] 300 (99) 900 14 (headOf Tryd.f14 0) (envAt Tryd.f14.ntmps ([(0, vL 60 1 N), (3, vL 101 1 N), (21, vN 5), (22, vN (i : Nat))])) (rB 60 N B ++ ([⟨101, true, none, 1, .ta (N + 5) (.vi .u8 (inG B N (i)))⟩])) ⟨[.s false], 120⟩) (endP ([]) (vL 101 1 N) ([⟨101, true, none, 1, .ta (N + 5) (.vi .u8 (inG B N 5))⟩]) 160) =
    (OkL [(decide ((↑i : Int) < (5 : Int)), false)] ∧ ((0 : Nat) = (0 : Nat) ∧ N = N) ∧ N + (5 : Nat) = N + (5 : Nat) ∧ ∀ (i_1 : Nat), i_1 < N + (5 : Nat) → inG B N (5 : Nat) [i_1] = inG B N i [i_1]) := by kernel_rfl

set_option maxHeartbeats 4000000 in
theorem byEnd (N : Nat) (B : Ix → Int) (i : Nat) (hi : i = 5)  :
    RunsTo Tryd.prog 14 (headOf Tryd.f14 0) (envAt Tryd.f14.ntmps ([(0, vL 60 1 N), (3, vL 101 1 N), (21, vN 5), (22, vN (i : Nat))])) (Sx.look (rB 60 N B ++ ([⟨101, true, none, 1, .ta (N + 5) (.vi .u8 (inG B N (i)))⟩]))) 80 (vL 101 1 N) (Sx.look ([⟨101, true, none, 1, .ta (N + 5) (.vi .u8 (inG B N 5))⟩])) 160 := by
  refine runs_last baseO (Sx.Ends.of (byEnd_p0 N B i) ⟨?oo, ?rr⟩) (by kernel_rfl) rfl (gtL (by decide)) (by decide)
  case oo =>
    refine (okc ?_ okn)
    all_goals ((try simp (disch := omega) only [SS, hi]); first | done | omega | assumption | (simp (disch := omega) only [SS, hi] at *; first | done | omega | assumption) | (simp_all; done))
  case rr =>
    try simp (disch := omega) only [SS, hi]
    repeat' apply And.intro
    all_goals first | exact True.intro | with_reducible rfl | omega | (intros; first | exact True.intro | with_reducible rfl | omega | (simp_all; done)) | (simp_all; done) | rfl

theorem byI (N : Nat) (B : Ix → Int) (hN : N ≤ 1000) : RunsTo Tryd.prog 14 [.code (bodyOf Tryd.f14)] (envOf [vL 60 1 N] Tryd.f14.ntmps) (Sx.look (rB 60 N B ++ ([]))) 80 (vL 101 1 N) (Sx.look [⟨101, true, none, 1, .ta (N + 5) (.vi .u8 (inG B N 5))⟩]) 160 :=
  byStart N B hN _ _ (byR N B 0 (by omega) hN _ _ (byR N B 1 (by omega) hN _ _ (byR N B 2 (by omega) hN _ _ (byR N B 3 (by omega) hN _ _ (byR N B 4 (by omega) hN _ _ (byEnd N B 5 rfl))))))
def byP : PC := { args := [.v (.vl 60 1 0)], heap := [⟨60, false, 1, .ta 0 (.vi .u8 1)⟩], gs := [], G := 19, tp := 144, n := 80, n' := 160, cond := fun e => decide (eN e 0 ≤ 1000), v := fun e => vL 101 1 (eN e 0), post := fun e => [⟨101, true, none, 1, .ta (eN e 0 + 5) (.vi .u8 (inG (eI e 1) (eN e 0) 5))⟩] }
theorem byP_pc : PC.Runs Tryd.prog 14 Tryd.f14 (bodyOf Tryd.f14) byP := ⟨Tryd.func14, by kernel_rfl, (fun g hg => by first | (cases hg; done) | (revert g; show ∀ g ∈ ([] : List Nat), g < 19; decide)), fun e H hc => by
  have hc : (decide (eN e 0 ≤ 1000)) = true := hc
  try simp only [Bool.and_eq_true, decide_eq_true_eq, Nat.beq_eq] at hc
  exact byI (eN e 0) (eI e 1) hc⟩
theorem keStart_p0 (N M : Nat) (C B : Ix → Int) :
    isMore (evTill Tryd.prog [] 300 (behind Tryd.f19 0) 900 19 [.code (bodyOf Tryd.f19)] (envOf [vL 60 1 N, vL 61 1 N] Tryd.f19.ntmps) ((rB 60 M C ++ rB 61 N B) ++ ([])) ⟨[.s false, .s true, .s true], 80⟩) (moreP (headOf Tryd.f19 0) ([]) Tryd.f19.ntmps ([(1, vL 61 1 N), (16, vL 60 1 (N + 5)), (17, vN ((N + 5 : Nat) : Int)), (18, vN (0 : Nat))]) ([]) 160) =
    (OkL [((↑N : Int) != (↑N : Int), false), (((0 : Nat) + N).ble M, true), (decide ((0 : Int) ≤ IntKind.i64.wrap ((↑N : Int) + (5 : Int)) ∧ IntKind.i64.wrap ((↑N : Int) + (5 : Int)) + (↑(0 : Nat) : Int) ≤ (↑M : Int)), true)] ∧ headOf Tryd.f19 (0 : Nat) = headOf Tryd.f19 (0 : Nat) ∧ (((0 : Nat) = (0 : Nat) ∧ N = N) ∧ ((0 : Nat) = (0 : Nat) ∧ N + (5 : Nat) = (IntKind.i64.wrap ((↑N : Int) + (5 : Int))).toNat) ∧ (↑(N + (5 : Nat)) : Int) = (↑(IntKind.i64.wrap ((↑N : Int) + (5 : Int))).toNat : Int) ∧ (↑(0 : Nat) : Int) = (0 : Int)) ∧ True) := by kernel_rfl

set_option maxHeartbeats 4000000 in
theorem keStart (N M : Nat) (C B : Ix → Int) (hN : N ≤ 1000) (hM : N + 5 ≤ M)  (v : SV) (L' : HF) (next : RunsTo Tryd.prog 19 (headOf Tryd.f19 0) (envAt Tryd.f19.ntmps ([(1, vL 61 1 N), (16, vL 60 1 (N + 5)), (17, vN ((N + 5 : Nat) : Int)), (18, vN (0 : Nat))])) (Sx.look ((rB 60 M C ++ rB 61 N B) ++ ([]))) 80 (v) (L') 160) :
    RunsTo Tryd.prog 19 [.code (bodyOf Tryd.f19)] (envOf [vL 60 1 N, vL 61 1 N] Tryd.f19.ntmps) (Sx.look ((rB 60 M C ++ rB 61 N B) ++ ([]))) 80 (v) (L') 160 := by
  have hw5 : IntKind.i64.wrap ((N : Int) + 5) = ((N + 5 : Nat) : Int) := by rw [wr64 (by omega)]; rfl
  refine runs_more baseO (More.of (keStart_p0 N M C B) ⟨?oo, rfl, ?rr⟩) (by kernel_rfl) (by kernel_rfl) rfl (gtL (by decide)) (by decide) next
  case oo =>
    clear next
    refine (okc ?_ (okc ?_ (okc ?_ okn)))
    all_goals ((try simp (disch := omega) only [SS, hw5, Int.toNat_natCast, Go.Sx.sum]); first | done | omega | assumption | (simp (disch := omega) only [SS, hw5, Int.toNat_natCast, Go.Sx.sum] at *; first | done | omega | assumption) | (simp_all; done))
  case rr =>
    clear next
    try simp (disch := omega) only [SS, hw5, Int.toNat_natCast, Go.Sx.sum]
    repeat' apply And.intro
    all_goals first | exact True.intro | with_reducible rfl | omega | (intros; first | exact True.intro | with_reducible rfl | omega | (simp_all; done)) | (simp_all; done) | rfl

theorem keA_p0 (N M : Nat) (C B : Ix → Int) (i : Nat) :
    isMore (evTill Tryd.prog [] 300 (behind Tryd.f19 0) 900 19 (headOf Tryd.f19 0) (envAt Tryd.f19.ntmps ([(1, vL 61 1 N), (16, vL 60 1 (N + 5)), (17, vN ((N + 5 : Nat) : Int)), (18, vN (i : Nat))])) ((rB 60 M C ++ rB 61 N B) ++ ([])) ⟨[.s true, .s true, .s true, .s true, .s true, .s true, .s true, .s true, .s false, .s false], 120⟩) (moreP (headOf Tryd.f19 0) ([]) Tryd.f19.ntmps ([(1, vL 61 1 N), (16, vL 60 1 (N + 5)), (17, vN ((N + 5 : Nat) : Int)), (18, vN (i + 1 : Nat))]) ([]) 160) =
    (OkL [(decide ((↑i : Int) < (↑(N + (5 : Nat)) : Int)), true), (decide ((0 : Int) ≤ (↑i : Int) ∧ (↑i : Int) < (↑(N + (5 : Nat)) : Int)), true), (((0 : Nat) + (↑i : Int).toNat).blt M, true), (((0 : Nat) + (↑i : Int).toNat).blt M, true), (decide ((↑i : Int) < (↑N : Int)), true), (decide ((0 : Int) ≤ (↑i : Int) ∧ (↑i : Int) < (↑N : Int)), true), (((0 : Nat) + (↑i : Int).toNat).blt N, true), (((0 : Nat) + (↑i : Int).toNat).blt N, true), (C [(0 : Nat) + (↑i : Int).toNat] != B [(0 : Nat) + (↑i : Int).toNat], false), (decide ((↑i : Int) ≥ (↑N : Int)), false)] ∧ headOf Tryd.f19 (0 : Nat) = headOf Tryd.f19 (0 : Nat) ∧ (((0 : Nat) = (0 : Nat) ∧ N = N) ∧ ((0 : Nat) = (0 : Nat) ∧ N + (5 : Nat) = N + (5 : Nat)) ∧ (↑(N + (5 : Nat)) : Int) = (↑(N + (5 : Nat)) : Int) ∧ (↑(i + (1 : Nat)) : Int) = IntKind.i64.wrap ((↑i : Int) + (1 : Int))) ∧ True) := by kernel_rfl

set_option maxHeartbeats 4000000 in
theorem keA (N M : Nat) (C B : Ix → Int) (i : Nat) (hi : i < N) (hN : N ≤ 1000) (hM : N + 5 ≤ M) (h : C [i] = B [i])  (v : SV) (L' : HF) (next : RunsTo Tryd.prog 19 (headOf Tryd.f19 0) (envAt Tryd.f19.ntmps ([(1, vL 61 1 N), (16, vL 60 1 (N + 5)), (17, vN ((N + 5 : Nat) : Int)), (18, vN (i + 1 : Nat))])) (Sx.look ((rB 60 M C ++ rB 61 N B) ++ ([]))) 80 (v) (L') 160) :
    RunsTo Tryd.prog 19 (headOf Tryd.f19 0) (envAt Tryd.f19.ntmps ([(1, vL 61 1 N), (16, vL 60 1 (N + 5)), (17, vN ((N + 5 : Nat) : Int)), (18, vN (i : Nat))])) (Sx.look ((rB 60 M C ++ rB 61 N B) ++ ([]))) 80 (v) (L') 160 := by
  have hw : IntKind.i64.wrap ((i : Int) + 1) = ((i + 1 : Nat) : Int) := by rw [wr64 (by omega)]; rfl
  refine runs_more baseO (More.of (keA_p0 N M C B i) ⟨?oo, rfl, ?rr⟩) (by kernel_rfl) (by kernel_rfl) rfl (gtL (by decide)) (by decide) next
  case oo =>
    clear next
    refine (okc ?_ (okc ?_ (okc ?_ (okc ?_ (okc ?_ (okc ?_ (okc ?_ (okc ?_ (okc ?_ (okc ?_ okn))))))))))
    all_goals ((try simp (disch := omega) only [SS, hw, Go.Sx.sum, Nat.zero_add, h]); first | done | omega | assumption | (simp (disch := omega) only [SS, hw, Go.Sx.sum, Nat.zero_add, h] at *; first | done | omega | assumption) | (simp_all; done))
  case rr =>
    clear next
    try simp (disch := omega) only [SS, hw, Go.Sx.sum, Nat.zero_add, h]
    repeat' apply And.intro
    all_goals first | exact True.intro | with_reducible rfl | omega | (intros; first | exact True.intro | with_reducible rfl | omega | (simp_all; done)) | (simp_all; done) | rfl

theorem keB_p0 (N M : Nat) (C B : Ix → Int) (i : Nat) :
    isMore (evTill Tryd.prog [] 300 (behind Tryd.f19 0) 900 19 (headOf Tryd.f19 0) (envAt Tryd.f19.ntmps ([(1, vL 61 1 N), (16, vL 60 1 (N + 5)), (17, vN ((N + 5 : Nat) : Int)), (18, vN (i : Nat))])) ((rB 60 M C ++ rB 61 N B) ++ ([])) ⟨[.s true, .s true, .s true, .s true, .s false, .s true, .s false], 120⟩) (moreP (headOf Tryd.f19 0) ([]) Tryd.f19.ntmps ([(1, vL 61 1 N), (16, vL 60 1 (N + 5)), (17, vN ((N + 5 : Nat) : Int)), (18, vN (i + 1 : Nat))]) ([]) 160) =
    (OkL [(decide ((↑i : Int) < (↑(N + (5 : Nat)) : Int)), true), (decide ((0 : Int) ≤ (↑i : Int) ∧ (↑i : Int) < (↑(N + (5 : Nat)) : Int)), true), (((0 : Nat) + (↑i : Int).toNat).blt M, true), (((0 : Nat) + (↑i : Int).toNat).blt M, true), (decide ((↑i : Int) < (↑N : Int)), false), (decide ((↑i : Int) ≥ (↑N : Int)), true), (C [(0 : Nat) + (↑i : Int).toNat] != (90 : Int), false)] ∧ headOf Tryd.f19 (0 : Nat) = headOf Tryd.f19 (0 : Nat) ∧ (((0 : Nat) = (0 : Nat) ∧ N = N) ∧ ((0 : Nat) = (0 : Nat) ∧ N + (5 : Nat) = N + (5 : Nat)) ∧ (↑(N + (5 : Nat)) : Int) = (↑(N + (5 : Nat)) : Int) ∧ (↑(i + (1 : Nat)) : Int) = IntKind.i64.wrap ((↑i : Int) + (1 : Int))) ∧ True) := by kernel_rfl

set_option maxHeartbeats 4000000 in
theorem keB (N M : Nat) (C B : Ix → Int) (i : Nat) (hi : N ≤ i) (hi2 : i < N + 5) (hN : N ≤ 1000) (hM : N + 5 ≤ M) (h : C [i] = 90)  (v : SV) (L' : HF) (next : RunsTo Tryd.prog 19 (headOf Tryd.f19 0) (envAt Tryd.f19.ntmps ([(1, vL 61 1 N), (16, vL 60 1 (N + 5)), (17, vN ((N + 5 : Nat) : Int)), (18, vN (i + 1 : Nat))])) (Sx.look ((rB 60 M C ++ rB 61 N B) ++ ([]))) 80 (v) (L') 160) :
    RunsTo Tryd.prog 19 (headOf Tryd.f19 0) (envAt Tryd.f19.ntmps ([(1, vL 61 1 N), (16, vL 60 1 (N + 5)), (17, vN ((N + 5 : Nat) : Int)), (18, vN (i : Nat))])) (Sx.look ((rB 60 M C ++ rB 61 N B) ++ ([]))) 80 (v) (L') 160 := by
  have hw : IntKind.i64.wrap ((i : Int) + 1) = ((i + 1 : Nat) : Int) := by rw [wr64 (by omega)]; rfl
  refine runs_more baseO (More.of (keB_p0 N M C B i) ⟨?oo, rfl, ?rr⟩) (by kernel_rfl) (by kernel_rfl) rfl (gtL (by decide)) (by decide) next
  case oo =>
    clear next
    refine (okc ?_ (okc ?_ (okc ?_ (okc ?_ (okc ?_ (okc ?_ (okc ?_ okn)))))))
    all_goals ((try simp (disch := omega) only [SS, hw, Go.Sx.sum, Nat.zero_add, h]); first | done | omega | assumption | (simp (disch := omega) only [SS, hw, Go.Sx.sum, Nat.zero_add, h] at *; first | done | omega | assumption) | (simp_all; done))
  case rr =>
    clear next
    try simp (disch := omega) only [SS, hw, Go.Sx.sum, Nat.zero_add, h]
    repeat' apply And.intro
    all_goals first | exact True.intro | with_reducible rfl | omega | (intros; first | exact True.intro | with_reducible rfl | omega | (simp_all; done)) | (simp_all; done) | rfl

theorem keEnd_p0 (N M : Nat) (C B : Ix → Int) (i : Nat) :
    isEnd (evTill Tryd.prog [] 300 (99) 900 19 (headOf Tryd.f19 0) (envAt Tryd.f19.ntmps ([(1, vL 61 1 N), (16, vL 60 1 (N + 5)), (17, vN ((N + 5 : Nat) : Int)), (18, vN (i : Nat))])) ((rB 60 M C ++ rB 61 N B) ++ ([])) ⟨[.s false], 120⟩) (endP ([]) (YES) ([]) 160) =
    (OkL [(decide ((↑i : Int) < (↑(N + (5 : Nat)) : Int)), false)] ∧ true = true ∧ True) := by kernel_rfl

set_option maxHeartbeats 4000000 in
theorem keEnd (N M : Nat) (C B : Ix → Int) (i : Nat) (hi : i = N + 5)  :
    RunsTo Tryd.prog 19 (headOf Tryd.f19 0) (envAt Tryd.f19.ntmps ([(1, vL 61 1 N), (16, vL 60 1 (N + 5)), (17, vN ((N + 5 : Nat) : Int)), (18, vN (i : Nat))])) (Sx.look ((rB 60 M C ++ rB 61 N B) ++ ([]))) 80 (YES) (Sx.look ([])) 160 := by
  refine runs_last baseO (Sx.Ends.of (keEnd_p0 N M C B i) ⟨?oo, ?rr⟩) (by kernel_rfl) rfl (gtL (by decide)) (by decide)
  case oo =>
    refine (okc ?_ okn)
    all_goals ((try simp (disch := omega) only [SS]); first | done | omega | assumption | (simp (disch := omega) only [SS] at *; first | done | omega | assumption) | (simp_all; done))
  case rr =>
    try simp (disch := omega) only [SS]
    repeat' apply And.intro
    all_goals first | exact True.intro | with_reducible rfl | omega | (intros; first | exact True.intro | with_reducible rfl | omega | (simp_all; done)) | (simp_all; done) | rfl

theorem keI (N M : Nat) (C B : Ix → Int) (hN : N ≤ 1000) (hM : N + 5 ≤ M) (h : ∀ i, i < N + 5 → C [i] = inG B N 5 [i]) : RunsTo Tryd.prog 19 [.code (bodyOf Tryd.f19)] (envOf [vL 60 1 N, vL 61 1 N] Tryd.f19.ntmps) (Sx.look ((rB 60 M C ++ rB 61 N B) ++ ([]))) 80 (YES) (Sx.look []) 160 := by
  refine keStart N M C B hN hM _ _ ?_
  suffices q : ∀ (k i : Nat), i + k = N + 5 → RunsTo Tryd.prog 19 (headOf Tryd.f19 0) (envAt Tryd.f19.ntmps ([(1, vL 61 1 N), (16, vL 60 1 (N + 5)), (17, vN ((N + 5 : Nat) : Int)), (18, vN (i : Nat))])) (Sx.look ((rB 60 M C ++ rB 61 N B) ++ ([]))) 80 (YES) (Sx.look []) 160 from q (N + 5) 0 (by omega)
  intro k
  induction k with
  | zero => intro i hi; exact keEnd N M C B i (by omega)
  | succ k ih =>
    intro i hi
    have q := ih (i + 1) (by omega)
    have hc := h i (by omega)
    rw [inG_at] at hc
    by_cases hn : i < N
    · rw [if_pos hn] at hc; exact keA N M C B i hn hN hM hc _ _ q
    · rw [if_neg hn, if_pos (by omega)] at hc; exact keB N M C B i (by omega) (by omega) hN hM hc _ _ q
def keP : PC := { args := [.v (.vl 60 1 0), .v (.vl 61 1 0)], heap := [⟨60, false, 1, .ta 3 (.vi .u8 1)⟩, ⟨61, false, 1, .ta 0 (.vi .u8 2)⟩], gs := [], G := 19, tp := 144, n := 80, n' := 160, cond := fun e => (decide (eN e 0 ≤ 1000) && decide (eN e 0 + 5 ≤ eN e 3)) && allEq (eI e 1) (inG (eI e 2) (eN e 0) 5) (eN e 0 + 5), v := fun e => YES, post := fun e => [] }
theorem keP_pc : PC.Runs Tryd.prog 19 Tryd.f19 (bodyOf Tryd.f19) keP := ⟨Tryd.func19, by kernel_rfl, (fun g hg => by first | (cases hg; done) | (revert g; show ∀ g ∈ ([] : List Nat), g < 19; decide)), fun e H hc => by
  have hc : ((decide (eN e 0 ≤ 1000) && decide (eN e 0 + 5 ≤ eN e 3)) && allEq (eI e 1) (inG (eI e 2) (eN e 0) 5) (eN e 0 + 5)) = true := hc
  try simp only [Bool.and_eq_true, decide_eq_true_eq, Nat.beq_eq] at hc
  exact keI (eN e 0) (eN e 3) (eI e 1) (eI e 2) hc.1.1 hc.1.2 (fun i hi => allEq_iff.1 hc.2 i hi)⟩
end Go.Proofs.YtcphocfnhekdaaaDoor

