/- Modes at rest: the law's steps. -/
import Derived.Test.YtealbjkhjpmilaaDoorYgC
set_option linter.unusedSimpArgs false
set_option linter.unusedVariables false
set_option maxRecDepth 100000
namespace Go.Proofs.YtealbjkhjpmilaaDoor
open Go.Sx


def allR (t0 t1 t2 t3 t4 t5 : List UInt8) : List Ent := sentEnts 25 223 [(3, t0), (4, t1), (0, t2), (2, t3), (5, t4), (1, t5)]
def XR (t0 t1 t2 t3 t4 t5 : List UInt8) (N : Nat) (A : Ix → Int) : List Ent := allR t0 t1 t2 t3 t4 t5 ++ [⟨100, false, none, 1, .ta N (.vi .i64 A)⟩]
def mF (x : Int) : Ix → Int := fun is => match is with | [0] => 1 | [1] => x | _ => 0
def msE (l : Nat) (x : Int) : List Ent := [⟨l, true, none, 1, .ta 2 (.vi .u8 (mF x))⟩]
def rwE (l : Nat) : List Ent := [⟨l, true, none, 1, .ta 1 (.vl (l + 2) (fun _ => 0) 1 [] (fun _ => 2))⟩]
def rwZ (l : Nat) : List Ent := [⟨l, true, none, 1, .ta 0 .vl0⟩]
abbrev qZ (l : Nat) : SV := .v (.vl l (fun _ => 0) 1 [] (fun _ => 0))
abbrev q1 (l : Nat) : SV := .v (.vl l (fun _ => 0) 1 [] (fun _ => 1))
abbrev qE (l : Nat) : SV := .v (.vl l (fun _ => 0) 1 [1] (fun _ => 0))
def lcR (c : Int) (N i : Nat) (p q : SV) : List (Nat × SV) := [(0, vN c), (1, vL 100 1 N), (5, vP 120), (6, vP 121), (7, p), (8, q), (33, vN (IntKind.i64.wrap (N + 130))), (34, vN i)]
theorem small_one : ((List.range 32).all fun n => !rightR n || (ackR n == false && ackR (n + 4) == true && IntKind.u8.wrap n == n && IntKind.u8.wrap (n + 4) == n + 4 && maskR n == n && maskR (n + 4) == n && rightC n && iandn .i64 n 4 == n && iandn .i64 (n + 4) 4 == n && iand .u8 n 4 == 0 && !(iand .u8 (n + 4) 4 == 0))) = true := by kernel_rfl
theorem small_right2 : ((List.range 32).all fun n => (List.range 32).all fun c => !rightR n || rightR (bothR n c)) = true := by kernel_rfl
structure One (n : Int) : Prop where
  u : IntKind.u8.wrap n = n
  v : IntKind.u8.wrap (n + 4) = n + 4
  r : rightC n = true
  a : iandn .i64 n 4 = n
  b : iandn .i64 (n + 4) 4 = n
  e : iand .u8 n 4 = 0
  f : iand .u8 (n + 4) 4 ≠ 0
  lo : 0 ≤ n
  hi : n ≤ 31
theorem one_of {n : Int} (h : rightR n = true) : One n := by
  have hc := h
  simp only [rightR, Bool.and_eq_true, decide_eq_true_eq] at hc
  obtain ⟨k, rfl⟩ : ∃ k : Nat, n = k := ⟨n.toNat, by omega⟩
  have h1 := all_nat small_one (n := k) (by omega)
  simp [h] at h1
  obtain ⟨⟨⟨⟨⟨⟨⟨⟨⟨⟨a1, a2⟩, a3⟩, a4⟩, a5⟩, a6⟩, a7⟩, a8⟩, a9⟩, a10⟩, a11⟩ := h1
  exact ⟨a3, a4, a7, a8, a9, a10, a11, by omega, by omega⟩
theorem both_right {n : Int} (c : Int) (h : rightR n = true) : rightR (bothR n c) = true := by
  have hc := h
  simp only [rightR, Bool.and_eq_true, decide_eq_true_eq] at hc
  obtain ⟨k, rfl⟩ : ∃ k : Nat, n = k := ⟨n.toNat, by omega⟩
  obtain ⟨d, hd⟩ : ∃ d : Nat, c % 32 = d := ⟨(c % 32).toNat, by omega⟩
  have h1 := all_nat small_right2 (n := k) (by omega)
  have h2 := List.all_eq_true.1 h1 d (by simp; omega)
  rw [bothR_low, hd]
  simpa [h] using h2
theorem tm2 (i : Nat) : ((i : Int)).tmod 2 = ((i % 2 : Nat) : Int) := by
  rw [Int.tmod_eq_emod_of_nonneg (by omega)]; omega
def sumsE : List (FuncId × Summ) := [(14, aliveC.summ 50), (36, rightPC.summ 50)]
theorem baseE : Base0 Tryd.prog sumsE := ((baseO.cons Tryd.func36 (by kernel_rfl) (PC.summ_ok right_pc gtop50)).cons Tryd.func14 (by kernel_rfl) (PC.summ_ok alive_pc gtop50))
theorem rlong_p0 (t0 t1 t2 t3 t4 t5 : List UInt8) (c : Int) (N : Nat) (A : Ix → Int) :
    isEnd (evTill Tryd.prog sumsE 400 (behind Tryd.f3 0) 900 3 [.code (bodyOf Tryd.f3)] (envOf [vN c, vL 100 1 N] Tryd.f3.ntmps) (XR t0 t1 t2 t3 t4 t5 N A ++ ([])) ⟨[.t, .f, .s true], 110⟩) (endP ([]) YES [] 900) =
    (OkL [(decide ((↑N : Int) > (60 : Int)), true)] ∧ true = true ∧ True) := by kernel_rfl

set_option maxHeartbeats 4000000 in
theorem rlong (t0 t1 t2 t3 t4 t5 : List UInt8) (c : Int) (N : Nat) (A : Ix → Int) (hN : 60 < N) :
    RunsTo Tryd.prog 3 [.code (bodyOf Tryd.f3)] (envOf [vN c, vL 100 1 N] Tryd.f3.ntmps) (Sx.look (XR t0 t1 t2 t3 t4 t5 N A ++ ([]))) 110 YES (Sx.look []) 900 := by
  have gg0 : (decide ((↑N : Int) > (60 : Int))) = true := by first | (simp (disch := omega) only [SS] at *; omega) | (simp (disch := omega) only [SS] at *; done) | (simp_all; done)
  exact runs_last baseE (Sx.Ends.of (rlong_p0 t0 t1 t2 t3 t4 t5 c N A) ⟨(okc gg0 okn), by first | rfl | simp_all, trivial⟩) (by kernel_rfl) rfl (gtL (by decide)) (by decide)

theorem rstart_p0 (t0 t1 t2 t3 t4 t5 : List UInt8) (c : Int) (N : Nat) (A : Ix → Int) :
    isMore (evTill Tryd.prog sumsE 400 (behind Tryd.f3 0) 900 3 [.code (bodyOf Tryd.f3)] (envOf [vN c, vL 100 1 N] Tryd.f3.ntmps) (XR t0 t1 t2 t3 t4 t5 N A ++ ([])) ⟨[.t, .f, .s false, .f, .f], 110⟩) (moreP (headOf Tryd.f3 0) ([((120 : Nat), Rn.to (190 : Nat)), ((121 : Nat), Rn.to (191 : Nat)), ((123 : Nat), Rn.to (192 : Nat)), ((127 : Nat), Rn.to (193 : Nat))]) Tryd.f3.ntmps (lcR c N 0 (qZ 123) (qZ 127)) (htE c 0 false 0 ++ (rwZ 123 ++ rwZ 127)) 900) =
    (OkL [(decide ((↑N : Int) > (60 : Int)), false)] ∧ headOf Tryd.f3 (0 : Nat) = headOf Tryd.f3 (0 : Nat) ∧ (c = c ∧ ((0 : Nat) = (0 : Nat) ∧ N = N) ∧ (0 : Nat) = (0 : Nat) ∧ (0 : Nat) = (0 : Nat) ∧ ((0 : Nat) = (0 : Nat) ∧ (0 : Nat) = (0 : Nat)) ∧ ((0 : Nat) = (0 : Nat) ∧ (0 : Nat) = (0 : Nat)) ∧ IntKind.i64.wrap ((↑N : Int) + (130 : Int)) = IntKind.i64.wrap ((↑N : Int) + (130 : Int)) ∧ (↑(0 : Nat) : Int) = (0 : Int)) ∧ ((0 : Int) = (0 : Int) ∧ false = false) ∧ ((0 : Int) = (0 : Int) ∧ iand IntKind.i64 c (27 : Int) = iand IntKind.i64 c (27 : Int)) ∧ ((0 : Nat) = (0 : Nat) ∧ True) ∧ (0 : Nat) = (0 : Nat) ∧ True) := by kernel_rfl

set_option maxHeartbeats 4000000 in
theorem rstart (t0 t1 t2 t3 t4 t5 : List UInt8) (c : Int) (N : Nat) (A : Ix → Int) (hN : N ≤ 60) (next : RunsTo Tryd.prog 3 (headOf Tryd.f3 0) (envAt Tryd.f3.ntmps (lcR c N 0 (qZ 123) (qZ 127))) (Sx.look (XR t0 t1 t2 t3 t4 t5 N A ++ (htE c 0 false 0 ++ (rwZ 123 ++ rwZ 127)))) 110 YES (Sx.look []) 900) :
    RunsTo Tryd.prog 3 [.code (bodyOf Tryd.f3)] (envOf [vN c, vL 100 1 N] Tryd.f3.ntmps) (Sx.look (XR t0 t1 t2 t3 t4 t5 N A ++ ([]))) 110 YES (Sx.look []) 900 := by
  have gg0 : (decide ((↑N : Int) > (60 : Int))) = false := by clear next; first | (simp (disch := omega) only [SS] at *; omega) | (simp (disch := omega) only [SS] at *; done) | (simp_all; done)
  refine runs_more baseE (More.of (rstart_p0 t0 t1 t2 t3 t4 t5 c N A) ⟨(okc gg0 okn), rfl, ?_⟩) (by kernel_rfl) (by kernel_rfl) rfl (gtL (by decide)) (by decide) next
  clear next
  simp

theorem rdoneZ0_p0 (t0 t1 t2 t3 t4 t5 : List UInt8) (c : Int) (N : Nat) (A : Ix → Int) (i : Nat) (hd tl : Int) :
    isEnd (evTill Tryd.prog sumsE 400 (behind Tryd.f3 0) 900 3 (headOf Tryd.f3 0) (envAt Tryd.f3.ntmps (lcR c N i (qZ 123) (qZ 127))) (XR t0 t1 t2 t3 t4 t5 N A ++ (htE c hd false hd ++ (rwZ 123 ++ rwZ 127))) ⟨[.s false, .t, .s true], 130⟩) (endP ([]) YES [] 900) =
    (OkL [(decide ((↑i : Int) < IntKind.i64.wrap ((↑N : Int) + (130 : Int))), false), (hd == hd, true)] ∧ true = true ∧ True) := by kernel_rfl

set_option maxHeartbeats 4000000 in
theorem rdoneZ0 (t0 t1 t2 t3 t4 t5 : List UInt8) (c : Int) (N : Nat) (A : Ix → Int) (i : Nat) (hd tl : Int) (hN : N ≤ 60) (hi : i = N + 130) :
    RunsTo Tryd.prog 3 (headOf Tryd.f3 0) (envAt Tryd.f3.ntmps (lcR c N i (qZ 123) (qZ 127))) (Sx.look (XR t0 t1 t2 t3 t4 t5 N A ++ (htE c hd false hd ++ (rwZ 123 ++ rwZ 127)))) 110 YES (Sx.look []) 900 := by
  have hwN : IntKind.i64.wrap ((N : Int) + 130) = (N : Int) + 130 := wr64 (by omega)
  refine runs_last baseE (Sx.Ends.of (rdoneZ0_p0 t0 t1 t2 t3 t4 t5 c N A i hd tl) ⟨?oo, by first | rfl | simp_all, trivial⟩) (by kernel_rfl) rfl (gtL (by decide)) (by decide)
  case oo =>
    refine (okc ?_ (okc ?_ okn))
    all_goals ((try simp (disch := omega) only [SS, nmE, mF, hwN, tm2, Go.Sx.sum]); first | done | omega | (simp (disch := omega) only [SS, nmE, mF, hwN, tm2, Go.Sx.sum] at *; first | done | omega) | (simp_all; done))

theorem rdoneZ1_p0 (t0 t1 t2 t3 t4 t5 : List UInt8) (c : Int) (N : Nat) (A : Ix → Int) (i : Nat) (hd tl : Int) :
    isEnd (evTill Tryd.prog sumsE 400 (behind Tryd.f3 0) 900 3 (headOf Tryd.f3 0) (envAt Tryd.f3.ntmps (lcR c N i (qE 123) (qE 127))) (XR t0 t1 t2 t3 t4 t5 N A ++ (htE c hd false hd ++ (rwE 123 ++ rwE 127))) ⟨[.s false, .t, .s true], 130⟩) (endP ([]) YES [] 900) =
    (OkL [(decide ((↑i : Int) < IntKind.i64.wrap ((↑N : Int) + (130 : Int))), false), (hd == hd, true)] ∧ true = true ∧ True) := by kernel_rfl

set_option maxHeartbeats 4000000 in
theorem rdoneZ1 (t0 t1 t2 t3 t4 t5 : List UInt8) (c : Int) (N : Nat) (A : Ix → Int) (i : Nat) (hd tl : Int) (hN : N ≤ 60) (hi : i = N + 130) :
    RunsTo Tryd.prog 3 (headOf Tryd.f3 0) (envAt Tryd.f3.ntmps (lcR c N i (qE 123) (qE 127))) (Sx.look (XR t0 t1 t2 t3 t4 t5 N A ++ (htE c hd false hd ++ (rwE 123 ++ rwE 127)))) 110 YES (Sx.look []) 900 := by
  have hwN : IntKind.i64.wrap ((N : Int) + 130) = (N : Int) + 130 := wr64 (by omega)
  refine runs_last baseE (Sx.Ends.of (rdoneZ1_p0 t0 t1 t2 t3 t4 t5 c N A i hd tl) ⟨?oo, by first | rfl | simp_all, trivial⟩) (by kernel_rfl) rfl (gtL (by decide)) (by decide)
  case oo =>
    refine (okc ?_ (okc ?_ okn))
    all_goals ((try simp (disch := omega) only [SS, nmE, mF, hwN, tm2, Go.Sx.sum]); first | done | omega | (simp (disch := omega) only [SS, nmE, mF, hwN, tm2, Go.Sx.sum] at *; first | done | omega) | (simp_all; done))

theorem sameZ0_p0 (t0 t1 t2 t3 t4 t5 : List UInt8) (c : Int) (N : Nat) (A : Ix → Int) (i : Nat) (hd tl : Int) :
    isMore (evTill Tryd.prog sumsE 400 (behind Tryd.f3 0) 900 3 (headOf Tryd.f3 0) (envAt Tryd.f3.ntmps (lcR c N i (qZ 123) (qZ 127))) (XR t0 t1 t2 t3 t4 t5 N A ++ (htE c hd false hd ++ (rwZ 123 ++ rwZ 127))) ⟨[.s true, .t, .s false, .s false, .s false, .s true, .f], 130⟩) (moreP (headOf Tryd.f3 0) ([]) Tryd.f3.ntmps (lcR c N (i + 1) (qZ 123) (qZ 127)) (htE c hd false hd ++ (rwZ 123 ++ rwZ 127)) 900) =
    (OkL [(decide ((↑i : Int) < IntKind.i64.wrap ((↑N : Int) + (130 : Int))), true), (decide ((↑i : Int) < (↑N : Int)), false), (decide (IntKind.i64.wrap ((-1 : Int) - (↑i : Int).tmod (2 : Int)) ≥ (0 : Int)), false), (IntKind.i64.wrap ((-1 : Int) - (↑i : Int).tmod (2 : Int)) == (-1 : Int), false), (decide (IntKind.i64.wrap ((-1 : Int) - (↑i : Int).tmod (2 : Int)) < (-1 : Int)), true)] ∧ headOf Tryd.f3 (0 : Nat) = headOf Tryd.f3 (0 : Nat) ∧ (c = c ∧ ((0 : Nat) = (0 : Nat) ∧ N = N) ∧ (0 : Nat) = (0 : Nat) ∧ (0 : Nat) = (0 : Nat) ∧ ((0 : Nat) = (0 : Nat) ∧ (0 : Nat) = (0 : Nat)) ∧ ((0 : Nat) = (0 : Nat) ∧ (0 : Nat) = (0 : Nat)) ∧ IntKind.i64.wrap ((↑N : Int) + (130 : Int)) = IntKind.i64.wrap ((↑N : Int) + (130 : Int)) ∧ (↑(i + (1 : Nat)) : Int) = IntKind.i64.wrap ((↑i : Int) + (1 : Int))) ∧ (hd = hd ∧ false = false) ∧ (hd = hd ∧ iand IntKind.i64 c (27 : Int) = iand IntKind.i64 c (27 : Int)) ∧ ((0 : Nat) = (0 : Nat) ∧ True) ∧ (0 : Nat) = (0 : Nat) ∧ True) := by kernel_rfl
theorem sameZ0_p1 (t0 t1 t2 t3 t4 t5 : List UInt8) (c : Int) (N : Nat) (A : Ix → Int) (i : Nat) (hd tl : Int) :
    isMore (evTill Tryd.prog sumsE 400 (behind Tryd.f3 0) 900 3 (headOf Tryd.f3 0) (envAt Tryd.f3.ntmps (lcR c N i (qZ 123) (qZ 127))) (XR t0 t1 t2 t3 t4 t5 N A ++ (htE c hd false hd ++ (rwZ 123 ++ rwZ 127))) ⟨[.s true, .t, .s false, .s false, .s true, .f, .s false], 130⟩) (moreP (headOf Tryd.f3 0) ([]) Tryd.f3.ntmps (lcR c N (i + 1) (qZ 123) (qZ 127)) (htE c hd false hd ++ (rwZ 123 ++ rwZ 127)) 900) =
    (OkL [(decide ((↑i : Int) < IntKind.i64.wrap ((↑N : Int) + (130 : Int))), true), (decide ((↑i : Int) < (↑N : Int)), false), (decide (IntKind.i64.wrap ((-1 : Int) - (↑i : Int).tmod (2 : Int)) ≥ (0 : Int)), false), (IntKind.i64.wrap ((-1 : Int) - (↑i : Int).tmod (2 : Int)) == (-1 : Int), true), (decide (IntKind.i64.wrap ((-1 : Int) - (↑i : Int).tmod (2 : Int)) < (-1 : Int)), false)] ∧ headOf Tryd.f3 (0 : Nat) = headOf Tryd.f3 (0 : Nat) ∧ (c = c ∧ ((0 : Nat) = (0 : Nat) ∧ N = N) ∧ (0 : Nat) = (0 : Nat) ∧ (0 : Nat) = (0 : Nat) ∧ ((0 : Nat) = (0 : Nat) ∧ (0 : Nat) = (0 : Nat)) ∧ ((0 : Nat) = (0 : Nat) ∧ (0 : Nat) = (0 : Nat)) ∧ IntKind.i64.wrap ((↑N : Int) + (130 : Int)) = IntKind.i64.wrap ((↑N : Int) + (130 : Int)) ∧ (↑(i + (1 : Nat)) : Int) = IntKind.i64.wrap ((↑i : Int) + (1 : Int))) ∧ (hd = hd ∧ false = false) ∧ (hd = hd ∧ iand IntKind.i64 c (27 : Int) = iand IntKind.i64 c (27 : Int)) ∧ ((0 : Nat) = (0 : Nat) ∧ True) ∧ (0 : Nat) = (0 : Nat) ∧ True) := by kernel_rfl
theorem sameZ0_p2 (t0 t1 t2 t3 t4 t5 : List UInt8) (c : Int) (N : Nat) (A : Ix → Int) (i : Nat) (hd tl : Int) :
    isMore (evTill Tryd.prog sumsE 400 (behind Tryd.f3 0) 900 3 (headOf Tryd.f3 0) (envAt Tryd.f3.ntmps (lcR c N i (qZ 123) (qZ 127))) (XR t0 t1 t2 t3 t4 t5 N A ++ (htE c hd false hd ++ (rwZ 123 ++ rwZ 127))) ⟨[.s true, .t, .s true, .s true, .s true, .s true, .s false, .s false, .s true, .f], 130⟩) (moreP (headOf Tryd.f3 0) ([]) Tryd.f3.ntmps (lcR c N (i + 1) (qZ 123) (qZ 127)) (htE c hd false hd ++ (rwZ 123 ++ rwZ 127)) 900) =
    (OkL [(decide ((↑i : Int) < IntKind.i64.wrap ((↑N : Int) + (130 : Int))), true), (decide ((↑i : Int) < (↑N : Int)), true), (decide ((0 : Int) ≤ (↑i : Int) ∧ (↑i : Int) < (↑N : Int)), true), (((0 : Nat) + (↑i : Int).toNat).blt N, true), (((0 : Nat) + (↑i : Int).toNat).blt N, true), (decide (A [(0 : Nat) + (↑i : Int).toNat] ≥ (0 : Int)), false), (A [(0 : Nat) + (↑i : Int).toNat] == (-1 : Int), false), (decide (A [(0 : Nat) + (↑i : Int).toNat] < (-1 : Int)), true)] ∧ headOf Tryd.f3 (0 : Nat) = headOf Tryd.f3 (0 : Nat) ∧ (c = c ∧ ((0 : Nat) = (0 : Nat) ∧ N = N) ∧ (0 : Nat) = (0 : Nat) ∧ (0 : Nat) = (0 : Nat) ∧ ((0 : Nat) = (0 : Nat) ∧ (0 : Nat) = (0 : Nat)) ∧ ((0 : Nat) = (0 : Nat) ∧ (0 : Nat) = (0 : Nat)) ∧ IntKind.i64.wrap ((↑N : Int) + (130 : Int)) = IntKind.i64.wrap ((↑N : Int) + (130 : Int)) ∧ (↑(i + (1 : Nat)) : Int) = IntKind.i64.wrap ((↑i : Int) + (1 : Int))) ∧ (hd = hd ∧ false = false) ∧ (hd = hd ∧ iand IntKind.i64 c (27 : Int) = iand IntKind.i64 c (27 : Int)) ∧ ((0 : Nat) = (0 : Nat) ∧ True) ∧ (0 : Nat) = (0 : Nat) ∧ True) := by kernel_rfl
theorem sameZ0_p3 (t0 t1 t2 t3 t4 t5 : List UInt8) (c : Int) (N : Nat) (A : Ix → Int) (i : Nat) (hd tl : Int) :
    isMore (evTill Tryd.prog sumsE 400 (behind Tryd.f3 0) 900 3 (headOf Tryd.f3 0) (envAt Tryd.f3.ntmps (lcR c N i (qZ 123) (qZ 127))) (XR t0 t1 t2 t3 t4 t5 N A ++ (htE c hd false hd ++ (rwZ 123 ++ rwZ 127))) ⟨[.s true, .t, .s true, .s true, .s true, .s true, .s false, .s true, .f, .s false], 130⟩) (moreP (headOf Tryd.f3 0) ([]) Tryd.f3.ntmps (lcR c N (i + 1) (qZ 123) (qZ 127)) (htE c hd false hd ++ (rwZ 123 ++ rwZ 127)) 900) =
    (OkL [(decide ((↑i : Int) < IntKind.i64.wrap ((↑N : Int) + (130 : Int))), true), (decide ((↑i : Int) < (↑N : Int)), true), (decide ((0 : Int) ≤ (↑i : Int) ∧ (↑i : Int) < (↑N : Int)), true), (((0 : Nat) + (↑i : Int).toNat).blt N, true), (((0 : Nat) + (↑i : Int).toNat).blt N, true), (decide (A [(0 : Nat) + (↑i : Int).toNat] ≥ (0 : Int)), false), (A [(0 : Nat) + (↑i : Int).toNat] == (-1 : Int), true), (decide (A [(0 : Nat) + (↑i : Int).toNat] < (-1 : Int)), false)] ∧ headOf Tryd.f3 (0 : Nat) = headOf Tryd.f3 (0 : Nat) ∧ (c = c ∧ ((0 : Nat) = (0 : Nat) ∧ N = N) ∧ (0 : Nat) = (0 : Nat) ∧ (0 : Nat) = (0 : Nat) ∧ ((0 : Nat) = (0 : Nat) ∧ (0 : Nat) = (0 : Nat)) ∧ ((0 : Nat) = (0 : Nat) ∧ (0 : Nat) = (0 : Nat)) ∧ IntKind.i64.wrap ((↑N : Int) + (130 : Int)) = IntKind.i64.wrap ((↑N : Int) + (130 : Int)) ∧ (↑(i + (1 : Nat)) : Int) = IntKind.i64.wrap ((↑i : Int) + (1 : Int))) ∧ (hd = hd ∧ false = false) ∧ (hd = hd ∧ iand IntKind.i64 c (27 : Int) = iand IntKind.i64 c (27 : Int)) ∧ ((0 : Nat) = (0 : Nat) ∧ True) ∧ (0 : Nat) = (0 : Nat) ∧ True) := by kernel_rfl
theorem sameZ0_p4 (t0 t1 t2 t3 t4 t5 : List UInt8) (c : Int) (N : Nat) (A : Ix → Int) (i : Nat) (hd tl : Int) :
    isMore (evTill Tryd.prog sumsE 400 (behind Tryd.f3 0) 900 3 (headOf Tryd.f3 0) (envAt Tryd.f3.ntmps (lcR c N i (qZ 123) (qZ 127))) (XR t0 t1 t2 t3 t4 t5 N A ++ (htE c hd false hd ++ (rwZ 123 ++ rwZ 127))) ⟨[.s true, .t, .s true, .s true, .s true, .s true, .s true, .t, .s false, .f, .s true, .f], 130⟩) (moreP (headOf Tryd.f3 0) ([]) Tryd.f3.ntmps (lcR c N (i + 1) (qZ 123) (qZ 127)) (htE c hd false hd ++ (rwZ 123 ++ rwZ 127)) 900) =
    (OkL [(decide ((↑i : Int) < IntKind.i64.wrap ((↑N : Int) + (130 : Int))), true), (decide ((↑i : Int) < (↑N : Int)), true), (decide ((0 : Int) ≤ (↑i : Int) ∧ (↑i : Int) < (↑N : Int)), true), (((0 : Nat) + (↑i : Int).toNat).blt N, true), (((0 : Nat) + (↑i : Int).toNat).blt N, true), (decide (A [(0 : Nat) + (↑i : Int).toNat] ≥ (0 : Int)), true), (!rightC (A [(0 : Nat) + (↑i : Int).toNat]), false), (A [(0 : Nat) + (↑i : Int).toNat] == hd, true)] ∧ headOf Tryd.f3 (0 : Nat) = headOf Tryd.f3 (0 : Nat) ∧ (c = c ∧ ((0 : Nat) = (0 : Nat) ∧ N = N) ∧ (0 : Nat) = (0 : Nat) ∧ (0 : Nat) = (0 : Nat) ∧ ((0 : Nat) = (0 : Nat) ∧ (0 : Nat) = (0 : Nat)) ∧ ((0 : Nat) = (0 : Nat) ∧ (0 : Nat) = (0 : Nat)) ∧ IntKind.i64.wrap ((↑N : Int) + (130 : Int)) = IntKind.i64.wrap ((↑N : Int) + (130 : Int)) ∧ (↑(i + (1 : Nat)) : Int) = IntKind.i64.wrap ((↑i : Int) + (1 : Int))) ∧ (hd = hd ∧ false = false) ∧ (hd = hd ∧ iand IntKind.i64 c (27 : Int) = iand IntKind.i64 c (27 : Int)) ∧ ((0 : Nat) = (0 : Nat) ∧ True) ∧ (0 : Nat) = (0 : Nat) ∧ True) := by kernel_rfl
theorem sameZ0_p5 (t0 t1 t2 t3 t4 t5 : List UInt8) (c : Int) (N : Nat) (A : Ix → Int) (i : Nat) (hd tl : Int) :
    isMore (evTill Tryd.prog sumsE 400 (behind Tryd.f3 0) 900 3 (headOf Tryd.f3 0) (envAt Tryd.f3.ntmps (lcR c N i (qZ 123) (qZ 127))) (XR t0 t1 t2 t3 t4 t5 N A ++ (htE c hd false hd ++ (rwZ 123 ++ rwZ 127))) ⟨[.s true, .t, .s true, .s true, .s true, .s true, .s true, .t, .s true, .f], 130⟩) (moreP (headOf Tryd.f3 0) ([]) Tryd.f3.ntmps (lcR c N (i + 1) (qZ 123) (qZ 127)) (htE c hd false hd ++ (rwZ 123 ++ rwZ 127)) 900) =
    (OkL [(decide ((↑i : Int) < IntKind.i64.wrap ((↑N : Int) + (130 : Int))), true), (decide ((↑i : Int) < (↑N : Int)), true), (decide ((0 : Int) ≤ (↑i : Int) ∧ (↑i : Int) < (↑N : Int)), true), (((0 : Nat) + (↑i : Int).toNat).blt N, true), (((0 : Nat) + (↑i : Int).toNat).blt N, true), (decide (A [(0 : Nat) + (↑i : Int).toNat] ≥ (0 : Int)), true), (!rightC (A [(0 : Nat) + (↑i : Int).toNat]), true)] ∧ headOf Tryd.f3 (0 : Nat) = headOf Tryd.f3 (0 : Nat) ∧ (c = c ∧ ((0 : Nat) = (0 : Nat) ∧ N = N) ∧ (0 : Nat) = (0 : Nat) ∧ (0 : Nat) = (0 : Nat) ∧ ((0 : Nat) = (0 : Nat) ∧ (0 : Nat) = (0 : Nat)) ∧ ((0 : Nat) = (0 : Nat) ∧ (0 : Nat) = (0 : Nat)) ∧ IntKind.i64.wrap ((↑N : Int) + (130 : Int)) = IntKind.i64.wrap ((↑N : Int) + (130 : Int)) ∧ (↑(i + (1 : Nat)) : Int) = IntKind.i64.wrap ((↑i : Int) + (1 : Int))) ∧ (hd = hd ∧ false = false) ∧ (hd = hd ∧ iand IntKind.i64 c (27 : Int) = iand IntKind.i64 c (27 : Int)) ∧ ((0 : Nat) = (0 : Nat) ∧ True) ∧ (0 : Nat) = (0 : Nat) ∧ True) := by kernel_rfl

set_option maxHeartbeats 4000000 in
theorem sameZ0 (t0 t1 t2 t3 t4 t5 : List UInt8) (c : Int) (N : Nat) (A : Ix → Int) (i : Nat) (hd tl : Int) (hi : i < N + 130) (hN : N ≤ 60) (hA : i < N → -9223372036854775808 ≤ A [i] ∧ A [i] < 9223372036854775808) (ha : i < N → (A [i] < 0 ∨ rightR (A [i]) = false ∨ A [i] = hd)) (next : RunsTo Tryd.prog 3 (headOf Tryd.f3 0) (envAt Tryd.f3.ntmps (lcR c N (i + 1) (qZ 123) (qZ 127))) (Sx.look (XR t0 t1 t2 t3 t4 t5 N A ++ (htE c hd false hd ++ (rwZ 123 ++ rwZ 127)))) 110 YES (Sx.look []) 900) :
    RunsTo Tryd.prog 3 (headOf Tryd.f3 0) (envAt Tryd.f3.ntmps (lcR c N i (qZ 123) (qZ 127))) (Sx.look (XR t0 t1 t2 t3 t4 t5 N A ++ (htE c hd false hd ++ (rwZ 123 ++ rwZ 127)))) 110 YES (Sx.look []) 900 := by
  have hwN : IntKind.i64.wrap ((N : Int) + 130) = (N : Int) + 130 := wr64 (by omega)
  have hre : i < N → rightC (A [i]) = rightR (A [i]) := fun h => right_eq (hA h).1 (hA h).2
  have ha' : i < N → (A [i] < 0 ∨ rightC (A [i]) = false ∨ A [i] = hd) := fun h => by rw [hre h]; exact ha h
  refine bcase (c := (decide ((↑i : Int) < (↑N : Int)))) (fun gg0 => ?_) (fun gg0 => ?_)
  · refine bcase (c := (IntKind.i64.wrap ((-1 : Int) - (↑i : Int).tmod (2 : Int)) == (-1 : Int))) (fun gg1 => ?_) (fun gg1 => ?_)
    · refine runs_more baseE (More.of (sameZ0_p0 t0 t1 t2 t3 t4 t5 c N A i hd tl) ⟨?oo, rfl, ?rr⟩) (by kernel_rfl) (by kernel_rfl) rfl (gtL (by decide)) (by decide) next
      case oo =>
        clear next
        refine (okc ?_ (okc gg0 (okc ?_ (okc gg1 (okc ?_ okn)))))
        all_goals ((try simp (disch := omega) only [SS, nmE, mF, hwN, tm2, Go.Sx.sum]); first | done | omega | assumption | (simp (disch := omega) only [SS, nmE, mF, hwN, tm2, Go.Sx.sum] at *; first | done | omega | assumption) | (simp_all; done) | grind)
      case rr =>
        clear next
        have hw : IntKind.i64.wrap ((i : Int) + 1) = ((i + 1 : Nat) : Int) := by rw [wr64 (by omega)]; rfl
        simp (disch := omega) only [SS, nmE, mF, hwN, tm2, Go.Sx.sum, hw]
        repeat' apply And.intro
        all_goals first | trivial | rfl | omega | exact hw.symm | (intro k hk; rcases (by omega : k = 0 ∨ k = 1) with rfl | rfl <;> simp [mF, upd, *]; done) | (intros; first | trivial | rfl | (simp_all; done)) | (simp_all; done)
    · refine runs_more baseE (More.of (sameZ0_p1 t0 t1 t2 t3 t4 t5 c N A i hd tl) ⟨?oo, rfl, ?rr⟩) (by kernel_rfl) (by kernel_rfl) rfl (gtL (by decide)) (by decide) next
      case oo =>
        clear next
        refine (okc ?_ (okc gg0 (okc ?_ (okc gg1 (okc ?_ okn)))))
        all_goals ((try simp (disch := omega) only [SS, nmE, mF, hwN, tm2, Go.Sx.sum]); first | done | omega | assumption | (simp (disch := omega) only [SS, nmE, mF, hwN, tm2, Go.Sx.sum] at *; first | done | omega | assumption) | (simp_all; done) | grind)
      case rr =>
        clear next
        have hw : IntKind.i64.wrap ((i : Int) + 1) = ((i + 1 : Nat) : Int) := by rw [wr64 (by omega)]; rfl
        simp (disch := omega) only [SS, nmE, mF, hwN, tm2, Go.Sx.sum, hw]
        repeat' apply And.intro
        all_goals first | trivial | rfl | omega | exact hw.symm | (intro k hk; rcases (by omega : k = 0 ∨ k = 1) with rfl | rfl <;> simp [mF, upd, *]; done) | (intros; first | trivial | rfl | (simp_all; done)) | (simp_all; done)
  · refine bcase (c := (decide (A [(0 : Nat) + (↑i : Int).toNat] ≥ (0 : Int)))) (fun gg1 => ?_) (fun gg1 => ?_)
    · refine bcase (c := (A [(0 : Nat) + (↑i : Int).toNat] == (-1 : Int))) (fun gg2 => ?_) (fun gg2 => ?_)
      · refine runs_more baseE (More.of (sameZ0_p2 t0 t1 t2 t3 t4 t5 c N A i hd tl) ⟨?oo, rfl, ?rr⟩) (by kernel_rfl) (by kernel_rfl) rfl (gtL (by decide)) (by decide) next
        case oo =>
          clear next
          refine (okc ?_ (okc gg0 (okc ?_ (okc ?_ (okc ?_ (okc gg1 (okc gg2 (okc ?_ okn))))))))
          all_goals ((try simp (disch := omega) only [SS, nmE, mF, hwN, tm2, Go.Sx.sum]); first | done | omega | assumption | (simp (disch := omega) only [SS, nmE, mF, hwN, tm2, Go.Sx.sum] at *; first | done | omega | assumption) | (simp_all; done) | grind)
        case rr =>
          clear next
          have hw : IntKind.i64.wrap ((i : Int) + 1) = ((i + 1 : Nat) : Int) := by rw [wr64 (by omega)]; rfl
          simp (disch := omega) only [SS, nmE, mF, hwN, tm2, Go.Sx.sum, hw]
          repeat' apply And.intro
          all_goals first | trivial | rfl | omega | exact hw.symm | (intro k hk; rcases (by omega : k = 0 ∨ k = 1) with rfl | rfl <;> simp [mF, upd, *]; done) | (intros; first | trivial | rfl | (simp_all; done)) | (simp_all; done)
      · refine runs_more baseE (More.of (sameZ0_p3 t0 t1 t2 t3 t4 t5 c N A i hd tl) ⟨?oo, rfl, ?rr⟩) (by kernel_rfl) (by kernel_rfl) rfl (gtL (by decide)) (by decide) next
        case oo =>
          clear next
          refine (okc ?_ (okc gg0 (okc ?_ (okc ?_ (okc ?_ (okc gg1 (okc gg2 (okc ?_ okn))))))))
          all_goals ((try simp (disch := omega) only [SS, nmE, mF, hwN, tm2, Go.Sx.sum]); first | done | omega | assumption | (simp (disch := omega) only [SS, nmE, mF, hwN, tm2, Go.Sx.sum] at *; first | done | omega | assumption) | (simp_all; done) | grind)
        case rr =>
          clear next
          have hw : IntKind.i64.wrap ((i : Int) + 1) = ((i + 1 : Nat) : Int) := by rw [wr64 (by omega)]; rfl
          simp (disch := omega) only [SS, nmE, mF, hwN, tm2, Go.Sx.sum, hw]
          repeat' apply And.intro
          all_goals first | trivial | rfl | omega | exact hw.symm | (intro k hk; rcases (by omega : k = 0 ∨ k = 1) with rfl | rfl <;> simp [mF, upd, *]; done) | (intros; first | trivial | rfl | (simp_all; done)) | (simp_all; done)
    · refine bcase (c := (!rightC (A [(0 : Nat) + (↑i : Int).toNat]))) (fun gg2 => ?_) (fun gg2 => ?_)
      · refine runs_more baseE (More.of (sameZ0_p4 t0 t1 t2 t3 t4 t5 c N A i hd tl) ⟨?oo, rfl, ?rr⟩) (by kernel_rfl) (by kernel_rfl) rfl (gtL (by decide)) (by decide) next
        case oo =>
          clear next
          refine (okc ?_ (okc gg0 (okc ?_ (okc ?_ (okc ?_ (okc gg1 (okc gg2 (okc ?_ okn))))))))
          all_goals ((try simp (disch := omega) only [SS, nmE, mF, hwN, tm2, Go.Sx.sum]); first | done | omega | assumption | (simp (disch := omega) only [SS, nmE, mF, hwN, tm2, Go.Sx.sum] at *; first | done | omega | assumption) | (simp_all; done) | grind)
        case rr =>
          clear next
          have hw : IntKind.i64.wrap ((i : Int) + 1) = ((i + 1 : Nat) : Int) := by rw [wr64 (by omega)]; rfl
          simp (disch := omega) only [SS, nmE, mF, hwN, tm2, Go.Sx.sum, hw]
          repeat' apply And.intro
          all_goals first | trivial | rfl | omega | exact hw.symm | (intro k hk; rcases (by omega : k = 0 ∨ k = 1) with rfl | rfl <;> simp [mF, upd, *]; done) | (intros; first | trivial | rfl | (simp_all; done)) | (simp_all; done)
      · refine runs_more baseE (More.of (sameZ0_p5 t0 t1 t2 t3 t4 t5 c N A i hd tl) ⟨?oo, rfl, ?rr⟩) (by kernel_rfl) (by kernel_rfl) rfl (gtL (by decide)) (by decide) next
        case oo =>
          clear next
          refine (okc ?_ (okc gg0 (okc ?_ (okc ?_ (okc ?_ (okc gg1 (okc gg2 okn)))))))
          all_goals ((try simp (disch := omega) only [SS, nmE, mF, hwN, tm2, Go.Sx.sum]); first | done | omega | assumption | (simp (disch := omega) only [SS, nmE, mF, hwN, tm2, Go.Sx.sum] at *; first | done | omega | assumption) | (simp_all; done) | grind)
        case rr =>
          clear next
          have hw : IntKind.i64.wrap ((i : Int) + 1) = ((i + 1 : Nat) : Int) := by rw [wr64 (by omega)]; rfl
          simp (disch := omega) only [SS, nmE, mF, hwN, tm2, Go.Sx.sum, hw]
          repeat' apply And.intro
          all_goals first | trivial | rfl | omega | exact hw.symm | (intro k hk; rcases (by omega : k = 0 ∨ k = 1) with rfl | rfl <;> simp [mF, upd, *]; done) | (intros; first | trivial | rfl | (simp_all; done)) | (simp_all; done)

theorem setZ0_p0 (t0 t1 t2 t3 t4 t5 : List UInt8) (c : Int) (N : Nat) (A : Ix → Int) (i : Nat) (hd tl : Int) :
    isMore (evTill Tryd.prog sumsE 400 (behind Tryd.f3 0) 900 3 (headOf Tryd.f3 0) (envAt Tryd.f3.ntmps (lcR c N i (qZ 123) (qZ 127))) (XR t0 t1 t2 t3 t4 t5 N A ++ (htE c hd false hd ++ (rwZ 123 ++ rwZ 127))) ⟨[.s true, .t, .s true, .s true, .s true, .s true, .s true, .t, .s false, .f, .s false, .t, .t, .t, .t, .t], 130⟩) (moreP (headOf Tryd.f3 0) ([((123 : Nat), Rn.to (142 : Nat)), ((125 : Nat), Rn.to (140 : Nat))]) Tryd.f3.ntmps (lcR c N (i + 1) (q1 123) (qZ 127)) (htE c (A [i]) true hd ++ (rwE 123 ++ (msE 125 (A [i]) ++ rwZ 127))) 900) =
    (OkL [(decide ((↑i : Int) < IntKind.i64.wrap ((↑N : Int) + (130 : Int))), true), (decide ((↑i : Int) < (↑N : Int)), true), (decide ((0 : Int) ≤ (↑i : Int) ∧ (↑i : Int) < (↑N : Int)), true), (((0 : Nat) + (↑i : Int).toNat).blt N, true), (((0 : Nat) + (↑i : Int).toNat).blt N, true), (decide (A [(0 : Nat) + (↑i : Int).toNat] ≥ (0 : Int)), true), (!rightC (A [(0 : Nat) + (↑i : Int).toNat]), false), (A [(0 : Nat) + (↑i : Int).toNat] == hd, false)] ∧ headOf Tryd.f3 (0 : Nat) = headOf Tryd.f3 (0 : Nat) ∧ (c = c ∧ ((0 : Nat) = (0 : Nat) ∧ N = N) ∧ (0 : Nat) = (0 : Nat) ∧ (0 : Nat) = (0 : Nat) ∧ ((0 : Nat) = (0 : Nat) ∧ (1 : Nat) = (1 : Nat)) ∧ ((0 : Nat) = (0 : Nat) ∧ (0 : Nat) = (0 : Nat)) ∧ IntKind.i64.wrap ((↑N : Int) + (130 : Int)) = IntKind.i64.wrap ((↑N : Int) + (130 : Int)) ∧ (↑(i + (1 : Nat)) : Int) = IntKind.i64.wrap ((↑i : Int) + (1 : Int))) ∧ (A [i] = A [(0 : Nat) + (↑i : Int).toNat] ∧ true = true) ∧ (hd = hd ∧ iand IntKind.i64 c (27 : Int) = iand IntKind.i64 c (27 : Int)) ∧ ((1 : Nat) = (1 : Nat) ∧ (∀ (i : Nat), i < (1 : Nat) → (0 : Nat) = (0 : Nat)) ∧ ∀ (i : Nat), i < (1 : Nat) → (2 : Nat) = (2 : Nat)) ∧ ((2 : Nat) = (2 : Nat) ∧ ∀ (i_1 : Nat), i_1 < (2 : Nat) → mF (A [i]) [i_1] = upd (upd (fun is => (0 : Int)) [(0 : Nat)] (1 : Int)) [(1 : Nat)] (IntKind.u8.wrap (A [(0 : Nat) + (↑i : Int).toNat])) [i_1]) ∧ (0 : Nat) = (0 : Nat) ∧ True) := by kernel_rfl

set_option maxHeartbeats 4000000 in
theorem setZ0 (t0 t1 t2 t3 t4 t5 : List UInt8) (c : Int) (N : Nat) (A : Ix → Int) (i : Nat) (hd tl : Int) (hi : i < N + 130) (hN : N ≤ 60) (hA : i < N → -9223372036854775808 ≤ A [i] ∧ A [i] < 9223372036854775808) (hiN : i < N) (hr : rightR (A [i]) = true) (hne : A [i] ≠ hd) (next : RunsTo Tryd.prog 3 (headOf Tryd.f3 0) (envAt Tryd.f3.ntmps (lcR c N (i + 1) (q1 123) (qZ 127))) (Sx.look (XR t0 t1 t2 t3 t4 t5 N A ++ (htE c (A [i]) true hd ++ (rwE 123 ++ (msE 125 (A [i]) ++ rwZ 127))))) 110 YES (Sx.look []) 900) :
    RunsTo Tryd.prog 3 (headOf Tryd.f3 0) (envAt Tryd.f3.ntmps (lcR c N i (qZ 123) (qZ 127))) (Sx.look (XR t0 t1 t2 t3 t4 t5 N A ++ (htE c hd false hd ++ (rwZ 123 ++ rwZ 127)))) 110 YES (Sx.look []) 900 := by
  have hwN : IntKind.i64.wrap ((N : Int) + 130) = (N : Int) + 130 := wr64 (by omega)
  obtain ⟨f1, f2, f3, f4, f5, f6, f7, f8, f9⟩ := one_of hr
  refine runs_more baseE (More.of (setZ0_p0 t0 t1 t2 t3 t4 t5 c N A i hd tl) ⟨?oo, rfl, ?rr⟩) (by kernel_rfl) (by kernel_rfl) rfl (gtL (by decide)) (by decide) next
  case oo =>
    clear next
    refine (okc ?_ (okc ?_ (okc ?_ (okc ?_ (okc ?_ (okc ?_ (okc ?_ (okc ?_ okn))))))))
    all_goals ((try simp (disch := omega) only [SS, nmE, mF, hwN, tm2, Go.Sx.sum, f1, f2, f3, f4, f5, f6, f7]); first | done | omega | assumption | (simp (disch := omega) only [SS, nmE, mF, hwN, tm2, Go.Sx.sum, f1, f2, f3, f4, f5, f6, f7] at *; first | done | omega | assumption) | (simp_all; done) | grind)
  case rr =>
    clear next
    have hw : IntKind.i64.wrap ((i : Int) + 1) = ((i + 1 : Nat) : Int) := by rw [wr64 (by omega)]; rfl
    simp (disch := omega) only [SS, nmE, mF, hwN, tm2, Go.Sx.sum, f1, f2, f3, f4, f5, f6, f7, hw]
    repeat' apply And.intro
    all_goals first | trivial | rfl | omega | exact hw.symm | (intro k hk; rcases (by omega : k = 0 ∨ k = 1) with rfl | rfl <;> simp [mF, upd, *]; done) | (intros; first | trivial | rfl | (simp_all; done)) | (simp_all; done)

theorem sameZ1_p0 (t0 t1 t2 t3 t4 t5 : List UInt8) (c : Int) (N : Nat) (A : Ix → Int) (i : Nat) (hd tl : Int) :
    isMore (evTill Tryd.prog sumsE 400 (behind Tryd.f3 0) 900 3 (headOf Tryd.f3 0) (envAt Tryd.f3.ntmps (lcR c N i (qE 123) (qE 127))) (XR t0 t1 t2 t3 t4 t5 N A ++ (htE c hd false hd ++ (rwE 123 ++ rwE 127))) ⟨[.s true, .t, .s false, .s false, .s false, .s true, .f], 130⟩) (moreP (headOf Tryd.f3 0) ([]) Tryd.f3.ntmps (lcR c N (i + 1) (qE 123) (qE 127)) (htE c hd false hd ++ (rwE 123 ++ rwE 127)) 900) =
    (OkL [(decide ((↑i : Int) < IntKind.i64.wrap ((↑N : Int) + (130 : Int))), true), (decide ((↑i : Int) < (↑N : Int)), false), (decide (IntKind.i64.wrap ((-1 : Int) - (↑i : Int).tmod (2 : Int)) ≥ (0 : Int)), false), (IntKind.i64.wrap ((-1 : Int) - (↑i : Int).tmod (2 : Int)) == (-1 : Int), false), (decide (IntKind.i64.wrap ((-1 : Int) - (↑i : Int).tmod (2 : Int)) < (-1 : Int)), true)] ∧ headOf Tryd.f3 (0 : Nat) = headOf Tryd.f3 (0 : Nat) ∧ (c = c ∧ ((0 : Nat) = (0 : Nat) ∧ N = N) ∧ (0 : Nat) = (0 : Nat) ∧ (0 : Nat) = (0 : Nat) ∧ (([(1 : Nat)] = [(1 : Nat)] ∧ (0 : Nat) = (0 : Nat)) ∧ (0 : Nat) = (0 : Nat)) ∧ (([(1 : Nat)] = [(1 : Nat)] ∧ (0 : Nat) = (0 : Nat)) ∧ (0 : Nat) = (0 : Nat)) ∧ IntKind.i64.wrap ((↑N : Int) + (130 : Int)) = IntKind.i64.wrap ((↑N : Int) + (130 : Int)) ∧ (↑(i + (1 : Nat)) : Int) = IntKind.i64.wrap ((↑i : Int) + (1 : Int))) ∧ (hd = hd ∧ false = false) ∧ (hd = hd ∧ iand IntKind.i64 c (27 : Int) = iand IntKind.i64 c (27 : Int)) ∧ ((1 : Nat) = (1 : Nat) ∧ (∀ (i : Nat), i < (1 : Nat) → (0 : Nat) = (0 : Nat)) ∧ ∀ (i : Nat), i < (1 : Nat) → (2 : Nat) = (2 : Nat)) ∧ (1 : Nat) = (1 : Nat) ∧ (∀ (i : Nat), i < (1 : Nat) → (0 : Nat) = (0 : Nat)) ∧ ∀ (i : Nat), i < (1 : Nat) → (2 : Nat) = (2 : Nat)) := by kernel_rfl
theorem sameZ1_p1 (t0 t1 t2 t3 t4 t5 : List UInt8) (c : Int) (N : Nat) (A : Ix → Int) (i : Nat) (hd tl : Int) :
    isMore (evTill Tryd.prog sumsE 400 (behind Tryd.f3 0) 900 3 (headOf Tryd.f3 0) (envAt Tryd.f3.ntmps (lcR c N i (qE 123) (qE 127))) (XR t0 t1 t2 t3 t4 t5 N A ++ (htE c hd false hd ++ (rwE 123 ++ rwE 127))) ⟨[.s true, .t, .s false, .s false, .s true, .f, .s false], 130⟩) (moreP (headOf Tryd.f3 0) ([]) Tryd.f3.ntmps (lcR c N (i + 1) (qE 123) (qE 127)) (htE c hd false hd ++ (rwE 123 ++ rwE 127)) 900) =
    (OkL [(decide ((↑i : Int) < IntKind.i64.wrap ((↑N : Int) + (130 : Int))), true), (decide ((↑i : Int) < (↑N : Int)), false), (decide (IntKind.i64.wrap ((-1 : Int) - (↑i : Int).tmod (2 : Int)) ≥ (0 : Int)), false), (IntKind.i64.wrap ((-1 : Int) - (↑i : Int).tmod (2 : Int)) == (-1 : Int), true), (decide (IntKind.i64.wrap ((-1 : Int) - (↑i : Int).tmod (2 : Int)) < (-1 : Int)), false)] ∧ headOf Tryd.f3 (0 : Nat) = headOf Tryd.f3 (0 : Nat) ∧ (c = c ∧ ((0 : Nat) = (0 : Nat) ∧ N = N) ∧ (0 : Nat) = (0 : Nat) ∧ (0 : Nat) = (0 : Nat) ∧ (([(1 : Nat)] = [(1 : Nat)] ∧ (0 : Nat) = (0 : Nat)) ∧ (0 : Nat) = (0 : Nat)) ∧ (([(1 : Nat)] = [(1 : Nat)] ∧ (0 : Nat) = (0 : Nat)) ∧ (0 : Nat) = (0 : Nat)) ∧ IntKind.i64.wrap ((↑N : Int) + (130 : Int)) = IntKind.i64.wrap ((↑N : Int) + (130 : Int)) ∧ (↑(i + (1 : Nat)) : Int) = IntKind.i64.wrap ((↑i : Int) + (1 : Int))) ∧ (hd = hd ∧ false = false) ∧ (hd = hd ∧ iand IntKind.i64 c (27 : Int) = iand IntKind.i64 c (27 : Int)) ∧ ((1 : Nat) = (1 : Nat) ∧ (∀ (i : Nat), i < (1 : Nat) → (0 : Nat) = (0 : Nat)) ∧ ∀ (i : Nat), i < (1 : Nat) → (2 : Nat) = (2 : Nat)) ∧ (1 : Nat) = (1 : Nat) ∧ (∀ (i : Nat), i < (1 : Nat) → (0 : Nat) = (0 : Nat)) ∧ ∀ (i : Nat), i < (1 : Nat) → (2 : Nat) = (2 : Nat)) := by kernel_rfl
theorem sameZ1_p2 (t0 t1 t2 t3 t4 t5 : List UInt8) (c : Int) (N : Nat) (A : Ix → Int) (i : Nat) (hd tl : Int) :
    isMore (evTill Tryd.prog sumsE 400 (behind Tryd.f3 0) 900 3 (headOf Tryd.f3 0) (envAt Tryd.f3.ntmps (lcR c N i (qE 123) (qE 127))) (XR t0 t1 t2 t3 t4 t5 N A ++ (htE c hd false hd ++ (rwE 123 ++ rwE 127))) ⟨[.s true, .t, .s true, .s true, .s true, .s true, .s false, .s false, .s true, .f], 130⟩) (moreP (headOf Tryd.f3 0) ([]) Tryd.f3.ntmps (lcR c N (i + 1) (qE 123) (qE 127)) (htE c hd false hd ++ (rwE 123 ++ rwE 127)) 900) =
    (OkL [(decide ((↑i : Int) < IntKind.i64.wrap ((↑N : Int) + (130 : Int))), true), (decide ((↑i : Int) < (↑N : Int)), true), (decide ((0 : Int) ≤ (↑i : Int) ∧ (↑i : Int) < (↑N : Int)), true), (((0 : Nat) + (↑i : Int).toNat).blt N, true), (((0 : Nat) + (↑i : Int).toNat).blt N, true), (decide (A [(0 : Nat) + (↑i : Int).toNat] ≥ (0 : Int)), false), (A [(0 : Nat) + (↑i : Int).toNat] == (-1 : Int), false), (decide (A [(0 : Nat) + (↑i : Int).toNat] < (-1 : Int)), true)] ∧ headOf Tryd.f3 (0 : Nat) = headOf Tryd.f3 (0 : Nat) ∧ (c = c ∧ ((0 : Nat) = (0 : Nat) ∧ N = N) ∧ (0 : Nat) = (0 : Nat) ∧ (0 : Nat) = (0 : Nat) ∧ (([(1 : Nat)] = [(1 : Nat)] ∧ (0 : Nat) = (0 : Nat)) ∧ (0 : Nat) = (0 : Nat)) ∧ (([(1 : Nat)] = [(1 : Nat)] ∧ (0 : Nat) = (0 : Nat)) ∧ (0 : Nat) = (0 : Nat)) ∧ IntKind.i64.wrap ((↑N : Int) + (130 : Int)) = IntKind.i64.wrap ((↑N : Int) + (130 : Int)) ∧ (↑(i + (1 : Nat)) : Int) = IntKind.i64.wrap ((↑i : Int) + (1 : Int))) ∧ (hd = hd ∧ false = false) ∧ (hd = hd ∧ iand IntKind.i64 c (27 : Int) = iand IntKind.i64 c (27 : Int)) ∧ ((1 : Nat) = (1 : Nat) ∧ (∀ (i : Nat), i < (1 : Nat) → (0 : Nat) = (0 : Nat)) ∧ ∀ (i : Nat), i < (1 : Nat) → (2 : Nat) = (2 : Nat)) ∧ (1 : Nat) = (1 : Nat) ∧ (∀ (i : Nat), i < (1 : Nat) → (0 : Nat) = (0 : Nat)) ∧ ∀ (i : Nat), i < (1 : Nat) → (2 : Nat) = (2 : Nat)) := by kernel_rfl
theorem sameZ1_p3 (t0 t1 t2 t3 t4 t5 : List UInt8) (c : Int) (N : Nat) (A : Ix → Int) (i : Nat) (hd tl : Int) :
    isMore (evTill Tryd.prog sumsE 400 (behind Tryd.f3 0) 900 3 (headOf Tryd.f3 0) (envAt Tryd.f3.ntmps (lcR c N i (qE 123) (qE 127))) (XR t0 t1 t2 t3 t4 t5 N A ++ (htE c hd false hd ++ (rwE 123 ++ rwE 127))) ⟨[.s true, .t, .s true, .s true, .s true, .s true, .s false, .s true, .f, .s false], 130⟩) (moreP (headOf Tryd.f3 0) ([]) Tryd.f3.ntmps (lcR c N (i + 1) (qE 123) (qE 127)) (htE c hd false hd ++ (rwE 123 ++ rwE 127)) 900) =
    (OkL [(decide ((↑i : Int) < IntKind.i64.wrap ((↑N : Int) + (130 : Int))), true), (decide ((↑i : Int) < (↑N : Int)), true), (decide ((0 : Int) ≤ (↑i : Int) ∧ (↑i : Int) < (↑N : Int)), true), (((0 : Nat) + (↑i : Int).toNat).blt N, true), (((0 : Nat) + (↑i : Int).toNat).blt N, true), (decide (A [(0 : Nat) + (↑i : Int).toNat] ≥ (0 : Int)), false), (A [(0 : Nat) + (↑i : Int).toNat] == (-1 : Int), true), (decide (A [(0 : Nat) + (↑i : Int).toNat] < (-1 : Int)), false)] ∧ headOf Tryd.f3 (0 : Nat) = headOf Tryd.f3 (0 : Nat) ∧ (c = c ∧ ((0 : Nat) = (0 : Nat) ∧ N = N) ∧ (0 : Nat) = (0 : Nat) ∧ (0 : Nat) = (0 : Nat) ∧ (([(1 : Nat)] = [(1 : Nat)] ∧ (0 : Nat) = (0 : Nat)) ∧ (0 : Nat) = (0 : Nat)) ∧ (([(1 : Nat)] = [(1 : Nat)] ∧ (0 : Nat) = (0 : Nat)) ∧ (0 : Nat) = (0 : Nat)) ∧ IntKind.i64.wrap ((↑N : Int) + (130 : Int)) = IntKind.i64.wrap ((↑N : Int) + (130 : Int)) ∧ (↑(i + (1 : Nat)) : Int) = IntKind.i64.wrap ((↑i : Int) + (1 : Int))) ∧ (hd = hd ∧ false = false) ∧ (hd = hd ∧ iand IntKind.i64 c (27 : Int) = iand IntKind.i64 c (27 : Int)) ∧ ((1 : Nat) = (1 : Nat) ∧ (∀ (i : Nat), i < (1 : Nat) → (0 : Nat) = (0 : Nat)) ∧ ∀ (i : Nat), i < (1 : Nat) → (2 : Nat) = (2 : Nat)) ∧ (1 : Nat) = (1 : Nat) ∧ (∀ (i : Nat), i < (1 : Nat) → (0 : Nat) = (0 : Nat)) ∧ ∀ (i : Nat), i < (1 : Nat) → (2 : Nat) = (2 : Nat)) := by kernel_rfl
theorem sameZ1_p4 (t0 t1 t2 t3 t4 t5 : List UInt8) (c : Int) (N : Nat) (A : Ix → Int) (i : Nat) (hd tl : Int) :
    isMore (evTill Tryd.prog sumsE 400 (behind Tryd.f3 0) 900 3 (headOf Tryd.f3 0) (envAt Tryd.f3.ntmps (lcR c N i (qE 123) (qE 127))) (XR t0 t1 t2 t3 t4 t5 N A ++ (htE c hd false hd ++ (rwE 123 ++ rwE 127))) ⟨[.s true, .t, .s true, .s true, .s true, .s true, .s true, .t, .s false, .f, .s true, .f], 130⟩) (moreP (headOf Tryd.f3 0) ([]) Tryd.f3.ntmps (lcR c N (i + 1) (qE 123) (qE 127)) (htE c hd false hd ++ (rwE 123 ++ rwE 127)) 900) =
    (OkL [(decide ((↑i : Int) < IntKind.i64.wrap ((↑N : Int) + (130 : Int))), true), (decide ((↑i : Int) < (↑N : Int)), true), (decide ((0 : Int) ≤ (↑i : Int) ∧ (↑i : Int) < (↑N : Int)), true), (((0 : Nat) + (↑i : Int).toNat).blt N, true), (((0 : Nat) + (↑i : Int).toNat).blt N, true), (decide (A [(0 : Nat) + (↑i : Int).toNat] ≥ (0 : Int)), true), (!rightC (A [(0 : Nat) + (↑i : Int).toNat]), false), (A [(0 : Nat) + (↑i : Int).toNat] == hd, true)] ∧ headOf Tryd.f3 (0 : Nat) = headOf Tryd.f3 (0 : Nat) ∧ (c = c ∧ ((0 : Nat) = (0 : Nat) ∧ N = N) ∧ (0 : Nat) = (0 : Nat) ∧ (0 : Nat) = (0 : Nat) ∧ (([(1 : Nat)] = [(1 : Nat)] ∧ (0 : Nat) = (0 : Nat)) ∧ (0 : Nat) = (0 : Nat)) ∧ (([(1 : Nat)] = [(1 : Nat)] ∧ (0 : Nat) = (0 : Nat)) ∧ (0 : Nat) = (0 : Nat)) ∧ IntKind.i64.wrap ((↑N : Int) + (130 : Int)) = IntKind.i64.wrap ((↑N : Int) + (130 : Int)) ∧ (↑(i + (1 : Nat)) : Int) = IntKind.i64.wrap ((↑i : Int) + (1 : Int))) ∧ (hd = hd ∧ false = false) ∧ (hd = hd ∧ iand IntKind.i64 c (27 : Int) = iand IntKind.i64 c (27 : Int)) ∧ ((1 : Nat) = (1 : Nat) ∧ (∀ (i : Nat), i < (1 : Nat) → (0 : Nat) = (0 : Nat)) ∧ ∀ (i : Nat), i < (1 : Nat) → (2 : Nat) = (2 : Nat)) ∧ (1 : Nat) = (1 : Nat) ∧ (∀ (i : Nat), i < (1 : Nat) → (0 : Nat) = (0 : Nat)) ∧ ∀ (i : Nat), i < (1 : Nat) → (2 : Nat) = (2 : Nat)) := by kernel_rfl
theorem sameZ1_p5 (t0 t1 t2 t3 t4 t5 : List UInt8) (c : Int) (N : Nat) (A : Ix → Int) (i : Nat) (hd tl : Int) :
    isMore (evTill Tryd.prog sumsE 400 (behind Tryd.f3 0) 900 3 (headOf Tryd.f3 0) (envAt Tryd.f3.ntmps (lcR c N i (qE 123) (qE 127))) (XR t0 t1 t2 t3 t4 t5 N A ++ (htE c hd false hd ++ (rwE 123 ++ rwE 127))) ⟨[.s true, .t, .s true, .s true, .s true, .s true, .s true, .t, .s true, .f], 130⟩) (moreP (headOf Tryd.f3 0) ([]) Tryd.f3.ntmps (lcR c N (i + 1) (qE 123) (qE 127)) (htE c hd false hd ++ (rwE 123 ++ rwE 127)) 900) =
    (OkL [(decide ((↑i : Int) < IntKind.i64.wrap ((↑N : Int) + (130 : Int))), true), (decide ((↑i : Int) < (↑N : Int)), true), (decide ((0 : Int) ≤ (↑i : Int) ∧ (↑i : Int) < (↑N : Int)), true), (((0 : Nat) + (↑i : Int).toNat).blt N, true), (((0 : Nat) + (↑i : Int).toNat).blt N, true), (decide (A [(0 : Nat) + (↑i : Int).toNat] ≥ (0 : Int)), true), (!rightC (A [(0 : Nat) + (↑i : Int).toNat]), true)] ∧ headOf Tryd.f3 (0 : Nat) = headOf Tryd.f3 (0 : Nat) ∧ (c = c ∧ ((0 : Nat) = (0 : Nat) ∧ N = N) ∧ (0 : Nat) = (0 : Nat) ∧ (0 : Nat) = (0 : Nat) ∧ (([(1 : Nat)] = [(1 : Nat)] ∧ (0 : Nat) = (0 : Nat)) ∧ (0 : Nat) = (0 : Nat)) ∧ (([(1 : Nat)] = [(1 : Nat)] ∧ (0 : Nat) = (0 : Nat)) ∧ (0 : Nat) = (0 : Nat)) ∧ IntKind.i64.wrap ((↑N : Int) + (130 : Int)) = IntKind.i64.wrap ((↑N : Int) + (130 : Int)) ∧ (↑(i + (1 : Nat)) : Int) = IntKind.i64.wrap ((↑i : Int) + (1 : Int))) ∧ (hd = hd ∧ false = false) ∧ (hd = hd ∧ iand IntKind.i64 c (27 : Int) = iand IntKind.i64 c (27 : Int)) ∧ ((1 : Nat) = (1 : Nat) ∧ (∀ (i : Nat), i < (1 : Nat) → (0 : Nat) = (0 : Nat)) ∧ ∀ (i : Nat), i < (1 : Nat) → (2 : Nat) = (2 : Nat)) ∧ (1 : Nat) = (1 : Nat) ∧ (∀ (i : Nat), i < (1 : Nat) → (0 : Nat) = (0 : Nat)) ∧ ∀ (i : Nat), i < (1 : Nat) → (2 : Nat) = (2 : Nat)) := by kernel_rfl

set_option maxHeartbeats 4000000 in
theorem sameZ1 (t0 t1 t2 t3 t4 t5 : List UInt8) (c : Int) (N : Nat) (A : Ix → Int) (i : Nat) (hd tl : Int) (hi : i < N + 130) (hN : N ≤ 60) (hA : i < N → -9223372036854775808 ≤ A [i] ∧ A [i] < 9223372036854775808) (ha : i < N → (A [i] < 0 ∨ rightR (A [i]) = false ∨ A [i] = hd)) (next : RunsTo Tryd.prog 3 (headOf Tryd.f3 0) (envAt Tryd.f3.ntmps (lcR c N (i + 1) (qE 123) (qE 127))) (Sx.look (XR t0 t1 t2 t3 t4 t5 N A ++ (htE c hd false hd ++ (rwE 123 ++ rwE 127)))) 110 YES (Sx.look []) 900) :
    RunsTo Tryd.prog 3 (headOf Tryd.f3 0) (envAt Tryd.f3.ntmps (lcR c N i (qE 123) (qE 127))) (Sx.look (XR t0 t1 t2 t3 t4 t5 N A ++ (htE c hd false hd ++ (rwE 123 ++ rwE 127)))) 110 YES (Sx.look []) 900 := by
  have hwN : IntKind.i64.wrap ((N : Int) + 130) = (N : Int) + 130 := wr64 (by omega)
  have hre : i < N → rightC (A [i]) = rightR (A [i]) := fun h => right_eq (hA h).1 (hA h).2
  have ha' : i < N → (A [i] < 0 ∨ rightC (A [i]) = false ∨ A [i] = hd) := fun h => by rw [hre h]; exact ha h
  refine bcase (c := (decide ((↑i : Int) < (↑N : Int)))) (fun gg0 => ?_) (fun gg0 => ?_)
  · refine bcase (c := (IntKind.i64.wrap ((-1 : Int) - (↑i : Int).tmod (2 : Int)) == (-1 : Int))) (fun gg1 => ?_) (fun gg1 => ?_)
    · refine runs_more baseE (More.of (sameZ1_p0 t0 t1 t2 t3 t4 t5 c N A i hd tl) ⟨?oo, rfl, ?rr⟩) (by kernel_rfl) (by kernel_rfl) rfl (gtL (by decide)) (by decide) next
      case oo =>
        clear next
        refine (okc ?_ (okc gg0 (okc ?_ (okc gg1 (okc ?_ okn)))))
        all_goals ((try simp (disch := omega) only [SS, nmE, mF, hwN, tm2, Go.Sx.sum]); first | done | omega | assumption | (simp (disch := omega) only [SS, nmE, mF, hwN, tm2, Go.Sx.sum] at *; first | done | omega | assumption) | (simp_all; done) | grind)
      case rr =>
        clear next
        have hw : IntKind.i64.wrap ((i : Int) + 1) = ((i + 1 : Nat) : Int) := by rw [wr64 (by omega)]; rfl
        simp (disch := omega) only [SS, nmE, mF, hwN, tm2, Go.Sx.sum, hw]
        repeat' apply And.intro
        all_goals first | trivial | rfl | omega | exact hw.symm | (intro k hk; rcases (by omega : k = 0 ∨ k = 1) with rfl | rfl <;> simp [mF, upd, *]; done) | (intros; first | trivial | rfl | (simp_all; done)) | (simp_all; done)
    · refine runs_more baseE (More.of (sameZ1_p1 t0 t1 t2 t3 t4 t5 c N A i hd tl) ⟨?oo, rfl, ?rr⟩) (by kernel_rfl) (by kernel_rfl) rfl (gtL (by decide)) (by decide) next
      case oo =>
        clear next
        refine (okc ?_ (okc gg0 (okc ?_ (okc gg1 (okc ?_ okn)))))
        all_goals ((try simp (disch := omega) only [SS, nmE, mF, hwN, tm2, Go.Sx.sum]); first | done | omega | assumption | (simp (disch := omega) only [SS, nmE, mF, hwN, tm2, Go.Sx.sum] at *; first | done | omega | assumption) | (simp_all; done) | grind)
      case rr =>
        clear next
        have hw : IntKind.i64.wrap ((i : Int) + 1) = ((i + 1 : Nat) : Int) := by rw [wr64 (by omega)]; rfl
        simp (disch := omega) only [SS, nmE, mF, hwN, tm2, Go.Sx.sum, hw]
        repeat' apply And.intro
        all_goals first | trivial | rfl | omega | exact hw.symm | (intro k hk; rcases (by omega : k = 0 ∨ k = 1) with rfl | rfl <;> simp [mF, upd, *]; done) | (intros; first | trivial | rfl | (simp_all; done)) | (simp_all; done)
  · refine bcase (c := (decide (A [(0 : Nat) + (↑i : Int).toNat] ≥ (0 : Int)))) (fun gg1 => ?_) (fun gg1 => ?_)
    · refine bcase (c := (A [(0 : Nat) + (↑i : Int).toNat] == (-1 : Int))) (fun gg2 => ?_) (fun gg2 => ?_)
      · refine runs_more baseE (More.of (sameZ1_p2 t0 t1 t2 t3 t4 t5 c N A i hd tl) ⟨?oo, rfl, ?rr⟩) (by kernel_rfl) (by kernel_rfl) rfl (gtL (by decide)) (by decide) next
        case oo =>
          clear next
          refine (okc ?_ (okc gg0 (okc ?_ (okc ?_ (okc ?_ (okc gg1 (okc gg2 (okc ?_ okn))))))))
          all_goals ((try simp (disch := omega) only [SS, nmE, mF, hwN, tm2, Go.Sx.sum]); first | done | omega | assumption | (simp (disch := omega) only [SS, nmE, mF, hwN, tm2, Go.Sx.sum] at *; first | done | omega | assumption) | (simp_all; done) | grind)
        case rr =>
          clear next
          have hw : IntKind.i64.wrap ((i : Int) + 1) = ((i + 1 : Nat) : Int) := by rw [wr64 (by omega)]; rfl
          simp (disch := omega) only [SS, nmE, mF, hwN, tm2, Go.Sx.sum, hw]
          repeat' apply And.intro
          all_goals first | trivial | rfl | omega | exact hw.symm | (intro k hk; rcases (by omega : k = 0 ∨ k = 1) with rfl | rfl <;> simp [mF, upd, *]; done) | (intros; first | trivial | rfl | (simp_all; done)) | (simp_all; done)
      · refine runs_more baseE (More.of (sameZ1_p3 t0 t1 t2 t3 t4 t5 c N A i hd tl) ⟨?oo, rfl, ?rr⟩) (by kernel_rfl) (by kernel_rfl) rfl (gtL (by decide)) (by decide) next
        case oo =>
          clear next
          refine (okc ?_ (okc gg0 (okc ?_ (okc ?_ (okc ?_ (okc gg1 (okc gg2 (okc ?_ okn))))))))
          all_goals ((try simp (disch := omega) only [SS, nmE, mF, hwN, tm2, Go.Sx.sum]); first | done | omega | assumption | (simp (disch := omega) only [SS, nmE, mF, hwN, tm2, Go.Sx.sum] at *; first | done | omega | assumption) | (simp_all; done) | grind)
        case rr =>
          clear next
          have hw : IntKind.i64.wrap ((i : Int) + 1) = ((i + 1 : Nat) : Int) := by rw [wr64 (by omega)]; rfl
          simp (disch := omega) only [SS, nmE, mF, hwN, tm2, Go.Sx.sum, hw]
          repeat' apply And.intro
          all_goals first | trivial | rfl | omega | exact hw.symm | (intro k hk; rcases (by omega : k = 0 ∨ k = 1) with rfl | rfl <;> simp [mF, upd, *]; done) | (intros; first | trivial | rfl | (simp_all; done)) | (simp_all; done)
    · refine bcase (c := (!rightC (A [(0 : Nat) + (↑i : Int).toNat]))) (fun gg2 => ?_) (fun gg2 => ?_)
      · refine runs_more baseE (More.of (sameZ1_p4 t0 t1 t2 t3 t4 t5 c N A i hd tl) ⟨?oo, rfl, ?rr⟩) (by kernel_rfl) (by kernel_rfl) rfl (gtL (by decide)) (by decide) next
        case oo =>
          clear next
          refine (okc ?_ (okc gg0 (okc ?_ (okc ?_ (okc ?_ (okc gg1 (okc gg2 (okc ?_ okn))))))))
          all_goals ((try simp (disch := omega) only [SS, nmE, mF, hwN, tm2, Go.Sx.sum]); first | done | omega | assumption | (simp (disch := omega) only [SS, nmE, mF, hwN, tm2, Go.Sx.sum] at *; first | done | omega | assumption) | (simp_all; done) | grind)
        case rr =>
          clear next
          have hw : IntKind.i64.wrap ((i : Int) + 1) = ((i + 1 : Nat) : Int) := by rw [wr64 (by omega)]; rfl
          simp (disch := omega) only [SS, nmE, mF, hwN, tm2, Go.Sx.sum, hw]
          repeat' apply And.intro
          all_goals first | trivial | rfl | omega | exact hw.symm | (intro k hk; rcases (by omega : k = 0 ∨ k = 1) with rfl | rfl <;> simp [mF, upd, *]; done) | (intros; first | trivial | rfl | (simp_all; done)) | (simp_all; done)
      · refine runs_more baseE (More.of (sameZ1_p5 t0 t1 t2 t3 t4 t5 c N A i hd tl) ⟨?oo, rfl, ?rr⟩) (by kernel_rfl) (by kernel_rfl) rfl (gtL (by decide)) (by decide) next
        case oo =>
          clear next
          refine (okc ?_ (okc gg0 (okc ?_ (okc ?_ (okc ?_ (okc gg1 (okc gg2 okn)))))))
          all_goals ((try simp (disch := omega) only [SS, nmE, mF, hwN, tm2, Go.Sx.sum]); first | done | omega | assumption | (simp (disch := omega) only [SS, nmE, mF, hwN, tm2, Go.Sx.sum] at *; first | done | omega | assumption) | (simp_all; done) | grind)
        case rr =>
          clear next
          have hw : IntKind.i64.wrap ((i : Int) + 1) = ((i + 1 : Nat) : Int) := by rw [wr64 (by omega)]; rfl
          simp (disch := omega) only [SS, nmE, mF, hwN, tm2, Go.Sx.sum, hw]
          repeat' apply And.intro
          all_goals first | trivial | rfl | omega | exact hw.symm | (intro k hk; rcases (by omega : k = 0 ∨ k = 1) with rfl | rfl <;> simp [mF, upd, *]; done) | (intros; first | trivial | rfl | (simp_all; done)) | (simp_all; done)

theorem setZ1_p0 (t0 t1 t2 t3 t4 t5 : List UInt8) (c : Int) (N : Nat) (A : Ix → Int) (i : Nat) (hd tl : Int) :
    isMore (evTill Tryd.prog sumsE 400 (behind Tryd.f3 0) 900 3 (headOf Tryd.f3 0) (envAt Tryd.f3.ntmps (lcR c N i (qE 123) (qE 127))) (XR t0 t1 t2 t3 t4 t5 N A ++ (htE c hd false hd ++ (rwE 123 ++ rwE 127))) ⟨[.s true, .t, .s true, .s true, .s true, .s true, .s true, .t, .s false, .f, .s false, .t, .t, .t, .t, .t], 130⟩) (moreP (headOf Tryd.f3 0) ([((123 : Nat), Rn.to (142 : Nat)), ((125 : Nat), Rn.to (140 : Nat))]) Tryd.f3.ntmps (lcR c N (i + 1) (q1 123) (qE 127)) (htE c (A [i]) true hd ++ (rwE 123 ++ (msE 125 (A [i]) ++ rwE 127))) 900) =
    (OkL [(decide ((↑i : Int) < IntKind.i64.wrap ((↑N : Int) + (130 : Int))), true), (decide ((↑i : Int) < (↑N : Int)), true), (decide ((0 : Int) ≤ (↑i : Int) ∧ (↑i : Int) < (↑N : Int)), true), (((0 : Nat) + (↑i : Int).toNat).blt N, true), (((0 : Nat) + (↑i : Int).toNat).blt N, true), (decide (A [(0 : Nat) + (↑i : Int).toNat] ≥ (0 : Int)), true), (!rightC (A [(0 : Nat) + (↑i : Int).toNat]), false), (A [(0 : Nat) + (↑i : Int).toNat] == hd, false)] ∧ headOf Tryd.f3 (0 : Nat) = headOf Tryd.f3 (0 : Nat) ∧ (c = c ∧ ((0 : Nat) = (0 : Nat) ∧ N = N) ∧ (0 : Nat) = (0 : Nat) ∧ (0 : Nat) = (0 : Nat) ∧ ((0 : Nat) = (0 : Nat) ∧ (1 : Nat) = (1 : Nat)) ∧ (([(1 : Nat)] = [(1 : Nat)] ∧ (0 : Nat) = (0 : Nat)) ∧ (0 : Nat) = (0 : Nat)) ∧ IntKind.i64.wrap ((↑N : Int) + (130 : Int)) = IntKind.i64.wrap ((↑N : Int) + (130 : Int)) ∧ (↑(i + (1 : Nat)) : Int) = IntKind.i64.wrap ((↑i : Int) + (1 : Int))) ∧ (A [i] = A [(0 : Nat) + (↑i : Int).toNat] ∧ true = true) ∧ (hd = hd ∧ iand IntKind.i64 c (27 : Int) = iand IntKind.i64 c (27 : Int)) ∧ ((1 : Nat) = (1 : Nat) ∧ (∀ (i : Nat), i < (1 : Nat) → (0 : Nat) = (0 : Nat)) ∧ ∀ (i : Nat), i < (1 : Nat) → (2 : Nat) = (2 : Nat)) ∧ ((2 : Nat) = (2 : Nat) ∧ ∀ (i_1 : Nat), i_1 < (2 : Nat) → mF (A [i]) [i_1] = upd (upd (fun is => (0 : Int)) [(0 : Nat)] (1 : Int)) [(1 : Nat)] (IntKind.u8.wrap (A [(0 : Nat) + (↑i : Int).toNat])) [i_1]) ∧ (1 : Nat) = (1 : Nat) ∧ (∀ (i : Nat), i < (1 : Nat) → (0 : Nat) = (0 : Nat)) ∧ ∀ (i : Nat), i < (1 : Nat) → (2 : Nat) = (2 : Nat)) := by kernel_rfl

set_option maxHeartbeats 4000000 in
theorem setZ1 (t0 t1 t2 t3 t4 t5 : List UInt8) (c : Int) (N : Nat) (A : Ix → Int) (i : Nat) (hd tl : Int) (hi : i < N + 130) (hN : N ≤ 60) (hA : i < N → -9223372036854775808 ≤ A [i] ∧ A [i] < 9223372036854775808) (hiN : i < N) (hr : rightR (A [i]) = true) (hne : A [i] ≠ hd) (next : RunsTo Tryd.prog 3 (headOf Tryd.f3 0) (envAt Tryd.f3.ntmps (lcR c N (i + 1) (q1 123) (qE 127))) (Sx.look (XR t0 t1 t2 t3 t4 t5 N A ++ (htE c (A [i]) true hd ++ (rwE 123 ++ (msE 125 (A [i]) ++ rwE 127))))) 110 YES (Sx.look []) 900) :
    RunsTo Tryd.prog 3 (headOf Tryd.f3 0) (envAt Tryd.f3.ntmps (lcR c N i (qE 123) (qE 127))) (Sx.look (XR t0 t1 t2 t3 t4 t5 N A ++ (htE c hd false hd ++ (rwE 123 ++ rwE 127)))) 110 YES (Sx.look []) 900 := by
  have hwN : IntKind.i64.wrap ((N : Int) + 130) = (N : Int) + 130 := wr64 (by omega)
  obtain ⟨f1, f2, f3, f4, f5, f6, f7, f8, f9⟩ := one_of hr
  refine runs_more baseE (More.of (setZ1_p0 t0 t1 t2 t3 t4 t5 c N A i hd tl) ⟨?oo, rfl, ?rr⟩) (by kernel_rfl) (by kernel_rfl) rfl (gtL (by decide)) (by decide) next
  case oo =>
    clear next
    refine (okc ?_ (okc ?_ (okc ?_ (okc ?_ (okc ?_ (okc ?_ (okc ?_ (okc ?_ okn))))))))
    all_goals ((try simp (disch := omega) only [SS, nmE, mF, hwN, tm2, Go.Sx.sum, f1, f2, f3, f4, f5, f6, f7]); first | done | omega | assumption | (simp (disch := omega) only [SS, nmE, mF, hwN, tm2, Go.Sx.sum, f1, f2, f3, f4, f5, f6, f7] at *; first | done | omega | assumption) | (simp_all; done) | grind)
  case rr =>
    clear next
    have hw : IntKind.i64.wrap ((i : Int) + 1) = ((i + 1 : Nat) : Int) := by rw [wr64 (by omega)]; rfl
    simp (disch := omega) only [SS, nmE, mF, hwN, tm2, Go.Sx.sum, f1, f2, f3, f4, f5, f6, f7, hw]
    repeat' apply And.intro
    all_goals first | trivial | rfl | omega | exact hw.symm | (intro k hk; rcases (by omega : k = 0 ∨ k = 1) with rfl | rfl <;> simp [mF, upd, *]; done) | (intros; first | trivial | rfl | (simp_all; done)) | (simp_all; done)

theorem sameW1a_p0 (t0 t1 t2 t3 t4 t5 : List UInt8) (c : Int) (N : Nat) (A : Ix → Int) (i : Nat) (hd tl : Int) :
    isMore (evTill Tryd.prog sumsE 400 (behind Tryd.f3 0) 900 3 (headOf Tryd.f3 0) (envAt Tryd.f3.ntmps (lcR c N i (q1 123) (qZ 127))) (XR t0 t1 t2 t3 t4 t5 N A ++ (htE c hd true tl ++ (rwE 123 ++ (msE 125 hd ++ rwZ 127)))) ⟨[.s true, .t, .s false, .s false, .s false, .s true, .f], 130⟩) (moreP (headOf Tryd.f3 0) ([]) Tryd.f3.ntmps (lcR c N (i + 1) (q1 123) (qZ 127)) (htE c hd true tl ++ (rwE 123 ++ (msE 125 hd ++ rwZ 127))) 900) =
    (OkL [(decide ((↑i : Int) < IntKind.i64.wrap ((↑N : Int) + (130 : Int))), true), (decide ((↑i : Int) < (↑N : Int)), false), (decide (IntKind.i64.wrap ((-1 : Int) - (↑i : Int).tmod (2 : Int)) ≥ (0 : Int)), false), (IntKind.i64.wrap ((-1 : Int) - (↑i : Int).tmod (2 : Int)) == (-1 : Int), false), (decide (IntKind.i64.wrap ((-1 : Int) - (↑i : Int).tmod (2 : Int)) < (-1 : Int)), true)] ∧ headOf Tryd.f3 (0 : Nat) = headOf Tryd.f3 (0 : Nat) ∧ (c = c ∧ ((0 : Nat) = (0 : Nat) ∧ N = N) ∧ (0 : Nat) = (0 : Nat) ∧ (0 : Nat) = (0 : Nat) ∧ ((0 : Nat) = (0 : Nat) ∧ (1 : Nat) = (1 : Nat)) ∧ ((0 : Nat) = (0 : Nat) ∧ (0 : Nat) = (0 : Nat)) ∧ IntKind.i64.wrap ((↑N : Int) + (130 : Int)) = IntKind.i64.wrap ((↑N : Int) + (130 : Int)) ∧ (↑(i + (1 : Nat)) : Int) = IntKind.i64.wrap ((↑i : Int) + (1 : Int))) ∧ (hd = hd ∧ true = true) ∧ (tl = tl ∧ iand IntKind.i64 c (27 : Int) = iand IntKind.i64 c (27 : Int)) ∧ ((1 : Nat) = (1 : Nat) ∧ (∀ (i : Nat), i < (1 : Nat) → (0 : Nat) = (0 : Nat)) ∧ ∀ (i : Nat), i < (1 : Nat) → (2 : Nat) = (2 : Nat)) ∧ ((2 : Nat) = (2 : Nat) ∧ ∀ (i : Nat), i < (2 : Nat) → mF hd [i] = mF hd [i]) ∧ (0 : Nat) = (0 : Nat) ∧ True) := by kernel_rfl
theorem sameW1a_p1 (t0 t1 t2 t3 t4 t5 : List UInt8) (c : Int) (N : Nat) (A : Ix → Int) (i : Nat) (hd tl : Int) :
    isMore (evTill Tryd.prog sumsE 400 (behind Tryd.f3 0) 900 3 (headOf Tryd.f3 0) (envAt Tryd.f3.ntmps (lcR c N i (q1 123) (qZ 127))) (XR t0 t1 t2 t3 t4 t5 N A ++ (htE c hd true tl ++ (rwE 123 ++ (msE 125 hd ++ rwZ 127)))) ⟨[.s true, .t, .s true, .s true, .s true, .s true, .s false, .s false, .s true, .f], 130⟩) (moreP (headOf Tryd.f3 0) ([]) Tryd.f3.ntmps (lcR c N (i + 1) (q1 123) (qZ 127)) (htE c hd true tl ++ (rwE 123 ++ (msE 125 hd ++ rwZ 127))) 900) =
    (OkL [(decide ((↑i : Int) < IntKind.i64.wrap ((↑N : Int) + (130 : Int))), true), (decide ((↑i : Int) < (↑N : Int)), true), (decide ((0 : Int) ≤ (↑i : Int) ∧ (↑i : Int) < (↑N : Int)), true), (((0 : Nat) + (↑i : Int).toNat).blt N, true), (((0 : Nat) + (↑i : Int).toNat).blt N, true), (decide (A [(0 : Nat) + (↑i : Int).toNat] ≥ (0 : Int)), false), (A [(0 : Nat) + (↑i : Int).toNat] == (-1 : Int), false), (decide (A [(0 : Nat) + (↑i : Int).toNat] < (-1 : Int)), true)] ∧ headOf Tryd.f3 (0 : Nat) = headOf Tryd.f3 (0 : Nat) ∧ (c = c ∧ ((0 : Nat) = (0 : Nat) ∧ N = N) ∧ (0 : Nat) = (0 : Nat) ∧ (0 : Nat) = (0 : Nat) ∧ ((0 : Nat) = (0 : Nat) ∧ (1 : Nat) = (1 : Nat)) ∧ ((0 : Nat) = (0 : Nat) ∧ (0 : Nat) = (0 : Nat)) ∧ IntKind.i64.wrap ((↑N : Int) + (130 : Int)) = IntKind.i64.wrap ((↑N : Int) + (130 : Int)) ∧ (↑(i + (1 : Nat)) : Int) = IntKind.i64.wrap ((↑i : Int) + (1 : Int))) ∧ (hd = hd ∧ true = true) ∧ (tl = tl ∧ iand IntKind.i64 c (27 : Int) = iand IntKind.i64 c (27 : Int)) ∧ ((1 : Nat) = (1 : Nat) ∧ (∀ (i : Nat), i < (1 : Nat) → (0 : Nat) = (0 : Nat)) ∧ ∀ (i : Nat), i < (1 : Nat) → (2 : Nat) = (2 : Nat)) ∧ ((2 : Nat) = (2 : Nat) ∧ ∀ (i : Nat), i < (2 : Nat) → mF hd [i] = mF hd [i]) ∧ (0 : Nat) = (0 : Nat) ∧ True) := by kernel_rfl
theorem sameW1a_p2 (t0 t1 t2 t3 t4 t5 : List UInt8) (c : Int) (N : Nat) (A : Ix → Int) (i : Nat) (hd tl : Int) :
    isMore (evTill Tryd.prog sumsE 400 (behind Tryd.f3 0) 900 3 (headOf Tryd.f3 0) (envAt Tryd.f3.ntmps (lcR c N i (q1 123) (qZ 127))) (XR t0 t1 t2 t3 t4 t5 N A ++ (htE c hd true tl ++ (rwE 123 ++ (msE 125 hd ++ rwZ 127)))) ⟨[.s true, .t, .s true, .s true, .s true, .s true, .s true, .t, .s false, .t, .f], 130⟩) (moreP (headOf Tryd.f3 0) ([]) Tryd.f3.ntmps (lcR c N (i + 1) (q1 123) (qZ 127)) (htE c hd true tl ++ (rwE 123 ++ (msE 125 hd ++ rwZ 127))) 900) =
    (OkL [(decide ((↑i : Int) < IntKind.i64.wrap ((↑N : Int) + (130 : Int))), true), (decide ((↑i : Int) < (↑N : Int)), true), (decide ((0 : Int) ≤ (↑i : Int) ∧ (↑i : Int) < (↑N : Int)), true), (((0 : Nat) + (↑i : Int).toNat).blt N, true), (((0 : Nat) + (↑i : Int).toNat).blt N, true), (decide (A [(0 : Nat) + (↑i : Int).toNat] ≥ (0 : Int)), true), (!rightC (A [(0 : Nat) + (↑i : Int).toNat]), false)] ∧ headOf Tryd.f3 (0 : Nat) = headOf Tryd.f3 (0 : Nat) ∧ (c = c ∧ ((0 : Nat) = (0 : Nat) ∧ N = N) ∧ (0 : Nat) = (0 : Nat) ∧ (0 : Nat) = (0 : Nat) ∧ ((0 : Nat) = (0 : Nat) ∧ (1 : Nat) = (1 : Nat)) ∧ ((0 : Nat) = (0 : Nat) ∧ (0 : Nat) = (0 : Nat)) ∧ IntKind.i64.wrap ((↑N : Int) + (130 : Int)) = IntKind.i64.wrap ((↑N : Int) + (130 : Int)) ∧ (↑(i + (1 : Nat)) : Int) = IntKind.i64.wrap ((↑i : Int) + (1 : Int))) ∧ (hd = hd ∧ true = true) ∧ (tl = tl ∧ iand IntKind.i64 c (27 : Int) = iand IntKind.i64 c (27 : Int)) ∧ ((1 : Nat) = (1 : Nat) ∧ (∀ (i : Nat), i < (1 : Nat) → (0 : Nat) = (0 : Nat)) ∧ ∀ (i : Nat), i < (1 : Nat) → (2 : Nat) = (2 : Nat)) ∧ ((2 : Nat) = (2 : Nat) ∧ ∀ (i : Nat), i < (2 : Nat) → mF hd [i] = mF hd [i]) ∧ (0 : Nat) = (0 : Nat) ∧ True) := by kernel_rfl
theorem sameW1a_p3 (t0 t1 t2 t3 t4 t5 : List UInt8) (c : Int) (N : Nat) (A : Ix → Int) (i : Nat) (hd tl : Int) :
    isMore (evTill Tryd.prog sumsE 400 (behind Tryd.f3 0) 900 3 (headOf Tryd.f3 0) (envAt Tryd.f3.ntmps (lcR c N i (q1 123) (qZ 127))) (XR t0 t1 t2 t3 t4 t5 N A ++ (htE c hd true tl ++ (rwE 123 ++ (msE 125 hd ++ rwZ 127)))) ⟨[.s true, .t, .s true, .s true, .s true, .s true, .s true, .t, .s true, .f], 130⟩) (moreP (headOf Tryd.f3 0) ([]) Tryd.f3.ntmps (lcR c N (i + 1) (q1 123) (qZ 127)) (htE c hd true tl ++ (rwE 123 ++ (msE 125 hd ++ rwZ 127))) 900) =
    (OkL [(decide ((↑i : Int) < IntKind.i64.wrap ((↑N : Int) + (130 : Int))), true), (decide ((↑i : Int) < (↑N : Int)), true), (decide ((0 : Int) ≤ (↑i : Int) ∧ (↑i : Int) < (↑N : Int)), true), (((0 : Nat) + (↑i : Int).toNat).blt N, true), (((0 : Nat) + (↑i : Int).toNat).blt N, true), (decide (A [(0 : Nat) + (↑i : Int).toNat] ≥ (0 : Int)), true), (!rightC (A [(0 : Nat) + (↑i : Int).toNat]), true)] ∧ headOf Tryd.f3 (0 : Nat) = headOf Tryd.f3 (0 : Nat) ∧ (c = c ∧ ((0 : Nat) = (0 : Nat) ∧ N = N) ∧ (0 : Nat) = (0 : Nat) ∧ (0 : Nat) = (0 : Nat) ∧ ((0 : Nat) = (0 : Nat) ∧ (1 : Nat) = (1 : Nat)) ∧ ((0 : Nat) = (0 : Nat) ∧ (0 : Nat) = (0 : Nat)) ∧ IntKind.i64.wrap ((↑N : Int) + (130 : Int)) = IntKind.i64.wrap ((↑N : Int) + (130 : Int)) ∧ (↑(i + (1 : Nat)) : Int) = IntKind.i64.wrap ((↑i : Int) + (1 : Int))) ∧ (hd = hd ∧ true = true) ∧ (tl = tl ∧ iand IntKind.i64 c (27 : Int) = iand IntKind.i64 c (27 : Int)) ∧ ((1 : Nat) = (1 : Nat) ∧ (∀ (i : Nat), i < (1 : Nat) → (0 : Nat) = (0 : Nat)) ∧ ∀ (i : Nat), i < (1 : Nat) → (2 : Nat) = (2 : Nat)) ∧ ((2 : Nat) = (2 : Nat) ∧ ∀ (i : Nat), i < (2 : Nat) → mF hd [i] = mF hd [i]) ∧ (0 : Nat) = (0 : Nat) ∧ True) := by kernel_rfl

set_option maxHeartbeats 4000000 in
theorem sameW1a (t0 t1 t2 t3 t4 t5 : List UInt8) (c : Int) (N : Nat) (A : Ix → Int) (i : Nat) (hd tl : Int) (hi : i < N + 130) (hN : N ≤ 60) (hA : i < N → -9223372036854775808 ≤ A [i] ∧ A [i] < 9223372036854775808) (ha : (i < N → A [i] ≠ -1) ∧ (N ≤ i → i % 2 = 1)) (next : RunsTo Tryd.prog 3 (headOf Tryd.f3 0) (envAt Tryd.f3.ntmps (lcR c N (i + 1) (q1 123) (qZ 127))) (Sx.look (XR t0 t1 t2 t3 t4 t5 N A ++ (htE c hd true tl ++ (rwE 123 ++ (msE 125 hd ++ rwZ 127))))) 110 YES (Sx.look []) 900) :
    RunsTo Tryd.prog 3 (headOf Tryd.f3 0) (envAt Tryd.f3.ntmps (lcR c N i (q1 123) (qZ 127))) (Sx.look (XR t0 t1 t2 t3 t4 t5 N A ++ (htE c hd true tl ++ (rwE 123 ++ (msE 125 hd ++ rwZ 127))))) 110 YES (Sx.look []) 900 := by
  have hwN : IntKind.i64.wrap ((N : Int) + 130) = (N : Int) + 130 := wr64 (by omega)
  refine bcase (c := (decide ((↑i : Int) < (↑N : Int)))) (fun gg0 => ?_) (fun gg0 => ?_)
  · refine runs_more baseE (More.of (sameW1a_p0 t0 t1 t2 t3 t4 t5 c N A i hd tl) ⟨?oo, rfl, ?rr⟩) (by kernel_rfl) (by kernel_rfl) rfl (gtL (by decide)) (by decide) next
    case oo =>
      clear next
      refine (okc ?_ (okc gg0 (okc ?_ (okc ?_ (okc ?_ okn)))))
      all_goals ((try simp (disch := omega) only [SS, nmE, mF, hwN, tm2, Go.Sx.sum]); first | done | omega | assumption | (simp (disch := omega) only [SS, nmE, mF, hwN, tm2, Go.Sx.sum] at *; first | done | omega | assumption) | (simp_all; done) | grind)
    case rr =>
      clear next
      have hw : IntKind.i64.wrap ((i : Int) + 1) = ((i + 1 : Nat) : Int) := by rw [wr64 (by omega)]; rfl
      simp (disch := omega) only [SS, nmE, mF, hwN, tm2, Go.Sx.sum, hw]
      repeat' apply And.intro
      all_goals first | trivial | rfl | omega | exact hw.symm | (intro k hk; rcases (by omega : k = 0 ∨ k = 1) with rfl | rfl <;> simp [mF, upd, *]; done) | (intros; first | trivial | rfl | (simp_all; done)) | (simp_all; done)
  · refine bcase (c := (decide (A [(0 : Nat) + (↑i : Int).toNat] ≥ (0 : Int)))) (fun gg1 => ?_) (fun gg1 => ?_)
    · refine runs_more baseE (More.of (sameW1a_p1 t0 t1 t2 t3 t4 t5 c N A i hd tl) ⟨?oo, rfl, ?rr⟩) (by kernel_rfl) (by kernel_rfl) rfl (gtL (by decide)) (by decide) next
      case oo =>
        clear next
        refine (okc ?_ (okc gg0 (okc ?_ (okc ?_ (okc ?_ (okc gg1 (okc ?_ (okc ?_ okn))))))))
        all_goals ((try simp (disch := omega) only [SS, nmE, mF, hwN, tm2, Go.Sx.sum]); first | done | omega | assumption | (simp (disch := omega) only [SS, nmE, mF, hwN, tm2, Go.Sx.sum] at *; first | done | omega | assumption) | (simp_all; done) | grind)
      case rr =>
        clear next
        have hw : IntKind.i64.wrap ((i : Int) + 1) = ((i + 1 : Nat) : Int) := by rw [wr64 (by omega)]; rfl
        simp (disch := omega) only [SS, nmE, mF, hwN, tm2, Go.Sx.sum, hw]
        repeat' apply And.intro
        all_goals first | trivial | rfl | omega | exact hw.symm | (intro k hk; rcases (by omega : k = 0 ∨ k = 1) with rfl | rfl <;> simp [mF, upd, *]; done) | (intros; first | trivial | rfl | (simp_all; done)) | (simp_all; done)
    · refine bcase (c := (!rightC (A [(0 : Nat) + (↑i : Int).toNat]))) (fun gg2 => ?_) (fun gg2 => ?_)
      · refine runs_more baseE (More.of (sameW1a_p2 t0 t1 t2 t3 t4 t5 c N A i hd tl) ⟨?oo, rfl, ?rr⟩) (by kernel_rfl) (by kernel_rfl) rfl (gtL (by decide)) (by decide) next
        case oo =>
          clear next
          refine (okc ?_ (okc gg0 (okc ?_ (okc ?_ (okc ?_ (okc gg1 (okc gg2 okn)))))))
          all_goals ((try simp (disch := omega) only [SS, nmE, mF, hwN, tm2, Go.Sx.sum]); first | done | omega | assumption | (simp (disch := omega) only [SS, nmE, mF, hwN, tm2, Go.Sx.sum] at *; first | done | omega | assumption) | (simp_all; done) | grind)
        case rr =>
          clear next
          have hw : IntKind.i64.wrap ((i : Int) + 1) = ((i + 1 : Nat) : Int) := by rw [wr64 (by omega)]; rfl
          simp (disch := omega) only [SS, nmE, mF, hwN, tm2, Go.Sx.sum, hw]
          repeat' apply And.intro
          all_goals first | trivial | rfl | omega | exact hw.symm | (intro k hk; rcases (by omega : k = 0 ∨ k = 1) with rfl | rfl <;> simp [mF, upd, *]; done) | (intros; first | trivial | rfl | (simp_all; done)) | (simp_all; done)
      · refine runs_more baseE (More.of (sameW1a_p3 t0 t1 t2 t3 t4 t5 c N A i hd tl) ⟨?oo, rfl, ?rr⟩) (by kernel_rfl) (by kernel_rfl) rfl (gtL (by decide)) (by decide) next
        case oo =>
          clear next
          refine (okc ?_ (okc gg0 (okc ?_ (okc ?_ (okc ?_ (okc gg1 (okc gg2 okn)))))))
          all_goals ((try simp (disch := omega) only [SS, nmE, mF, hwN, tm2, Go.Sx.sum]); first | done | omega | assumption | (simp (disch := omega) only [SS, nmE, mF, hwN, tm2, Go.Sx.sum] at *; first | done | omega | assumption) | (simp_all; done) | grind)
        case rr =>
          clear next
          have hw : IntKind.i64.wrap ((i : Int) + 1) = ((i + 1 : Nat) : Int) := by rw [wr64 (by omega)]; rfl
          simp (disch := omega) only [SS, nmE, mF, hwN, tm2, Go.Sx.sum, hw]
          repeat' apply And.intro
          all_goals first | trivial | rfl | omega | exact hw.symm | (intro k hk; rcases (by omega : k = 0 ∨ k = 1) with rfl | rfl <;> simp [mF, upd, *]; done) | (intros; first | trivial | rfl | (simp_all; done)) | (simp_all; done)

theorem stepW1a_p0 (t0 t1 t2 t3 t4 t5 : List UInt8) (c : Int) (N : Nat) (A : Ix → Int) (i : Nat) (hd tl : Int) :
    isMore (evTill Tryd.prog sumsE 400 (behind Tryd.f3 0) 900 3 (headOf Tryd.f3 0) (envAt Tryd.f3.ntmps (lcR c N i (q1 123) (qZ 127))) (XR t0 t1 t2 t3 t4 t5 N A ++ (htE c hd true tl ++ (rwE 123 ++ (msE 125 hd ++ rwZ 127)))) ⟨[.s true, .t, .s false, .s false, .s true, .t, .t, .t, .t, .f, .f, .t, .t, .t, .f, .t, .t, .t, .t, .s false, .t, .t, .t, .f, .s false, .f, .t, .t, .t, .t, .t, .t], 130⟩) (moreP (headOf Tryd.f3 0) ([((127 : Nat), Rn.to (142 : Nat)), ((129 : Nat), Rn.to (140 : Nat))]) Tryd.f3.ntmps (lcR c N (i + 1) (qE 123) (q1 127)) (htE c hd true (bothR hd c) ++ (rwE 123 ++ (rwE 127 ++ msE 129 ((bothR hd c) + 4)))) 900) =
    (OkL [(decide ((↑i : Int) < IntKind.i64.wrap ((↑N : Int) + (130 : Int))), true), (decide ((↑i : Int) < (↑N : Int)), false), (decide (IntKind.i64.wrap ((-1 : Int) - (↑i : Int).tmod (2 : Int)) ≥ (0 : Int)), false), (IntKind.i64.wrap ((-1 : Int) - (↑i : Int).tmod (2 : Int)) == (-1 : Int), true), (!rightC (iandn IntKind.i64 (IntKind.i64.wrap (mF hd [(1 : Nat)])) (4 : Int)), false), (iand IntKind.u8 (mF hd [(1 : Nat)]) (4 : Int) != (0 : Int), false)] ∧ headOf Tryd.f3 (0 : Nat) = headOf Tryd.f3 (0 : Nat) ∧ (c = c ∧ ((0 : Nat) = (0 : Nat) ∧ N = N) ∧ (0 : Nat) = (0 : Nat) ∧ (0 : Nat) = (0 : Nat) ∧ (([(1 : Nat)] = [(1 : Nat)] ∧ (0 : Nat) = (0 : Nat)) ∧ (0 : Nat) = (0 : Nat)) ∧ ((0 : Nat) = (0 : Nat) ∧ (1 : Nat) = (1 : Nat)) ∧ IntKind.i64.wrap ((↑N : Int) + (130 : Int)) = IntKind.i64.wrap ((↑N : Int) + (130 : Int)) ∧ (↑(i + (1 : Nat)) : Int) = IntKind.i64.wrap ((↑i : Int) + (1 : Int))) ∧ (hd = hd ∧ true = true) ∧ (bothR hd c = iand IntKind.i64 (iandn IntKind.i64 (IntKind.i64.wrap (mF hd [(1 : Nat)])) (4 : Int)) (iand IntKind.i64 c (27 : Int)) ∧ iand IntKind.i64 c (27 : Int) = iand IntKind.i64 c (27 : Int)) ∧ ((1 : Nat) = (1 : Nat) ∧ (∀ (i : Nat), i < (1 : Nat) → (0 : Nat) = (0 : Nat)) ∧ ∀ (i : Nat), i < (1 : Nat) → (2 : Nat) = (2 : Nat)) ∧ ((1 : Nat) = (1 : Nat) ∧ (∀ (i : Nat), i < (1 : Nat) → (0 : Nat) = (0 : Nat)) ∧ ∀ (i : Nat), i < (1 : Nat) → (2 : Nat) = (2 : Nat)) ∧ (2 : Nat) = (2 : Nat) ∧ ∀ (i : Nat), i < (2 : Nat) → mF (bothR hd c + (4 : Int)) [i] = upd (upd (fun is => (0 : Int)) [(0 : Nat)] (1 : Int)) [(1 : Nat)] (IntKind.u8.wrap (ior IntKind.i64 (iand IntKind.i64 (iandn IntKind.i64 (IntKind.i64.wrap (mF hd [(1 : Nat)])) (4 : Int)) (iand IntKind.i64 c (27 : Int))) (4 : Int))) [i]) := by kernel_rfl
theorem stepW1a_p1 (t0 t1 t2 t3 t4 t5 : List UInt8) (c : Int) (N : Nat) (A : Ix → Int) (i : Nat) (hd tl : Int) :
    isMore (evTill Tryd.prog sumsE 400 (behind Tryd.f3 0) 900 3 (headOf Tryd.f3 0) (envAt Tryd.f3.ntmps (lcR c N i (q1 123) (qZ 127))) (XR t0 t1 t2 t3 t4 t5 N A ++ (htE c hd true tl ++ (rwE 123 ++ (msE 125 hd ++ rwZ 127)))) ⟨[.s true, .t, .s true, .s true, .s true, .s true, .s false, .s true, .t, .t, .t, .t, .f, .f, .t, .t, .t, .f, .t, .t, .t, .t, .s false, .t, .t, .t, .f, .s false, .f, .t, .t, .t, .t, .t, .t], 130⟩) (moreP (headOf Tryd.f3 0) ([((127 : Nat), Rn.to (142 : Nat)), ((129 : Nat), Rn.to (140 : Nat))]) Tryd.f3.ntmps (lcR c N (i + 1) (qE 123) (q1 127)) (htE c hd true (bothR hd c) ++ (rwE 123 ++ (rwE 127 ++ msE 129 ((bothR hd c) + 4)))) 900) =
    (OkL [(decide ((↑i : Int) < IntKind.i64.wrap ((↑N : Int) + (130 : Int))), true), (decide ((↑i : Int) < (↑N : Int)), true), (decide ((0 : Int) ≤ (↑i : Int) ∧ (↑i : Int) < (↑N : Int)), true), (((0 : Nat) + (↑i : Int).toNat).blt N, true), (((0 : Nat) + (↑i : Int).toNat).blt N, true), (decide (A [(0 : Nat) + (↑i : Int).toNat] ≥ (0 : Int)), false), (A [(0 : Nat) + (↑i : Int).toNat] == (-1 : Int), true), (!rightC (iandn IntKind.i64 (IntKind.i64.wrap (mF hd [(1 : Nat)])) (4 : Int)), false), (iand IntKind.u8 (mF hd [(1 : Nat)]) (4 : Int) != (0 : Int), false)] ∧ headOf Tryd.f3 (0 : Nat) = headOf Tryd.f3 (0 : Nat) ∧ (c = c ∧ ((0 : Nat) = (0 : Nat) ∧ N = N) ∧ (0 : Nat) = (0 : Nat) ∧ (0 : Nat) = (0 : Nat) ∧ (([(1 : Nat)] = [(1 : Nat)] ∧ (0 : Nat) = (0 : Nat)) ∧ (0 : Nat) = (0 : Nat)) ∧ ((0 : Nat) = (0 : Nat) ∧ (1 : Nat) = (1 : Nat)) ∧ IntKind.i64.wrap ((↑N : Int) + (130 : Int)) = IntKind.i64.wrap ((↑N : Int) + (130 : Int)) ∧ (↑(i + (1 : Nat)) : Int) = IntKind.i64.wrap ((↑i : Int) + (1 : Int))) ∧ (hd = hd ∧ true = true) ∧ (bothR hd c = iand IntKind.i64 (iandn IntKind.i64 (IntKind.i64.wrap (mF hd [(1 : Nat)])) (4 : Int)) (iand IntKind.i64 c (27 : Int)) ∧ iand IntKind.i64 c (27 : Int) = iand IntKind.i64 c (27 : Int)) ∧ ((1 : Nat) = (1 : Nat) ∧ (∀ (i : Nat), i < (1 : Nat) → (0 : Nat) = (0 : Nat)) ∧ ∀ (i : Nat), i < (1 : Nat) → (2 : Nat) = (2 : Nat)) ∧ ((1 : Nat) = (1 : Nat) ∧ (∀ (i : Nat), i < (1 : Nat) → (0 : Nat) = (0 : Nat)) ∧ ∀ (i : Nat), i < (1 : Nat) → (2 : Nat) = (2 : Nat)) ∧ (2 : Nat) = (2 : Nat) ∧ ∀ (i : Nat), i < (2 : Nat) → mF (bothR hd c + (4 : Int)) [i] = upd (upd (fun is => (0 : Int)) [(0 : Nat)] (1 : Int)) [(1 : Nat)] (IntKind.u8.wrap (ior IntKind.i64 (iand IntKind.i64 (iandn IntKind.i64 (IntKind.i64.wrap (mF hd [(1 : Nat)])) (4 : Int)) (iand IntKind.i64 c (27 : Int))) (4 : Int))) [i]) := by kernel_rfl

set_option maxHeartbeats 4000000 in
theorem stepW1a (t0 t1 t2 t3 t4 t5 : List UInt8) (c : Int) (N : Nat) (A : Ix → Int) (i : Nat) (hd tl : Int) (hi : i < N + 130) (hN : N ≤ 60) (hA : i < N → -9223372036854775808 ≤ A [i] ∧ A [i] < 9223372036854775808) (ha : (i < N → A [i] = -1) ∧ (N ≤ i → i % 2 = 0)) (hr : rightR hd = true) (next : RunsTo Tryd.prog 3 (headOf Tryd.f3 0) (envAt Tryd.f3.ntmps (lcR c N (i + 1) (qE 123) (q1 127))) (Sx.look (XR t0 t1 t2 t3 t4 t5 N A ++ (htE c hd true (bothR hd c) ++ (rwE 123 ++ (rwE 127 ++ msE 129 ((bothR hd c) + 4)))))) 110 YES (Sx.look []) 900) :
    RunsTo Tryd.prog 3 (headOf Tryd.f3 0) (envAt Tryd.f3.ntmps (lcR c N i (q1 123) (qZ 127))) (Sx.look (XR t0 t1 t2 t3 t4 t5 N A ++ (htE c hd true tl ++ (rwE 123 ++ (msE 125 hd ++ rwZ 127))))) 110 YES (Sx.look []) 900 := by
  have hwN : IntKind.i64.wrap ((N : Int) + 130) = (N : Int) + 130 := wr64 (by omega)
  obtain ⟨f1, f2, f3, f4, f5, f6, f7, f8, f9⟩ := one_of hr
  obtain ⟨q1, q2', q3, q4⟩ := both_eq c hr
  obtain ⟨k1, k2, k3, k4, k5, k6, k7, k8, k9⟩ := one_of (both_right c hr)
  refine bcase (c := (decide ((↑i : Int) < (↑N : Int)))) (fun gg0 => ?_) (fun gg0 => ?_)
  · refine runs_more baseE (More.of (stepW1a_p0 t0 t1 t2 t3 t4 t5 c N A i hd tl) ⟨?oo, rfl, ?rr⟩) (by kernel_rfl) (by kernel_rfl) rfl (gtL (by decide)) (by decide) next
    case oo =>
      clear next
      refine (okc ?_ (okc gg0 (okc ?_ (okc ?_ (okc ?_ (okc ?_ okn))))))
      all_goals ((try simp (disch := omega) only [SS, nmE, mF, hwN, tm2, Go.Sx.sum, f1, f2, f3, f4, f5, f6, f7, q1, q2', k1, k2]); first | done | omega | assumption | (simp (disch := omega) only [SS, nmE, mF, hwN, tm2, Go.Sx.sum, f1, f2, f3, f4, f5, f6, f7, q1, q2', k1, k2] at *; first | done | omega | assumption) | (simp_all; done) | grind)
    case rr =>
      clear next
      have hw : IntKind.i64.wrap ((i : Int) + 1) = ((i + 1 : Nat) : Int) := by rw [wr64 (by omega)]; rfl
      simp (disch := omega) only [SS, nmE, mF, hwN, tm2, Go.Sx.sum, f1, f2, f3, f4, f5, f6, f7, q1, q2', k1, k2, hw]
      repeat' apply And.intro
      all_goals first | trivial | rfl | omega | exact hw.symm | (intro k hk; rcases (by omega : k = 0 ∨ k = 1) with rfl | rfl <;> simp [mF, upd, *]; done) | (intros; first | trivial | rfl | (simp_all; done)) | (simp_all; done)
  · refine runs_more baseE (More.of (stepW1a_p1 t0 t1 t2 t3 t4 t5 c N A i hd tl) ⟨?oo, rfl, ?rr⟩) (by kernel_rfl) (by kernel_rfl) rfl (gtL (by decide)) (by decide) next
    case oo =>
      clear next
      refine (okc ?_ (okc gg0 (okc ?_ (okc ?_ (okc ?_ (okc ?_ (okc ?_ (okc ?_ (okc ?_ okn)))))))))
      all_goals ((try simp (disch := omega) only [SS, nmE, mF, hwN, tm2, Go.Sx.sum, f1, f2, f3, f4, f5, f6, f7, q1, q2', k1, k2]); first | done | omega | assumption | (simp (disch := omega) only [SS, nmE, mF, hwN, tm2, Go.Sx.sum, f1, f2, f3, f4, f5, f6, f7, q1, q2', k1, k2] at *; first | done | omega | assumption) | (simp_all; done) | grind)
    case rr =>
      clear next
      have hw : IntKind.i64.wrap ((i : Int) + 1) = ((i + 1 : Nat) : Int) := by rw [wr64 (by omega)]; rfl
      simp (disch := omega) only [SS, nmE, mF, hwN, tm2, Go.Sx.sum, f1, f2, f3, f4, f5, f6, f7, q1, q2', k1, k2, hw]
      repeat' apply And.intro
      all_goals first | trivial | rfl | omega | exact hw.symm | (intro k hk; rcases (by omega : k = 0 ∨ k = 1) with rfl | rfl <;> simp [mF, upd, *]; done) | (intros; first | trivial | rfl | (simp_all; done)) | (simp_all; done)

theorem sameW1b_p0 (t0 t1 t2 t3 t4 t5 : List UInt8) (c : Int) (N : Nat) (A : Ix → Int) (i : Nat) (hd tl : Int) :
    isMore (evTill Tryd.prog sumsE 400 (behind Tryd.f3 0) 900 3 (headOf Tryd.f3 0) (envAt Tryd.f3.ntmps (lcR c N i (q1 123) (qE 127))) (XR t0 t1 t2 t3 t4 t5 N A ++ (htE c hd true tl ++ (rwE 123 ++ (msE 125 hd ++ rwE 127)))) ⟨[.s true, .t, .s false, .s false, .s false, .s true, .f], 130⟩) (moreP (headOf Tryd.f3 0) ([]) Tryd.f3.ntmps (lcR c N (i + 1) (q1 123) (qE 127)) (htE c hd true tl ++ (rwE 123 ++ (msE 125 hd ++ rwE 127))) 900) =
    (OkL [(decide ((↑i : Int) < IntKind.i64.wrap ((↑N : Int) + (130 : Int))), true), (decide ((↑i : Int) < (↑N : Int)), false), (decide (IntKind.i64.wrap ((-1 : Int) - (↑i : Int).tmod (2 : Int)) ≥ (0 : Int)), false), (IntKind.i64.wrap ((-1 : Int) - (↑i : Int).tmod (2 : Int)) == (-1 : Int), false), (decide (IntKind.i64.wrap ((-1 : Int) - (↑i : Int).tmod (2 : Int)) < (-1 : Int)), true)] ∧ headOf Tryd.f3 (0 : Nat) = headOf Tryd.f3 (0 : Nat) ∧ (c = c ∧ ((0 : Nat) = (0 : Nat) ∧ N = N) ∧ (0 : Nat) = (0 : Nat) ∧ (0 : Nat) = (0 : Nat) ∧ ((0 : Nat) = (0 : Nat) ∧ (1 : Nat) = (1 : Nat)) ∧ (([(1 : Nat)] = [(1 : Nat)] ∧ (0 : Nat) = (0 : Nat)) ∧ (0 : Nat) = (0 : Nat)) ∧ IntKind.i64.wrap ((↑N : Int) + (130 : Int)) = IntKind.i64.wrap ((↑N : Int) + (130 : Int)) ∧ (↑(i + (1 : Nat)) : Int) = IntKind.i64.wrap ((↑i : Int) + (1 : Int))) ∧ (hd = hd ∧ true = true) ∧ (tl = tl ∧ iand IntKind.i64 c (27 : Int) = iand IntKind.i64 c (27 : Int)) ∧ ((1 : Nat) = (1 : Nat) ∧ (∀ (i : Nat), i < (1 : Nat) → (0 : Nat) = (0 : Nat)) ∧ ∀ (i : Nat), i < (1 : Nat) → (2 : Nat) = (2 : Nat)) ∧ ((2 : Nat) = (2 : Nat) ∧ ∀ (i : Nat), i < (2 : Nat) → mF hd [i] = mF hd [i]) ∧ (1 : Nat) = (1 : Nat) ∧ (∀ (i : Nat), i < (1 : Nat) → (0 : Nat) = (0 : Nat)) ∧ ∀ (i : Nat), i < (1 : Nat) → (2 : Nat) = (2 : Nat)) := by kernel_rfl
theorem sameW1b_p1 (t0 t1 t2 t3 t4 t5 : List UInt8) (c : Int) (N : Nat) (A : Ix → Int) (i : Nat) (hd tl : Int) :
    isMore (evTill Tryd.prog sumsE 400 (behind Tryd.f3 0) 900 3 (headOf Tryd.f3 0) (envAt Tryd.f3.ntmps (lcR c N i (q1 123) (qE 127))) (XR t0 t1 t2 t3 t4 t5 N A ++ (htE c hd true tl ++ (rwE 123 ++ (msE 125 hd ++ rwE 127)))) ⟨[.s true, .t, .s true, .s true, .s true, .s true, .s false, .s false, .s true, .f], 130⟩) (moreP (headOf Tryd.f3 0) ([]) Tryd.f3.ntmps (lcR c N (i + 1) (q1 123) (qE 127)) (htE c hd true tl ++ (rwE 123 ++ (msE 125 hd ++ rwE 127))) 900) =
    (OkL [(decide ((↑i : Int) < IntKind.i64.wrap ((↑N : Int) + (130 : Int))), true), (decide ((↑i : Int) < (↑N : Int)), true), (decide ((0 : Int) ≤ (↑i : Int) ∧ (↑i : Int) < (↑N : Int)), true), (((0 : Nat) + (↑i : Int).toNat).blt N, true), (((0 : Nat) + (↑i : Int).toNat).blt N, true), (decide (A [(0 : Nat) + (↑i : Int).toNat] ≥ (0 : Int)), false), (A [(0 : Nat) + (↑i : Int).toNat] == (-1 : Int), false), (decide (A [(0 : Nat) + (↑i : Int).toNat] < (-1 : Int)), true)] ∧ headOf Tryd.f3 (0 : Nat) = headOf Tryd.f3 (0 : Nat) ∧ (c = c ∧ ((0 : Nat) = (0 : Nat) ∧ N = N) ∧ (0 : Nat) = (0 : Nat) ∧ (0 : Nat) = (0 : Nat) ∧ ((0 : Nat) = (0 : Nat) ∧ (1 : Nat) = (1 : Nat)) ∧ (([(1 : Nat)] = [(1 : Nat)] ∧ (0 : Nat) = (0 : Nat)) ∧ (0 : Nat) = (0 : Nat)) ∧ IntKind.i64.wrap ((↑N : Int) + (130 : Int)) = IntKind.i64.wrap ((↑N : Int) + (130 : Int)) ∧ (↑(i + (1 : Nat)) : Int) = IntKind.i64.wrap ((↑i : Int) + (1 : Int))) ∧ (hd = hd ∧ true = true) ∧ (tl = tl ∧ iand IntKind.i64 c (27 : Int) = iand IntKind.i64 c (27 : Int)) ∧ ((1 : Nat) = (1 : Nat) ∧ (∀ (i : Nat), i < (1 : Nat) → (0 : Nat) = (0 : Nat)) ∧ ∀ (i : Nat), i < (1 : Nat) → (2 : Nat) = (2 : Nat)) ∧ ((2 : Nat) = (2 : Nat) ∧ ∀ (i : Nat), i < (2 : Nat) → mF hd [i] = mF hd [i]) ∧ (1 : Nat) = (1 : Nat) ∧ (∀ (i : Nat), i < (1 : Nat) → (0 : Nat) = (0 : Nat)) ∧ ∀ (i : Nat), i < (1 : Nat) → (2 : Nat) = (2 : Nat)) := by kernel_rfl
theorem sameW1b_p2 (t0 t1 t2 t3 t4 t5 : List UInt8) (c : Int) (N : Nat) (A : Ix → Int) (i : Nat) (hd tl : Int) :
    isMore (evTill Tryd.prog sumsE 400 (behind Tryd.f3 0) 900 3 (headOf Tryd.f3 0) (envAt Tryd.f3.ntmps (lcR c N i (q1 123) (qE 127))) (XR t0 t1 t2 t3 t4 t5 N A ++ (htE c hd true tl ++ (rwE 123 ++ (msE 125 hd ++ rwE 127)))) ⟨[.s true, .t, .s true, .s true, .s true, .s true, .s true, .t, .s false, .t, .f], 130⟩) (moreP (headOf Tryd.f3 0) ([]) Tryd.f3.ntmps (lcR c N (i + 1) (q1 123) (qE 127)) (htE c hd true tl ++ (rwE 123 ++ (msE 125 hd ++ rwE 127))) 900) =
    (OkL [(decide ((↑i : Int) < IntKind.i64.wrap ((↑N : Int) + (130 : Int))), true), (decide ((↑i : Int) < (↑N : Int)), true), (decide ((0 : Int) ≤ (↑i : Int) ∧ (↑i : Int) < (↑N : Int)), true), (((0 : Nat) + (↑i : Int).toNat).blt N, true), (((0 : Nat) + (↑i : Int).toNat).blt N, true), (decide (A [(0 : Nat) + (↑i : Int).toNat] ≥ (0 : Int)), true), (!rightC (A [(0 : Nat) + (↑i : Int).toNat]), false)] ∧ headOf Tryd.f3 (0 : Nat) = headOf Tryd.f3 (0 : Nat) ∧ (c = c ∧ ((0 : Nat) = (0 : Nat) ∧ N = N) ∧ (0 : Nat) = (0 : Nat) ∧ (0 : Nat) = (0 : Nat) ∧ ((0 : Nat) = (0 : Nat) ∧ (1 : Nat) = (1 : Nat)) ∧ (([(1 : Nat)] = [(1 : Nat)] ∧ (0 : Nat) = (0 : Nat)) ∧ (0 : Nat) = (0 : Nat)) ∧ IntKind.i64.wrap ((↑N : Int) + (130 : Int)) = IntKind.i64.wrap ((↑N : Int) + (130 : Int)) ∧ (↑(i + (1 : Nat)) : Int) = IntKind.i64.wrap ((↑i : Int) + (1 : Int))) ∧ (hd = hd ∧ true = true) ∧ (tl = tl ∧ iand IntKind.i64 c (27 : Int) = iand IntKind.i64 c (27 : Int)) ∧ ((1 : Nat) = (1 : Nat) ∧ (∀ (i : Nat), i < (1 : Nat) → (0 : Nat) = (0 : Nat)) ∧ ∀ (i : Nat), i < (1 : Nat) → (2 : Nat) = (2 : Nat)) ∧ ((2 : Nat) = (2 : Nat) ∧ ∀ (i : Nat), i < (2 : Nat) → mF hd [i] = mF hd [i]) ∧ (1 : Nat) = (1 : Nat) ∧ (∀ (i : Nat), i < (1 : Nat) → (0 : Nat) = (0 : Nat)) ∧ ∀ (i : Nat), i < (1 : Nat) → (2 : Nat) = (2 : Nat)) := by kernel_rfl
theorem sameW1b_p3 (t0 t1 t2 t3 t4 t5 : List UInt8) (c : Int) (N : Nat) (A : Ix → Int) (i : Nat) (hd tl : Int) :
    isMore (evTill Tryd.prog sumsE 400 (behind Tryd.f3 0) 900 3 (headOf Tryd.f3 0) (envAt Tryd.f3.ntmps (lcR c N i (q1 123) (qE 127))) (XR t0 t1 t2 t3 t4 t5 N A ++ (htE c hd true tl ++ (rwE 123 ++ (msE 125 hd ++ rwE 127)))) ⟨[.s true, .t, .s true, .s true, .s true, .s true, .s true, .t, .s true, .f], 130⟩) (moreP (headOf Tryd.f3 0) ([]) Tryd.f3.ntmps (lcR c N (i + 1) (q1 123) (qE 127)) (htE c hd true tl ++ (rwE 123 ++ (msE 125 hd ++ rwE 127))) 900) =
    (OkL [(decide ((↑i : Int) < IntKind.i64.wrap ((↑N : Int) + (130 : Int))), true), (decide ((↑i : Int) < (↑N : Int)), true), (decide ((0 : Int) ≤ (↑i : Int) ∧ (↑i : Int) < (↑N : Int)), true), (((0 : Nat) + (↑i : Int).toNat).blt N, true), (((0 : Nat) + (↑i : Int).toNat).blt N, true), (decide (A [(0 : Nat) + (↑i : Int).toNat] ≥ (0 : Int)), true), (!rightC (A [(0 : Nat) + (↑i : Int).toNat]), true)] ∧ headOf Tryd.f3 (0 : Nat) = headOf Tryd.f3 (0 : Nat) ∧ (c = c ∧ ((0 : Nat) = (0 : Nat) ∧ N = N) ∧ (0 : Nat) = (0 : Nat) ∧ (0 : Nat) = (0 : Nat) ∧ ((0 : Nat) = (0 : Nat) ∧ (1 : Nat) = (1 : Nat)) ∧ (([(1 : Nat)] = [(1 : Nat)] ∧ (0 : Nat) = (0 : Nat)) ∧ (0 : Nat) = (0 : Nat)) ∧ IntKind.i64.wrap ((↑N : Int) + (130 : Int)) = IntKind.i64.wrap ((↑N : Int) + (130 : Int)) ∧ (↑(i + (1 : Nat)) : Int) = IntKind.i64.wrap ((↑i : Int) + (1 : Int))) ∧ (hd = hd ∧ true = true) ∧ (tl = tl ∧ iand IntKind.i64 c (27 : Int) = iand IntKind.i64 c (27 : Int)) ∧ ((1 : Nat) = (1 : Nat) ∧ (∀ (i : Nat), i < (1 : Nat) → (0 : Nat) = (0 : Nat)) ∧ ∀ (i : Nat), i < (1 : Nat) → (2 : Nat) = (2 : Nat)) ∧ ((2 : Nat) = (2 : Nat) ∧ ∀ (i : Nat), i < (2 : Nat) → mF hd [i] = mF hd [i]) ∧ (1 : Nat) = (1 : Nat) ∧ (∀ (i : Nat), i < (1 : Nat) → (0 : Nat) = (0 : Nat)) ∧ ∀ (i : Nat), i < (1 : Nat) → (2 : Nat) = (2 : Nat)) := by kernel_rfl

set_option maxHeartbeats 4000000 in
theorem sameW1b (t0 t1 t2 t3 t4 t5 : List UInt8) (c : Int) (N : Nat) (A : Ix → Int) (i : Nat) (hd tl : Int) (hi : i < N + 130) (hN : N ≤ 60) (hA : i < N → -9223372036854775808 ≤ A [i] ∧ A [i] < 9223372036854775808) (ha : (i < N → A [i] ≠ -1) ∧ (N ≤ i → i % 2 = 1)) (next : RunsTo Tryd.prog 3 (headOf Tryd.f3 0) (envAt Tryd.f3.ntmps (lcR c N (i + 1) (q1 123) (qE 127))) (Sx.look (XR t0 t1 t2 t3 t4 t5 N A ++ (htE c hd true tl ++ (rwE 123 ++ (msE 125 hd ++ rwE 127))))) 110 YES (Sx.look []) 900) :
    RunsTo Tryd.prog 3 (headOf Tryd.f3 0) (envAt Tryd.f3.ntmps (lcR c N i (q1 123) (qE 127))) (Sx.look (XR t0 t1 t2 t3 t4 t5 N A ++ (htE c hd true tl ++ (rwE 123 ++ (msE 125 hd ++ rwE 127))))) 110 YES (Sx.look []) 900 := by
  have hwN : IntKind.i64.wrap ((N : Int) + 130) = (N : Int) + 130 := wr64 (by omega)
  refine bcase (c := (decide ((↑i : Int) < (↑N : Int)))) (fun gg0 => ?_) (fun gg0 => ?_)
  · refine runs_more baseE (More.of (sameW1b_p0 t0 t1 t2 t3 t4 t5 c N A i hd tl) ⟨?oo, rfl, ?rr⟩) (by kernel_rfl) (by kernel_rfl) rfl (gtL (by decide)) (by decide) next
    case oo =>
      clear next
      refine (okc ?_ (okc gg0 (okc ?_ (okc ?_ (okc ?_ okn)))))
      all_goals ((try simp (disch := omega) only [SS, nmE, mF, hwN, tm2, Go.Sx.sum]); first | done | omega | assumption | (simp (disch := omega) only [SS, nmE, mF, hwN, tm2, Go.Sx.sum] at *; first | done | omega | assumption) | (simp_all; done) | grind)
    case rr =>
      clear next
      have hw : IntKind.i64.wrap ((i : Int) + 1) = ((i + 1 : Nat) : Int) := by rw [wr64 (by omega)]; rfl
      simp (disch := omega) only [SS, nmE, mF, hwN, tm2, Go.Sx.sum, hw]
      repeat' apply And.intro
      all_goals first | trivial | rfl | omega | exact hw.symm | (intro k hk; rcases (by omega : k = 0 ∨ k = 1) with rfl | rfl <;> simp [mF, upd, *]; done) | (intros; first | trivial | rfl | (simp_all; done)) | (simp_all; done)
  · refine bcase (c := (decide (A [(0 : Nat) + (↑i : Int).toNat] ≥ (0 : Int)))) (fun gg1 => ?_) (fun gg1 => ?_)
    · refine runs_more baseE (More.of (sameW1b_p1 t0 t1 t2 t3 t4 t5 c N A i hd tl) ⟨?oo, rfl, ?rr⟩) (by kernel_rfl) (by kernel_rfl) rfl (gtL (by decide)) (by decide) next
      case oo =>
        clear next
        refine (okc ?_ (okc gg0 (okc ?_ (okc ?_ (okc ?_ (okc gg1 (okc ?_ (okc ?_ okn))))))))
        all_goals ((try simp (disch := omega) only [SS, nmE, mF, hwN, tm2, Go.Sx.sum]); first | done | omega | assumption | (simp (disch := omega) only [SS, nmE, mF, hwN, tm2, Go.Sx.sum] at *; first | done | omega | assumption) | (simp_all; done) | grind)
      case rr =>
        clear next
        have hw : IntKind.i64.wrap ((i : Int) + 1) = ((i + 1 : Nat) : Int) := by rw [wr64 (by omega)]; rfl
        simp (disch := omega) only [SS, nmE, mF, hwN, tm2, Go.Sx.sum, hw]
        repeat' apply And.intro
        all_goals first | trivial | rfl | omega | exact hw.symm | (intro k hk; rcases (by omega : k = 0 ∨ k = 1) with rfl | rfl <;> simp [mF, upd, *]; done) | (intros; first | trivial | rfl | (simp_all; done)) | (simp_all; done)
    · refine bcase (c := (!rightC (A [(0 : Nat) + (↑i : Int).toNat]))) (fun gg2 => ?_) (fun gg2 => ?_)
      · refine runs_more baseE (More.of (sameW1b_p2 t0 t1 t2 t3 t4 t5 c N A i hd tl) ⟨?oo, rfl, ?rr⟩) (by kernel_rfl) (by kernel_rfl) rfl (gtL (by decide)) (by decide) next
        case oo =>
          clear next
          refine (okc ?_ (okc gg0 (okc ?_ (okc ?_ (okc ?_ (okc gg1 (okc gg2 okn)))))))
          all_goals ((try simp (disch := omega) only [SS, nmE, mF, hwN, tm2, Go.Sx.sum]); first | done | omega | assumption | (simp (disch := omega) only [SS, nmE, mF, hwN, tm2, Go.Sx.sum] at *; first | done | omega | assumption) | (simp_all; done) | grind)
        case rr =>
          clear next
          have hw : IntKind.i64.wrap ((i : Int) + 1) = ((i + 1 : Nat) : Int) := by rw [wr64 (by omega)]; rfl
          simp (disch := omega) only [SS, nmE, mF, hwN, tm2, Go.Sx.sum, hw]
          repeat' apply And.intro
          all_goals first | trivial | rfl | omega | exact hw.symm | (intro k hk; rcases (by omega : k = 0 ∨ k = 1) with rfl | rfl <;> simp [mF, upd, *]; done) | (intros; first | trivial | rfl | (simp_all; done)) | (simp_all; done)
      · refine runs_more baseE (More.of (sameW1b_p3 t0 t1 t2 t3 t4 t5 c N A i hd tl) ⟨?oo, rfl, ?rr⟩) (by kernel_rfl) (by kernel_rfl) rfl (gtL (by decide)) (by decide) next
        case oo =>
          clear next
          refine (okc ?_ (okc gg0 (okc ?_ (okc ?_ (okc ?_ (okc gg1 (okc gg2 okn)))))))
          all_goals ((try simp (disch := omega) only [SS, nmE, mF, hwN, tm2, Go.Sx.sum]); first | done | omega | assumption | (simp (disch := omega) only [SS, nmE, mF, hwN, tm2, Go.Sx.sum] at *; first | done | omega | assumption) | (simp_all; done) | grind)
        case rr =>
          clear next
          have hw : IntKind.i64.wrap ((i : Int) + 1) = ((i + 1 : Nat) : Int) := by rw [wr64 (by omega)]; rfl
          simp (disch := omega) only [SS, nmE, mF, hwN, tm2, Go.Sx.sum, hw]
          repeat' apply And.intro
          all_goals first | trivial | rfl | omega | exact hw.symm | (intro k hk; rcases (by omega : k = 0 ∨ k = 1) with rfl | rfl <;> simp [mF, upd, *]; done) | (intros; first | trivial | rfl | (simp_all; done)) | (simp_all; done)

theorem stepW1b_p0 (t0 t1 t2 t3 t4 t5 : List UInt8) (c : Int) (N : Nat) (A : Ix → Int) (i : Nat) (hd tl : Int) :
    isMore (evTill Tryd.prog sumsE 400 (behind Tryd.f3 0) 900 3 (headOf Tryd.f3 0) (envAt Tryd.f3.ntmps (lcR c N i (q1 123) (qE 127))) (XR t0 t1 t2 t3 t4 t5 N A ++ (htE c hd true tl ++ (rwE 123 ++ (msE 125 hd ++ rwE 127)))) ⟨[.s true, .t, .s false, .s false, .s true, .t, .t, .t, .t, .f, .f, .t, .t, .t, .f, .t, .t, .t, .t, .s false, .t, .t, .t, .f, .s false, .f, .t, .t, .t, .t, .t, .t], 130⟩) (moreP (headOf Tryd.f3 0) ([((127 : Nat), Rn.to (142 : Nat)), ((129 : Nat), Rn.to (140 : Nat))]) Tryd.f3.ntmps (lcR c N (i + 1) (qE 123) (q1 127)) (htE c hd true (bothR hd c) ++ (rwE 123 ++ (rwE 127 ++ msE 129 ((bothR hd c) + 4)))) 900) =
    (OkL [(decide ((↑i : Int) < IntKind.i64.wrap ((↑N : Int) + (130 : Int))), true), (decide ((↑i : Int) < (↑N : Int)), false), (decide (IntKind.i64.wrap ((-1 : Int) - (↑i : Int).tmod (2 : Int)) ≥ (0 : Int)), false), (IntKind.i64.wrap ((-1 : Int) - (↑i : Int).tmod (2 : Int)) == (-1 : Int), true), (!rightC (iandn IntKind.i64 (IntKind.i64.wrap (mF hd [(1 : Nat)])) (4 : Int)), false), (iand IntKind.u8 (mF hd [(1 : Nat)]) (4 : Int) != (0 : Int), false)] ∧ headOf Tryd.f3 (0 : Nat) = headOf Tryd.f3 (0 : Nat) ∧ (c = c ∧ ((0 : Nat) = (0 : Nat) ∧ N = N) ∧ (0 : Nat) = (0 : Nat) ∧ (0 : Nat) = (0 : Nat) ∧ (([(1 : Nat)] = [(1 : Nat)] ∧ (0 : Nat) = (0 : Nat)) ∧ (0 : Nat) = (0 : Nat)) ∧ ((0 : Nat) = (0 : Nat) ∧ (1 : Nat) = (1 : Nat)) ∧ IntKind.i64.wrap ((↑N : Int) + (130 : Int)) = IntKind.i64.wrap ((↑N : Int) + (130 : Int)) ∧ (↑(i + (1 : Nat)) : Int) = IntKind.i64.wrap ((↑i : Int) + (1 : Int))) ∧ (hd = hd ∧ true = true) ∧ (bothR hd c = iand IntKind.i64 (iandn IntKind.i64 (IntKind.i64.wrap (mF hd [(1 : Nat)])) (4 : Int)) (iand IntKind.i64 c (27 : Int)) ∧ iand IntKind.i64 c (27 : Int) = iand IntKind.i64 c (27 : Int)) ∧ ((1 : Nat) = (1 : Nat) ∧ (∀ (i : Nat), i < (1 : Nat) → (0 : Nat) = (0 : Nat)) ∧ ∀ (i : Nat), i < (1 : Nat) → (2 : Nat) = (2 : Nat)) ∧ ((1 : Nat) = (1 : Nat) ∧ (∀ (i : Nat), i < (1 : Nat) → (0 : Nat) = (0 : Nat)) ∧ ∀ (i : Nat), i < (1 : Nat) → (2 : Nat) = (2 : Nat)) ∧ (2 : Nat) = (2 : Nat) ∧ ∀ (i : Nat), i < (2 : Nat) → mF (bothR hd c + (4 : Int)) [i] = upd (upd (fun is => (0 : Int)) [(0 : Nat)] (1 : Int)) [(1 : Nat)] (IntKind.u8.wrap (ior IntKind.i64 (iand IntKind.i64 (iandn IntKind.i64 (IntKind.i64.wrap (mF hd [(1 : Nat)])) (4 : Int)) (iand IntKind.i64 c (27 : Int))) (4 : Int))) [i]) := by kernel_rfl
theorem stepW1b_p1 (t0 t1 t2 t3 t4 t5 : List UInt8) (c : Int) (N : Nat) (A : Ix → Int) (i : Nat) (hd tl : Int) :
    isMore (evTill Tryd.prog sumsE 400 (behind Tryd.f3 0) 900 3 (headOf Tryd.f3 0) (envAt Tryd.f3.ntmps (lcR c N i (q1 123) (qE 127))) (XR t0 t1 t2 t3 t4 t5 N A ++ (htE c hd true tl ++ (rwE 123 ++ (msE 125 hd ++ rwE 127)))) ⟨[.s true, .t, .s true, .s true, .s true, .s true, .s false, .s true, .t, .t, .t, .t, .f, .f, .t, .t, .t, .f, .t, .t, .t, .t, .s false, .t, .t, .t, .f, .s false, .f, .t, .t, .t, .t, .t, .t], 130⟩) (moreP (headOf Tryd.f3 0) ([((127 : Nat), Rn.to (142 : Nat)), ((129 : Nat), Rn.to (140 : Nat))]) Tryd.f3.ntmps (lcR c N (i + 1) (qE 123) (q1 127)) (htE c hd true (bothR hd c) ++ (rwE 123 ++ (rwE 127 ++ msE 129 ((bothR hd c) + 4)))) 900) =
    (OkL [(decide ((↑i : Int) < IntKind.i64.wrap ((↑N : Int) + (130 : Int))), true), (decide ((↑i : Int) < (↑N : Int)), true), (decide ((0 : Int) ≤ (↑i : Int) ∧ (↑i : Int) < (↑N : Int)), true), (((0 : Nat) + (↑i : Int).toNat).blt N, true), (((0 : Nat) + (↑i : Int).toNat).blt N, true), (decide (A [(0 : Nat) + (↑i : Int).toNat] ≥ (0 : Int)), false), (A [(0 : Nat) + (↑i : Int).toNat] == (-1 : Int), true), (!rightC (iandn IntKind.i64 (IntKind.i64.wrap (mF hd [(1 : Nat)])) (4 : Int)), false), (iand IntKind.u8 (mF hd [(1 : Nat)]) (4 : Int) != (0 : Int), false)] ∧ headOf Tryd.f3 (0 : Nat) = headOf Tryd.f3 (0 : Nat) ∧ (c = c ∧ ((0 : Nat) = (0 : Nat) ∧ N = N) ∧ (0 : Nat) = (0 : Nat) ∧ (0 : Nat) = (0 : Nat) ∧ (([(1 : Nat)] = [(1 : Nat)] ∧ (0 : Nat) = (0 : Nat)) ∧ (0 : Nat) = (0 : Nat)) ∧ ((0 : Nat) = (0 : Nat) ∧ (1 : Nat) = (1 : Nat)) ∧ IntKind.i64.wrap ((↑N : Int) + (130 : Int)) = IntKind.i64.wrap ((↑N : Int) + (130 : Int)) ∧ (↑(i + (1 : Nat)) : Int) = IntKind.i64.wrap ((↑i : Int) + (1 : Int))) ∧ (hd = hd ∧ true = true) ∧ (bothR hd c = iand IntKind.i64 (iandn IntKind.i64 (IntKind.i64.wrap (mF hd [(1 : Nat)])) (4 : Int)) (iand IntKind.i64 c (27 : Int)) ∧ iand IntKind.i64 c (27 : Int) = iand IntKind.i64 c (27 : Int)) ∧ ((1 : Nat) = (1 : Nat) ∧ (∀ (i : Nat), i < (1 : Nat) → (0 : Nat) = (0 : Nat)) ∧ ∀ (i : Nat), i < (1 : Nat) → (2 : Nat) = (2 : Nat)) ∧ ((1 : Nat) = (1 : Nat) ∧ (∀ (i : Nat), i < (1 : Nat) → (0 : Nat) = (0 : Nat)) ∧ ∀ (i : Nat), i < (1 : Nat) → (2 : Nat) = (2 : Nat)) ∧ (2 : Nat) = (2 : Nat) ∧ ∀ (i : Nat), i < (2 : Nat) → mF (bothR hd c + (4 : Int)) [i] = upd (upd (fun is => (0 : Int)) [(0 : Nat)] (1 : Int)) [(1 : Nat)] (IntKind.u8.wrap (ior IntKind.i64 (iand IntKind.i64 (iandn IntKind.i64 (IntKind.i64.wrap (mF hd [(1 : Nat)])) (4 : Int)) (iand IntKind.i64 c (27 : Int))) (4 : Int))) [i]) := by kernel_rfl

set_option maxHeartbeats 4000000 in
theorem stepW1b (t0 t1 t2 t3 t4 t5 : List UInt8) (c : Int) (N : Nat) (A : Ix → Int) (i : Nat) (hd tl : Int) (hi : i < N + 130) (hN : N ≤ 60) (hA : i < N → -9223372036854775808 ≤ A [i] ∧ A [i] < 9223372036854775808) (ha : (i < N → A [i] = -1) ∧ (N ≤ i → i % 2 = 0)) (hr : rightR hd = true) (next : RunsTo Tryd.prog 3 (headOf Tryd.f3 0) (envAt Tryd.f3.ntmps (lcR c N (i + 1) (qE 123) (q1 127))) (Sx.look (XR t0 t1 t2 t3 t4 t5 N A ++ (htE c hd true (bothR hd c) ++ (rwE 123 ++ (rwE 127 ++ msE 129 ((bothR hd c) + 4)))))) 110 YES (Sx.look []) 900) :
    RunsTo Tryd.prog 3 (headOf Tryd.f3 0) (envAt Tryd.f3.ntmps (lcR c N i (q1 123) (qE 127))) (Sx.look (XR t0 t1 t2 t3 t4 t5 N A ++ (htE c hd true tl ++ (rwE 123 ++ (msE 125 hd ++ rwE 127))))) 110 YES (Sx.look []) 900 := by
  have hwN : IntKind.i64.wrap ((N : Int) + 130) = (N : Int) + 130 := wr64 (by omega)
  obtain ⟨f1, f2, f3, f4, f5, f6, f7, f8, f9⟩ := one_of hr
  obtain ⟨q1, q2', q3, q4⟩ := both_eq c hr
  obtain ⟨k1, k2, k3, k4, k5, k6, k7, k8, k9⟩ := one_of (both_right c hr)
  refine bcase (c := (decide ((↑i : Int) < (↑N : Int)))) (fun gg0 => ?_) (fun gg0 => ?_)
  · refine runs_more baseE (More.of (stepW1b_p0 t0 t1 t2 t3 t4 t5 c N A i hd tl) ⟨?oo, rfl, ?rr⟩) (by kernel_rfl) (by kernel_rfl) rfl (gtL (by decide)) (by decide) next
    case oo =>
      clear next
      refine (okc ?_ (okc gg0 (okc ?_ (okc ?_ (okc ?_ (okc ?_ okn))))))
      all_goals ((try simp (disch := omega) only [SS, nmE, mF, hwN, tm2, Go.Sx.sum, f1, f2, f3, f4, f5, f6, f7, q1, q2', k1, k2]); first | done | omega | assumption | (simp (disch := omega) only [SS, nmE, mF, hwN, tm2, Go.Sx.sum, f1, f2, f3, f4, f5, f6, f7, q1, q2', k1, k2] at *; first | done | omega | assumption) | (simp_all; done) | grind)
    case rr =>
      clear next
      have hw : IntKind.i64.wrap ((i : Int) + 1) = ((i + 1 : Nat) : Int) := by rw [wr64 (by omega)]; rfl
      simp (disch := omega) only [SS, nmE, mF, hwN, tm2, Go.Sx.sum, f1, f2, f3, f4, f5, f6, f7, q1, q2', k1, k2, hw]
      repeat' apply And.intro
      all_goals first | trivial | rfl | omega | exact hw.symm | (intro k hk; rcases (by omega : k = 0 ∨ k = 1) with rfl | rfl <;> simp [mF, upd, *]; done) | (intros; first | trivial | rfl | (simp_all; done)) | (simp_all; done)
  · refine runs_more baseE (More.of (stepW1b_p1 t0 t1 t2 t3 t4 t5 c N A i hd tl) ⟨?oo, rfl, ?rr⟩) (by kernel_rfl) (by kernel_rfl) rfl (gtL (by decide)) (by decide) next
    case oo =>
      clear next
      refine (okc ?_ (okc gg0 (okc ?_ (okc ?_ (okc ?_ (okc ?_ (okc ?_ (okc ?_ (okc ?_ okn)))))))))
      all_goals ((try simp (disch := omega) only [SS, nmE, mF, hwN, tm2, Go.Sx.sum, f1, f2, f3, f4, f5, f6, f7, q1, q2', k1, k2]); first | done | omega | assumption | (simp (disch := omega) only [SS, nmE, mF, hwN, tm2, Go.Sx.sum, f1, f2, f3, f4, f5, f6, f7, q1, q2', k1, k2] at *; first | done | omega | assumption) | (simp_all; done) | grind)
    case rr =>
      clear next
      have hw : IntKind.i64.wrap ((i : Int) + 1) = ((i + 1 : Nat) : Int) := by rw [wr64 (by omega)]; rfl
      simp (disch := omega) only [SS, nmE, mF, hwN, tm2, Go.Sx.sum, f1, f2, f3, f4, f5, f6, f7, q1, q2', k1, k2, hw]
      repeat' apply And.intro
      all_goals first | trivial | rfl | omega | exact hw.symm | (intro k hk; rcases (by omega : k = 0 ∨ k = 1) with rfl | rfl <;> simp [mF, upd, *]; done) | (intros; first | trivial | rfl | (simp_all; done)) | (simp_all; done)

theorem sameW2_p0 (t0 t1 t2 t3 t4 t5 : List UInt8) (c : Int) (N : Nat) (A : Ix → Int) (i : Nat) (hd tl : Int) :
    isMore (evTill Tryd.prog sumsE 400 (behind Tryd.f3 0) 900 3 (headOf Tryd.f3 0) (envAt Tryd.f3.ntmps (lcR c N i (qE 123) (q1 127))) (XR t0 t1 t2 t3 t4 t5 N A ++ (htE c hd true tl ++ (rwE 123 ++ (rwE 127 ++ msE 129 (tl + 4))))) ⟨[.s true, .t, .s false, .s false, .s true, .f, .s false], 130⟩) (moreP (headOf Tryd.f3 0) ([]) Tryd.f3.ntmps (lcR c N (i + 1) (qE 123) (q1 127)) (htE c hd true tl ++ (rwE 123 ++ (rwE 127 ++ msE 129 (tl + 4)))) 900) =
    (OkL [(decide ((↑i : Int) < IntKind.i64.wrap ((↑N : Int) + (130 : Int))), true), (decide ((↑i : Int) < (↑N : Int)), false), (decide (IntKind.i64.wrap ((-1 : Int) - (↑i : Int).tmod (2 : Int)) ≥ (0 : Int)), false), (IntKind.i64.wrap ((-1 : Int) - (↑i : Int).tmod (2 : Int)) == (-1 : Int), true), (decide (IntKind.i64.wrap ((-1 : Int) - (↑i : Int).tmod (2 : Int)) < (-1 : Int)), false)] ∧ headOf Tryd.f3 (0 : Nat) = headOf Tryd.f3 (0 : Nat) ∧ (c = c ∧ ((0 : Nat) = (0 : Nat) ∧ N = N) ∧ (0 : Nat) = (0 : Nat) ∧ (0 : Nat) = (0 : Nat) ∧ (([(1 : Nat)] = [(1 : Nat)] ∧ (0 : Nat) = (0 : Nat)) ∧ (0 : Nat) = (0 : Nat)) ∧ ((0 : Nat) = (0 : Nat) ∧ (1 : Nat) = (1 : Nat)) ∧ IntKind.i64.wrap ((↑N : Int) + (130 : Int)) = IntKind.i64.wrap ((↑N : Int) + (130 : Int)) ∧ (↑(i + (1 : Nat)) : Int) = IntKind.i64.wrap ((↑i : Int) + (1 : Int))) ∧ (hd = hd ∧ true = true) ∧ (tl = tl ∧ iand IntKind.i64 c (27 : Int) = iand IntKind.i64 c (27 : Int)) ∧ ((1 : Nat) = (1 : Nat) ∧ (∀ (i : Nat), i < (1 : Nat) → (0 : Nat) = (0 : Nat)) ∧ ∀ (i : Nat), i < (1 : Nat) → (2 : Nat) = (2 : Nat)) ∧ ((1 : Nat) = (1 : Nat) ∧ (∀ (i : Nat), i < (1 : Nat) → (0 : Nat) = (0 : Nat)) ∧ ∀ (i : Nat), i < (1 : Nat) → (2 : Nat) = (2 : Nat)) ∧ (2 : Nat) = (2 : Nat) ∧ ∀ (i : Nat), i < (2 : Nat) → mF (tl + (4 : Int)) [i] = mF (tl + (4 : Int)) [i]) := by kernel_rfl
theorem sameW2_p1 (t0 t1 t2 t3 t4 t5 : List UInt8) (c : Int) (N : Nat) (A : Ix → Int) (i : Nat) (hd tl : Int) :
    isMore (evTill Tryd.prog sumsE 400 (behind Tryd.f3 0) 900 3 (headOf Tryd.f3 0) (envAt Tryd.f3.ntmps (lcR c N i (qE 123) (q1 127))) (XR t0 t1 t2 t3 t4 t5 N A ++ (htE c hd true tl ++ (rwE 123 ++ (rwE 127 ++ msE 129 (tl + 4))))) ⟨[.s true, .t, .s true, .s true, .s true, .s true, .s false, .s true, .f, .s false], 130⟩) (moreP (headOf Tryd.f3 0) ([]) Tryd.f3.ntmps (lcR c N (i + 1) (qE 123) (q1 127)) (htE c hd true tl ++ (rwE 123 ++ (rwE 127 ++ msE 129 (tl + 4)))) 900) =
    (OkL [(decide ((↑i : Int) < IntKind.i64.wrap ((↑N : Int) + (130 : Int))), true), (decide ((↑i : Int) < (↑N : Int)), true), (decide ((0 : Int) ≤ (↑i : Int) ∧ (↑i : Int) < (↑N : Int)), true), (((0 : Nat) + (↑i : Int).toNat).blt N, true), (((0 : Nat) + (↑i : Int).toNat).blt N, true), (decide (A [(0 : Nat) + (↑i : Int).toNat] ≥ (0 : Int)), false), (A [(0 : Nat) + (↑i : Int).toNat] == (-1 : Int), true), (decide (A [(0 : Nat) + (↑i : Int).toNat] < (-1 : Int)), false)] ∧ headOf Tryd.f3 (0 : Nat) = headOf Tryd.f3 (0 : Nat) ∧ (c = c ∧ ((0 : Nat) = (0 : Nat) ∧ N = N) ∧ (0 : Nat) = (0 : Nat) ∧ (0 : Nat) = (0 : Nat) ∧ (([(1 : Nat)] = [(1 : Nat)] ∧ (0 : Nat) = (0 : Nat)) ∧ (0 : Nat) = (0 : Nat)) ∧ ((0 : Nat) = (0 : Nat) ∧ (1 : Nat) = (1 : Nat)) ∧ IntKind.i64.wrap ((↑N : Int) + (130 : Int)) = IntKind.i64.wrap ((↑N : Int) + (130 : Int)) ∧ (↑(i + (1 : Nat)) : Int) = IntKind.i64.wrap ((↑i : Int) + (1 : Int))) ∧ (hd = hd ∧ true = true) ∧ (tl = tl ∧ iand IntKind.i64 c (27 : Int) = iand IntKind.i64 c (27 : Int)) ∧ ((1 : Nat) = (1 : Nat) ∧ (∀ (i : Nat), i < (1 : Nat) → (0 : Nat) = (0 : Nat)) ∧ ∀ (i : Nat), i < (1 : Nat) → (2 : Nat) = (2 : Nat)) ∧ ((1 : Nat) = (1 : Nat) ∧ (∀ (i : Nat), i < (1 : Nat) → (0 : Nat) = (0 : Nat)) ∧ ∀ (i : Nat), i < (1 : Nat) → (2 : Nat) = (2 : Nat)) ∧ (2 : Nat) = (2 : Nat) ∧ ∀ (i : Nat), i < (2 : Nat) → mF (tl + (4 : Int)) [i] = mF (tl + (4 : Int)) [i]) := by kernel_rfl
theorem sameW2_p2 (t0 t1 t2 t3 t4 t5 : List UInt8) (c : Int) (N : Nat) (A : Ix → Int) (i : Nat) (hd tl : Int) :
    isMore (evTill Tryd.prog sumsE 400 (behind Tryd.f3 0) 900 3 (headOf Tryd.f3 0) (envAt Tryd.f3.ntmps (lcR c N i (qE 123) (q1 127))) (XR t0 t1 t2 t3 t4 t5 N A ++ (htE c hd true tl ++ (rwE 123 ++ (rwE 127 ++ msE 129 (tl + 4))))) ⟨[.s true, .t, .s true, .s true, .s true, .s true, .s true, .t, .s false, .t, .f], 130⟩) (moreP (headOf Tryd.f3 0) ([]) Tryd.f3.ntmps (lcR c N (i + 1) (qE 123) (q1 127)) (htE c hd true tl ++ (rwE 123 ++ (rwE 127 ++ msE 129 (tl + 4)))) 900) =
    (OkL [(decide ((↑i : Int) < IntKind.i64.wrap ((↑N : Int) + (130 : Int))), true), (decide ((↑i : Int) < (↑N : Int)), true), (decide ((0 : Int) ≤ (↑i : Int) ∧ (↑i : Int) < (↑N : Int)), true), (((0 : Nat) + (↑i : Int).toNat).blt N, true), (((0 : Nat) + (↑i : Int).toNat).blt N, true), (decide (A [(0 : Nat) + (↑i : Int).toNat] ≥ (0 : Int)), true), (!rightC (A [(0 : Nat) + (↑i : Int).toNat]), false)] ∧ headOf Tryd.f3 (0 : Nat) = headOf Tryd.f3 (0 : Nat) ∧ (c = c ∧ ((0 : Nat) = (0 : Nat) ∧ N = N) ∧ (0 : Nat) = (0 : Nat) ∧ (0 : Nat) = (0 : Nat) ∧ (([(1 : Nat)] = [(1 : Nat)] ∧ (0 : Nat) = (0 : Nat)) ∧ (0 : Nat) = (0 : Nat)) ∧ ((0 : Nat) = (0 : Nat) ∧ (1 : Nat) = (1 : Nat)) ∧ IntKind.i64.wrap ((↑N : Int) + (130 : Int)) = IntKind.i64.wrap ((↑N : Int) + (130 : Int)) ∧ (↑(i + (1 : Nat)) : Int) = IntKind.i64.wrap ((↑i : Int) + (1 : Int))) ∧ (hd = hd ∧ true = true) ∧ (tl = tl ∧ iand IntKind.i64 c (27 : Int) = iand IntKind.i64 c (27 : Int)) ∧ ((1 : Nat) = (1 : Nat) ∧ (∀ (i : Nat), i < (1 : Nat) → (0 : Nat) = (0 : Nat)) ∧ ∀ (i : Nat), i < (1 : Nat) → (2 : Nat) = (2 : Nat)) ∧ ((1 : Nat) = (1 : Nat) ∧ (∀ (i : Nat), i < (1 : Nat) → (0 : Nat) = (0 : Nat)) ∧ ∀ (i : Nat), i < (1 : Nat) → (2 : Nat) = (2 : Nat)) ∧ (2 : Nat) = (2 : Nat) ∧ ∀ (i : Nat), i < (2 : Nat) → mF (tl + (4 : Int)) [i] = mF (tl + (4 : Int)) [i]) := by kernel_rfl
theorem sameW2_p3 (t0 t1 t2 t3 t4 t5 : List UInt8) (c : Int) (N : Nat) (A : Ix → Int) (i : Nat) (hd tl : Int) :
    isMore (evTill Tryd.prog sumsE 400 (behind Tryd.f3 0) 900 3 (headOf Tryd.f3 0) (envAt Tryd.f3.ntmps (lcR c N i (qE 123) (q1 127))) (XR t0 t1 t2 t3 t4 t5 N A ++ (htE c hd true tl ++ (rwE 123 ++ (rwE 127 ++ msE 129 (tl + 4))))) ⟨[.s true, .t, .s true, .s true, .s true, .s true, .s true, .t, .s true, .f], 130⟩) (moreP (headOf Tryd.f3 0) ([]) Tryd.f3.ntmps (lcR c N (i + 1) (qE 123) (q1 127)) (htE c hd true tl ++ (rwE 123 ++ (rwE 127 ++ msE 129 (tl + 4)))) 900) =
    (OkL [(decide ((↑i : Int) < IntKind.i64.wrap ((↑N : Int) + (130 : Int))), true), (decide ((↑i : Int) < (↑N : Int)), true), (decide ((0 : Int) ≤ (↑i : Int) ∧ (↑i : Int) < (↑N : Int)), true), (((0 : Nat) + (↑i : Int).toNat).blt N, true), (((0 : Nat) + (↑i : Int).toNat).blt N, true), (decide (A [(0 : Nat) + (↑i : Int).toNat] ≥ (0 : Int)), true), (!rightC (A [(0 : Nat) + (↑i : Int).toNat]), true)] ∧ headOf Tryd.f3 (0 : Nat) = headOf Tryd.f3 (0 : Nat) ∧ (c = c ∧ ((0 : Nat) = (0 : Nat) ∧ N = N) ∧ (0 : Nat) = (0 : Nat) ∧ (0 : Nat) = (0 : Nat) ∧ (([(1 : Nat)] = [(1 : Nat)] ∧ (0 : Nat) = (0 : Nat)) ∧ (0 : Nat) = (0 : Nat)) ∧ ((0 : Nat) = (0 : Nat) ∧ (1 : Nat) = (1 : Nat)) ∧ IntKind.i64.wrap ((↑N : Int) + (130 : Int)) = IntKind.i64.wrap ((↑N : Int) + (130 : Int)) ∧ (↑(i + (1 : Nat)) : Int) = IntKind.i64.wrap ((↑i : Int) + (1 : Int))) ∧ (hd = hd ∧ true = true) ∧ (tl = tl ∧ iand IntKind.i64 c (27 : Int) = iand IntKind.i64 c (27 : Int)) ∧ ((1 : Nat) = (1 : Nat) ∧ (∀ (i : Nat), i < (1 : Nat) → (0 : Nat) = (0 : Nat)) ∧ ∀ (i : Nat), i < (1 : Nat) → (2 : Nat) = (2 : Nat)) ∧ ((1 : Nat) = (1 : Nat) ∧ (∀ (i : Nat), i < (1 : Nat) → (0 : Nat) = (0 : Nat)) ∧ ∀ (i : Nat), i < (1 : Nat) → (2 : Nat) = (2 : Nat)) ∧ (2 : Nat) = (2 : Nat) ∧ ∀ (i : Nat), i < (2 : Nat) → mF (tl + (4 : Int)) [i] = mF (tl + (4 : Int)) [i]) := by kernel_rfl

set_option maxHeartbeats 4000000 in
theorem sameW2 (t0 t1 t2 t3 t4 t5 : List UInt8) (c : Int) (N : Nat) (A : Ix → Int) (i : Nat) (hd tl : Int) (hi : i < N + 130) (hN : N ≤ 60) (hA : i < N → -9223372036854775808 ≤ A [i] ∧ A [i] < 9223372036854775808) (ha : (i < N → -1 ≤ A [i]) ∧ (N ≤ i → i % 2 = 0)) (next : RunsTo Tryd.prog 3 (headOf Tryd.f3 0) (envAt Tryd.f3.ntmps (lcR c N (i + 1) (qE 123) (q1 127))) (Sx.look (XR t0 t1 t2 t3 t4 t5 N A ++ (htE c hd true tl ++ (rwE 123 ++ (rwE 127 ++ msE 129 (tl + 4)))))) 110 YES (Sx.look []) 900) :
    RunsTo Tryd.prog 3 (headOf Tryd.f3 0) (envAt Tryd.f3.ntmps (lcR c N i (qE 123) (q1 127))) (Sx.look (XR t0 t1 t2 t3 t4 t5 N A ++ (htE c hd true tl ++ (rwE 123 ++ (rwE 127 ++ msE 129 (tl + 4)))))) 110 YES (Sx.look []) 900 := by
  have hwN : IntKind.i64.wrap ((N : Int) + 130) = (N : Int) + 130 := wr64 (by omega)
  refine bcase (c := (decide ((↑i : Int) < (↑N : Int)))) (fun gg0 => ?_) (fun gg0 => ?_)
  · refine runs_more baseE (More.of (sameW2_p0 t0 t1 t2 t3 t4 t5 c N A i hd tl) ⟨?oo, rfl, ?rr⟩) (by kernel_rfl) (by kernel_rfl) rfl (gtL (by decide)) (by decide) next
    case oo =>
      clear next
      refine (okc ?_ (okc gg0 (okc ?_ (okc ?_ (okc ?_ okn)))))
      all_goals ((try simp (disch := omega) only [SS, nmE, mF, hwN, tm2, Go.Sx.sum]); first | done | omega | assumption | (simp (disch := omega) only [SS, nmE, mF, hwN, tm2, Go.Sx.sum] at *; first | done | omega | assumption) | (simp_all; done) | grind)
    case rr =>
      clear next
      have hw : IntKind.i64.wrap ((i : Int) + 1) = ((i + 1 : Nat) : Int) := by rw [wr64 (by omega)]; rfl
      simp (disch := omega) only [SS, nmE, mF, hwN, tm2, Go.Sx.sum, hw]
      repeat' apply And.intro
      all_goals first | trivial | rfl | omega | exact hw.symm | (intro k hk; rcases (by omega : k = 0 ∨ k = 1) with rfl | rfl <;> simp [mF, upd, *]; done) | (intros; first | trivial | rfl | (simp_all; done)) | (simp_all; done)
  · refine bcase (c := (decide (A [(0 : Nat) + (↑i : Int).toNat] ≥ (0 : Int)))) (fun gg1 => ?_) (fun gg1 => ?_)
    · refine runs_more baseE (More.of (sameW2_p1 t0 t1 t2 t3 t4 t5 c N A i hd tl) ⟨?oo, rfl, ?rr⟩) (by kernel_rfl) (by kernel_rfl) rfl (gtL (by decide)) (by decide) next
      case oo =>
        clear next
        refine (okc ?_ (okc gg0 (okc ?_ (okc ?_ (okc ?_ (okc gg1 (okc ?_ (okc ?_ okn))))))))
        all_goals ((try simp (disch := omega) only [SS, nmE, mF, hwN, tm2, Go.Sx.sum]); first | done | omega | assumption | (simp (disch := omega) only [SS, nmE, mF, hwN, tm2, Go.Sx.sum] at *; first | done | omega | assumption) | (simp_all; done) | grind)
      case rr =>
        clear next
        have hw : IntKind.i64.wrap ((i : Int) + 1) = ((i + 1 : Nat) : Int) := by rw [wr64 (by omega)]; rfl
        simp (disch := omega) only [SS, nmE, mF, hwN, tm2, Go.Sx.sum, hw]
        repeat' apply And.intro
        all_goals first | trivial | rfl | omega | exact hw.symm | (intro k hk; rcases (by omega : k = 0 ∨ k = 1) with rfl | rfl <;> simp [mF, upd, *]; done) | (intros; first | trivial | rfl | (simp_all; done)) | (simp_all; done)
    · refine bcase (c := (!rightC (A [(0 : Nat) + (↑i : Int).toNat]))) (fun gg2 => ?_) (fun gg2 => ?_)
      · refine runs_more baseE (More.of (sameW2_p2 t0 t1 t2 t3 t4 t5 c N A i hd tl) ⟨?oo, rfl, ?rr⟩) (by kernel_rfl) (by kernel_rfl) rfl (gtL (by decide)) (by decide) next
        case oo =>
          clear next
          refine (okc ?_ (okc gg0 (okc ?_ (okc ?_ (okc ?_ (okc gg1 (okc gg2 okn)))))))
          all_goals ((try simp (disch := omega) only [SS, nmE, mF, hwN, tm2, Go.Sx.sum]); first | done | omega | assumption | (simp (disch := omega) only [SS, nmE, mF, hwN, tm2, Go.Sx.sum] at *; first | done | omega | assumption) | (simp_all; done) | grind)
        case rr =>
          clear next
          have hw : IntKind.i64.wrap ((i : Int) + 1) = ((i + 1 : Nat) : Int) := by rw [wr64 (by omega)]; rfl
          simp (disch := omega) only [SS, nmE, mF, hwN, tm2, Go.Sx.sum, hw]
          repeat' apply And.intro
          all_goals first | trivial | rfl | omega | exact hw.symm | (intro k hk; rcases (by omega : k = 0 ∨ k = 1) with rfl | rfl <;> simp [mF, upd, *]; done) | (intros; first | trivial | rfl | (simp_all; done)) | (simp_all; done)
      · refine runs_more baseE (More.of (sameW2_p3 t0 t1 t2 t3 t4 t5 c N A i hd tl) ⟨?oo, rfl, ?rr⟩) (by kernel_rfl) (by kernel_rfl) rfl (gtL (by decide)) (by decide) next
        case oo =>
          clear next
          refine (okc ?_ (okc gg0 (okc ?_ (okc ?_ (okc ?_ (okc gg1 (okc gg2 okn)))))))
          all_goals ((try simp (disch := omega) only [SS, nmE, mF, hwN, tm2, Go.Sx.sum]); first | done | omega | assumption | (simp (disch := omega) only [SS, nmE, mF, hwN, tm2, Go.Sx.sum] at *; first | done | omega | assumption) | (simp_all; done) | grind)
        case rr =>
          clear next
          have hw : IntKind.i64.wrap ((i : Int) + 1) = ((i + 1 : Nat) : Int) := by rw [wr64 (by omega)]; rfl
          simp (disch := omega) only [SS, nmE, mF, hwN, tm2, Go.Sx.sum, hw]
          repeat' apply And.intro
          all_goals first | trivial | rfl | omega | exact hw.symm | (intro k hk; rcases (by omega : k = 0 ∨ k = 1) with rfl | rfl <;> simp [mF, upd, *]; done) | (intros; first | trivial | rfl | (simp_all; done)) | (simp_all; done)

theorem stepW2_p0 (t0 t1 t2 t3 t4 t5 : List UInt8) (c : Int) (N : Nat) (A : Ix → Int) (i : Nat) (hd tl : Int) :
    isMore (evTill Tryd.prog sumsE 400 (behind Tryd.f3 0) 900 3 (headOf Tryd.f3 0) (envAt Tryd.f3.ntmps (lcR c N i (qE 123) (q1 127))) (XR t0 t1 t2 t3 t4 t5 N A ++ (htE c hd true tl ++ (rwE 123 ++ (rwE 127 ++ msE 129 (tl + 4))))) ⟨[.s true, .t, .s false, .s false, .s false, .s true, .t, .t, .t, .t, .f, .f, .t, .t, .t, .f, .t, .t, .t, .t, .s false, .t, .t, .t, .f, .s false, .f, .f, .t, .t], 130⟩) (moreP (headOf Tryd.f3 0) ([]) Tryd.f3.ntmps (lcR c N (i + 1) (qE 123) (qE 127)) (htE c tl false tl ++ (rwE 123 ++ rwE 127)) 900) =
    (OkL [(decide ((↑i : Int) < IntKind.i64.wrap ((↑N : Int) + (130 : Int))), true), (decide ((↑i : Int) < (↑N : Int)), false), (decide (IntKind.i64.wrap ((-1 : Int) - (↑i : Int).tmod (2 : Int)) ≥ (0 : Int)), false), (IntKind.i64.wrap ((-1 : Int) - (↑i : Int).tmod (2 : Int)) == (-1 : Int), false), (decide (IntKind.i64.wrap ((-1 : Int) - (↑i : Int).tmod (2 : Int)) < (-1 : Int)), true), (!rightC (iandn IntKind.i64 (IntKind.i64.wrap (mF (tl + (4 : Int)) [(1 : Nat)])) (4 : Int)), false), (!iand IntKind.u8 (mF (tl + (4 : Int)) [(1 : Nat)]) (4 : Int) != (0 : Int), false)] ∧ headOf Tryd.f3 (0 : Nat) = headOf Tryd.f3 (0 : Nat) ∧ (c = c ∧ ((0 : Nat) = (0 : Nat) ∧ N = N) ∧ (0 : Nat) = (0 : Nat) ∧ (0 : Nat) = (0 : Nat) ∧ (([(1 : Nat)] = [(1 : Nat)] ∧ (0 : Nat) = (0 : Nat)) ∧ (0 : Nat) = (0 : Nat)) ∧ (([(1 : Nat)] = [(1 : Nat)] ∧ (0 : Nat) = (0 : Nat)) ∧ (0 : Nat) = (0 : Nat)) ∧ IntKind.i64.wrap ((↑N : Int) + (130 : Int)) = IntKind.i64.wrap ((↑N : Int) + (130 : Int)) ∧ (↑(i + (1 : Nat)) : Int) = IntKind.i64.wrap ((↑i : Int) + (1 : Int))) ∧ (tl = iandn IntKind.i64 (IntKind.i64.wrap (mF (tl + (4 : Int)) [(1 : Nat)])) (4 : Int) ∧ false = false) ∧ (tl = tl ∧ iand IntKind.i64 c (27 : Int) = iand IntKind.i64 c (27 : Int)) ∧ ((1 : Nat) = (1 : Nat) ∧ (∀ (i : Nat), i < (1 : Nat) → (0 : Nat) = (0 : Nat)) ∧ ∀ (i : Nat), i < (1 : Nat) → (2 : Nat) = (2 : Nat)) ∧ (1 : Nat) = (1 : Nat) ∧ (∀ (i : Nat), i < (1 : Nat) → (0 : Nat) = (0 : Nat)) ∧ ∀ (i : Nat), i < (1 : Nat) → (2 : Nat) = (2 : Nat)) := by kernel_rfl
theorem stepW2_p1 (t0 t1 t2 t3 t4 t5 : List UInt8) (c : Int) (N : Nat) (A : Ix → Int) (i : Nat) (hd tl : Int) :
    isMore (evTill Tryd.prog sumsE 400 (behind Tryd.f3 0) 900 3 (headOf Tryd.f3 0) (envAt Tryd.f3.ntmps (lcR c N i (qE 123) (q1 127))) (XR t0 t1 t2 t3 t4 t5 N A ++ (htE c hd true tl ++ (rwE 123 ++ (rwE 127 ++ msE 129 (tl + 4))))) ⟨[.s true, .t, .s true, .s true, .s true, .s true, .s false, .s false, .s true, .t, .t, .t, .t, .f, .f, .t, .t, .t, .f, .t, .t, .t, .t, .s false, .t, .t, .t, .f, .s false, .f, .f, .t, .t], 130⟩) (moreP (headOf Tryd.f3 0) ([]) Tryd.f3.ntmps (lcR c N (i + 1) (qE 123) (qE 127)) (htE c tl false tl ++ (rwE 123 ++ rwE 127)) 900) =
    (OkL [(decide ((↑i : Int) < IntKind.i64.wrap ((↑N : Int) + (130 : Int))), true), (decide ((↑i : Int) < (↑N : Int)), true), (decide ((0 : Int) ≤ (↑i : Int) ∧ (↑i : Int) < (↑N : Int)), true), (((0 : Nat) + (↑i : Int).toNat).blt N, true), (((0 : Nat) + (↑i : Int).toNat).blt N, true), (decide (A [(0 : Nat) + (↑i : Int).toNat] ≥ (0 : Int)), false), (A [(0 : Nat) + (↑i : Int).toNat] == (-1 : Int), false), (decide (A [(0 : Nat) + (↑i : Int).toNat] < (-1 : Int)), true), (!rightC (iandn IntKind.i64 (IntKind.i64.wrap (mF (tl + (4 : Int)) [(1 : Nat)])) (4 : Int)), false), (!iand IntKind.u8 (mF (tl + (4 : Int)) [(1 : Nat)]) (4 : Int) != (0 : Int), false)] ∧ headOf Tryd.f3 (0 : Nat) = headOf Tryd.f3 (0 : Nat) ∧ (c = c ∧ ((0 : Nat) = (0 : Nat) ∧ N = N) ∧ (0 : Nat) = (0 : Nat) ∧ (0 : Nat) = (0 : Nat) ∧ (([(1 : Nat)] = [(1 : Nat)] ∧ (0 : Nat) = (0 : Nat)) ∧ (0 : Nat) = (0 : Nat)) ∧ (([(1 : Nat)] = [(1 : Nat)] ∧ (0 : Nat) = (0 : Nat)) ∧ (0 : Nat) = (0 : Nat)) ∧ IntKind.i64.wrap ((↑N : Int) + (130 : Int)) = IntKind.i64.wrap ((↑N : Int) + (130 : Int)) ∧ (↑(i + (1 : Nat)) : Int) = IntKind.i64.wrap ((↑i : Int) + (1 : Int))) ∧ (tl = iandn IntKind.i64 (IntKind.i64.wrap (mF (tl + (4 : Int)) [(1 : Nat)])) (4 : Int) ∧ false = false) ∧ (tl = tl ∧ iand IntKind.i64 c (27 : Int) = iand IntKind.i64 c (27 : Int)) ∧ ((1 : Nat) = (1 : Nat) ∧ (∀ (i : Nat), i < (1 : Nat) → (0 : Nat) = (0 : Nat)) ∧ ∀ (i : Nat), i < (1 : Nat) → (2 : Nat) = (2 : Nat)) ∧ (1 : Nat) = (1 : Nat) ∧ (∀ (i : Nat), i < (1 : Nat) → (0 : Nat) = (0 : Nat)) ∧ ∀ (i : Nat), i < (1 : Nat) → (2 : Nat) = (2 : Nat)) := by kernel_rfl

set_option maxHeartbeats 4000000 in
theorem stepW2 (t0 t1 t2 t3 t4 t5 : List UInt8) (c : Int) (N : Nat) (A : Ix → Int) (i : Nat) (hd tl : Int) (hi : i < N + 130) (hN : N ≤ 60) (hA : i < N → -9223372036854775808 ≤ A [i] ∧ A [i] < 9223372036854775808) (ha : (i < N → A [i] < -1) ∧ (N ≤ i → i % 2 = 1)) (hr : rightR tl = true) (next : RunsTo Tryd.prog 3 (headOf Tryd.f3 0) (envAt Tryd.f3.ntmps (lcR c N (i + 1) (qE 123) (qE 127))) (Sx.look (XR t0 t1 t2 t3 t4 t5 N A ++ (htE c tl false tl ++ (rwE 123 ++ rwE 127)))) 110 YES (Sx.look []) 900) :
    RunsTo Tryd.prog 3 (headOf Tryd.f3 0) (envAt Tryd.f3.ntmps (lcR c N i (qE 123) (q1 127))) (Sx.look (XR t0 t1 t2 t3 t4 t5 N A ++ (htE c hd true tl ++ (rwE 123 ++ (rwE 127 ++ msE 129 (tl + 4)))))) 110 YES (Sx.look []) 900 := by
  have hwN : IntKind.i64.wrap ((N : Int) + 130) = (N : Int) + 130 := wr64 (by omega)
  obtain ⟨f1, f2, f3, f4, f5, f6, f7, f8, f9⟩ := one_of hr
  refine bcase (c := (decide ((↑i : Int) < (↑N : Int)))) (fun gg0 => ?_) (fun gg0 => ?_)
  · refine runs_more baseE (More.of (stepW2_p0 t0 t1 t2 t3 t4 t5 c N A i hd tl) ⟨?oo, rfl, ?rr⟩) (by kernel_rfl) (by kernel_rfl) rfl (gtL (by decide)) (by decide) next
    case oo =>
      clear next
      refine (okc ?_ (okc gg0 (okc ?_ (okc ?_ (okc ?_ (okc ?_ (okc ?_ okn)))))))
      all_goals ((try simp (disch := omega) only [SS, nmE, mF, hwN, tm2, Go.Sx.sum, f1, f2, f3, f4, f5, f6, f7]); first | done | omega | assumption | (simp (disch := omega) only [SS, nmE, mF, hwN, tm2, Go.Sx.sum, f1, f2, f3, f4, f5, f6, f7] at *; first | done | omega | assumption) | (simp_all; done) | grind)
    case rr =>
      clear next
      have hw : IntKind.i64.wrap ((i : Int) + 1) = ((i + 1 : Nat) : Int) := by rw [wr64 (by omega)]; rfl
      simp (disch := omega) only [SS, nmE, mF, hwN, tm2, Go.Sx.sum, f1, f2, f3, f4, f5, f6, f7, hw]
      repeat' apply And.intro
      all_goals first | trivial | rfl | omega | exact hw.symm | (intro k hk; rcases (by omega : k = 0 ∨ k = 1) with rfl | rfl <;> simp [mF, upd, *]; done) | (intros; first | trivial | rfl | (simp_all; done)) | (simp_all; done)
  · refine runs_more baseE (More.of (stepW2_p1 t0 t1 t2 t3 t4 t5 c N A i hd tl) ⟨?oo, rfl, ?rr⟩) (by kernel_rfl) (by kernel_rfl) rfl (gtL (by decide)) (by decide) next
    case oo =>
      clear next
      refine (okc ?_ (okc gg0 (okc ?_ (okc ?_ (okc ?_ (okc ?_ (okc ?_ (okc ?_ (okc ?_ (okc ?_ okn))))))))))
      all_goals ((try simp (disch := omega) only [SS, nmE, mF, hwN, tm2, Go.Sx.sum, f1, f2, f3, f4, f5, f6, f7]); first | done | omega | assumption | (simp (disch := omega) only [SS, nmE, mF, hwN, tm2, Go.Sx.sum, f1, f2, f3, f4, f5, f6, f7] at *; first | done | omega | assumption) | (simp_all; done) | grind)
    case rr =>
      clear next
      have hw : IntKind.i64.wrap ((i : Int) + 1) = ((i + 1 : Nat) : Int) := by rw [wr64 (by omega)]; rfl
      simp (disch := omega) only [SS, nmE, mF, hwN, tm2, Go.Sx.sum, f1, f2, f3, f4, f5, f6, f7, hw]
      repeat' apply And.intro
      all_goals first | trivial | rfl | omega | exact hw.symm | (intro k hk; rcases (by omega : k = 0 ∨ k = 1) with rfl | rfl <;> simp [mF, upd, *]; done) | (intros; first | trivial | rfl | (simp_all; done)) | (simp_all; done)

end Go.Proofs.YtealbjkhjpmilaaDoor
