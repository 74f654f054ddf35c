/- Masks: what the document's functions do. -/
import Derived.Test.YtealbjkhjpmilaaDoorKaC
set_option linter.unusedSimpArgs false
set_option linter.unusedVariables false
set_option maxRecDepth 100000
namespace Go.Proofs.YtealbjkhjpmilaaDoor
open Go.Sx


def cutL (s : List UInt8) : List UInt8 := (s.reverse.dropWhile (· == 0)).reverse
def memL (s : List UInt8) (c : Nat) : Bool := s.any fun b => b.toNat == c
def vB8 (f : Nat → Bool) : Nat → Int
  | 0 => 0
  | k + 1 => 2 * vB8 f k + (if f k = true then 1 else 0)
def vK (s : List UInt8) (i k : Nat) : Int := vB8 (fun k => memL s (8 * i + k)) k
def rowR (s : List UInt8) : Nat → List UInt8
  | 0 => []
  | i + 1 => rowR s i ++ [UInt8.ofNat (vK s i 8).toNat]
def inR (s : List UInt8) (c : Int) : Bool := if s.length ≤ c.toNat / 8 then false else (s.getD (c.toNat / 8) 0).toNat / 2 ^ (7 - c.toNat % 8) % 2 == 1
theorem vB8_bnd (f : Nat → Bool) : ∀ k, 0 ≤ vB8 f k ∧ vB8 f k < 2 ^ k
  | 0 => by simp [vB8]
  | k + 1 => by
    have := vB8_bnd f k
    simp only [vB8, Int.pow_succ]
    split <;> omega
theorem vK_bnd (s : List UInt8) (i k : Nat) (hk : k ≤ 8) : 0 ≤ vK s i k ∧ vK s i k < 256 := by
  have h := vB8_bnd (fun k => memL s (8 * i + k)) k
  have h2 : (2 : Int) ^ k ≤ 256 := by
    have : k = 0 ∨ k = 1 ∨ k = 2 ∨ k = 3 ∨ k = 4 ∨ k = 5 ∨ k = 6 ∨ k = 7 ∨ k = 8 := by omega
    rcases this with rfl | rfl | rfl | rfl | rfl | rfl | rfl | rfl | rfl <;> decide
  unfold vK
  omega
theorem cutL_app (s : List UInt8) (c : UInt8) : cutL (s ++ [c]) = if c = 0 then cutL s else s ++ [c] := by
  unfold cutL
  simp only [List.reverse_append, List.reverse_cons, List.reverse_nil, List.nil_append, List.cons_append, List.dropWhile_cons]
  by_cases h : c = 0 <;> simp [h]
theorem rowR_len (s : List UInt8) : ∀ i, (rowR s i).length = i
  | 0 => rfl
  | i + 1 => by simp [rowR, rowR_len s i]
theorem tdN (c k : Nat) : ((c : Int)).tdiv (k : Int) = ((c / k : Nat) : Int) := by rw [Int.tdiv_eq_ediv_of_nonneg (by omega)]; rfl
theorem tmN (c k : Nat) : ((c : Int)).tmod (k : Int) = ((c % k : Nat) : Int) := by rw [Int.tmod_eq_emod_of_nonneg (by omega)]; rfl
theorem cuStart_p0 (s : List UInt8) :
    isMore (evTill Tryd.prog [] 300 (behind Tryd.f30 0) 900 30 [.code (bodyOf Tryd.f30)] (envOf [vS s] Tryd.f30.ntmps) ([] ++ ([])) ⟨[], 80⟩) (moreP (headOf Tryd.f30 0) ([]) Tryd.f30.ntmps ([(0, vS (s))]) ([]) 140) =
    (OkL [] ∧ headOf Tryd.f30 (0 : Nat) = headOf Tryd.f30 (0 : Nat) ∧ s = s ∧ True) := by kernel_rfl

set_option maxHeartbeats 4000000 in
theorem cuStart (s : List UInt8)  (v : SV) (L' : HF) (next : RunsTo Tryd.prog 30 (headOf Tryd.f30 0) (envAt Tryd.f30.ntmps ([(0, vS (s))])) (Sx.look ([] ++ ([]))) 80 (v) (L') 140) :
    RunsTo Tryd.prog 30 [.code (bodyOf Tryd.f30)] (envOf [vS s] Tryd.f30.ntmps) (Sx.look ([] ++ ([]))) 80 (v) (L') 140 := by
  refine runs_more baseO (More.of (cuStart_p0 s) ⟨?oo, rfl, ?rr⟩) (by kernel_rfl) (by kernel_rfl) rfl (gtL (by decide)) (by decide) next
  case oo =>
    clear next
    refine okn
    all_goals ((try simp (disch := omega) only [SS]); first | done | omega | assumption | (simp (disch := omega) only [SS] at *; first | done | omega | assumption) | (simp_all; done) | grind)
  case rr =>
    clear next
    try simp (disch := omega) only [SS]
    repeat' apply And.intro
    all_goals first | trivial | rfl | omega | (intros; first | trivial | rfl | omega | (simp_all; done)) | (simp_all; done)

theorem cuRound_p0 (s : List UInt8) (c : UInt8) :
    isMore (evTill Tryd.prog [] 300 (behind Tryd.f30 0) 900 30 (headOf Tryd.f30 0) (envAt Tryd.f30.ntmps ([(0, vS (s ++ [c]))])) ([] ++ ([])) ⟨[.s true, .s true, .s true, .s true], 110⟩) (moreP (headOf Tryd.f30 0) ([]) Tryd.f30.ntmps ([(0, vS (s))]) ([]) 140) =
    (OkL [(decide ((↑(s ++ [c]).length : Int) > (0 : Int)), true), (decide ((0 : Int) ≤ IntKind.i64.wrap ((↑(s ++ [c]).length : Int) - (1 : Int)) ∧ IntKind.i64.wrap ((↑(s ++ [c]).length : Int) - (1 : Int)) < (↑(s ++ [c]).length : Int)), true), ((↑((s ++ [c]).getD (IntKind.i64.wrap ((↑(s ++ [c]).length : Int) - (1 : Int))).toNat (0 : UInt8)).toNat : Int) == (0 : Int), true), (decide ((0 : Int) ≤ IntKind.i64.wrap ((↑(s ++ [c]).length : Int) - (1 : Int)) ∧ IntKind.i64.wrap ((↑(s ++ [c]).length : Int) - (1 : Int)) ≤ (↑(s ++ [c]).length : Int)), true)] ∧ headOf Tryd.f30 (0 : Nat) = headOf Tryd.f30 (0 : Nat) ∧ s = List.drop (0 : Nat) (List.take (IntKind.i64.wrap ((↑(s ++ [c]).length : Int) - (1 : Int))).toNat (s ++ [c])) ∧ True) := by kernel_rfl

set_option maxHeartbeats 4000000 in
theorem cuRound (s : List UInt8) (c : UInt8) (hs : s.length ≤ 1000000) (hc : c = 0) (v : SV) (L' : HF) (next : RunsTo Tryd.prog 30 (headOf Tryd.f30 0) (envAt Tryd.f30.ntmps ([(0, vS (s))])) (Sx.look ([] ++ ([]))) 80 (v) (L') 140) :
    RunsTo Tryd.prog 30 (headOf Tryd.f30 0) (envAt Tryd.f30.ntmps ([(0, vS (s ++ [c]))])) (Sx.look ([] ++ ([]))) 80 (v) (L') 140 := by
  have hw : IntKind.i64.wrap (((s ++ [c]).length : Int) - 1) = (s.length : Int) := by rw [wr64 (by simp <;> omega)]; simp <;> omega
  have hg : (s ++ [c]).getD s.length 0 = c := by simp [List.getD]
  have hl : ((s ++ [c]).length : Int) = (s.length : Int) + 1 := by simp
  have hl2 : (s ++ [c]).length = s.length + 1 := by simp
  have hw2 : IntKind.i64.wrap ((s.length : Int) + 1 - 1) = (s.length : Int) := by rw [wr64 (by omega)]; omega
  refine runs_more baseO (More.of (cuRound_p0 s c) ⟨?oo, rfl, ?rr⟩) (by kernel_rfl) (by kernel_rfl) rfl (gtL (by decide)) (by decide) next
  case oo =>
    clear next
    refine (okc ?_ (okc ?_ (okc ?_ (okc ?_ okn))))
    all_goals ((try simp (disch := omega) only [SS, hw, hl, hl2, hw2, hg, hc]); first | done | omega | assumption | (simp (disch := omega) only [SS, hw, hl, hl2, hw2, hg, hc] at *; first | done | omega | assumption) | (simp_all; done) | grind)
  case rr =>
    clear next
    simp (disch := omega) only [SS, hw, hl, hl2, hw2]
    repeat' apply And.intro
    all_goals first | trivial | rfl | (simp; done) | (subst hc; simp_all; done)

theorem cuEnd0_p0 (s : List UInt8) :
    isEnd (evTill Tryd.prog [] 300 (99) 900 30 (headOf Tryd.f30 0) (envAt Tryd.f30.ntmps ([(0, vS ([]))])) ([] ++ ([])) ⟨[.f], 110⟩) (endP ([]) (vS []) ([]) 140) =
    (OkL [] ∧ ([] : List UInt8) = [] ∧ True) := by kernel_rfl

set_option maxHeartbeats 4000000 in
theorem cuEnd0 (s : List UInt8)  :
    RunsTo Tryd.prog 30 (headOf Tryd.f30 0) (envAt Tryd.f30.ntmps ([(0, vS ([]))])) (Sx.look ([] ++ ([]))) 80 (vS []) (Sx.look ([])) 140 := by
  refine runs_last baseO (Sx.Ends.of (cuEnd0_p0 s) ⟨?oo, ?rr⟩) (by kernel_rfl) rfl (gtL (by decide)) (by decide)
  case oo =>
    refine okn
    all_goals ((try simp (disch := omega) only [SS]); first | done | omega | assumption | (simp (disch := omega) only [SS] at *; first | done | omega | assumption) | (simp_all; done) | grind)
  case rr =>
    try simp (disch := omega) only [SS]
    repeat' apply And.intro
    all_goals first | trivial | rfl | omega | (intros; first | trivial | rfl | omega | (simp_all; done)) | (simp_all; done)

theorem cuEnd1_p0 (s : List UInt8) (c : UInt8) :
    isEnd (evTill Tryd.prog [] 300 (99) 900 30 (headOf Tryd.f30 0) (envAt Tryd.f30.ntmps ([(0, vS (s ++ [c]))])) ([] ++ ([])) ⟨[.s true, .s true, .s false], 110⟩) (endP ([]) (vS (s ++ [c])) ([]) 140) =
    (OkL [(decide ((↑(s ++ [c]).length : Int) > (0 : Int)), true), (decide ((0 : Int) ≤ IntKind.i64.wrap ((↑(s ++ [c]).length : Int) - (1 : Int)) ∧ IntKind.i64.wrap ((↑(s ++ [c]).length : Int) - (1 : Int)) < (↑(s ++ [c]).length : Int)), true), ((↑((s ++ [c]).getD (IntKind.i64.wrap ((↑(s ++ [c]).length : Int) - (1 : Int))).toNat (0 : UInt8)).toNat : Int) == (0 : Int), false)] ∧ s ++ [c] = s ++ [c] ∧ True) := by kernel_rfl

set_option maxHeartbeats 4000000 in
theorem cuEnd1 (s : List UInt8) (c : UInt8) (hs : s.length ≤ 1000000) (hc : c ≠ 0) :
    RunsTo Tryd.prog 30 (headOf Tryd.f30 0) (envAt Tryd.f30.ntmps ([(0, vS (s ++ [c]))])) (Sx.look ([] ++ ([]))) 80 (vS (s ++ [c])) (Sx.look ([])) 140 := by
  have hw : IntKind.i64.wrap (((s ++ [c]).length : Int) - 1) = (s.length : Int) := by rw [wr64 (by simp <;> omega)]; simp <;> omega
  have hg : (s ++ [c]).getD s.length 0 = c := by simp [List.getD]
  have hl : ((s ++ [c]).length : Int) = (s.length : Int) + 1 := by simp
  have hl2 : (s ++ [c]).length = s.length + 1 := by simp
  have hw2 : IntKind.i64.wrap ((s.length : Int) + 1 - 1) = (s.length : Int) := by rw [wr64 (by omega)]; omega
  refine runs_last baseO (Sx.Ends.of (cuEnd1_p0 s c) ⟨?oo, ?rr⟩) (by kernel_rfl) rfl (gtL (by decide)) (by decide)
  case oo =>
    refine (okc ?_ (okc ?_ (okc ?_ okn)))
    all_goals (first | (simp (disch := omega) only [SS, hw, hl, hl2, hw2, hg]; first | done | omega) | (simp (disch := omega) only [SS, hw, hl, hl2, hw2, hg]; intro h; exact hc (UInt8.toNat_inj.1 (by simpa using h))))
  case rr =>
    try simp (disch := omega) only [SS, hw, hl, hl2, hw2, hg, hc]
    repeat' apply And.intro
    all_goals first | trivial | rfl | omega | (intros; first | trivial | rfl | omega | (simp_all; done)) | (simp_all; done)

theorem cutI : ∀ (n : Nat) (s : List UInt8), s.length = n → n ≤ 1000000 → RunsTo Tryd.prog 30 (headOf Tryd.f30 0) (envAt Tryd.f30.ntmps ([(0, vS (s))])) (Sx.look ([] ++ ([]))) 80 (vS (cutL s)) (Sx.look []) 140 := by
  intro n
  induction n with
  | zero =>
    intro s hs _
    obtain rfl := List.length_eq_zero_iff.1 hs
    exact cuEnd0 []
  | succ n ih =>
    intro s hs hn
    obtain ⟨t, c, rfl⟩ : ∃ t c, s = t ++ [c] := by
      rcases List.eq_nil_or_concat s with h | ⟨t, c, h⟩
      · subst h; simp only [List.length_nil] at hs; omega
      · exact ⟨t, c, by simpa using h⟩
    have ht : t.length = n := by simpa using hs
    rw [cutL_app]
    by_cases hc : c = 0
    · rw [if_pos hc]; exact cuRound t c (by omega) hc _ _ (ih t ht (by omega))
    · rw [if_neg hc]; exact cuEnd1 t c (by omega) hc
def cutP : PC := { args := [.v (.vs 0)], heap := [], gs := [], G := 25, tp := 223, n := 80, n' := 140, cond := fun e => decide ((eS e 0 []).length ≤ 1000000), v := fun e => vS (cutL (eS e 0 [])), post := fun e => [] }
theorem cutP_pc : PC.Runs Tryd.prog 30 Tryd.f30 (bodyOf Tryd.f30) cutP := ⟨Tryd.func30, by kernel_rfl, (fun g hg => by first | cases hg | (revert g; decide)), fun e H hc => by
  have hc : (decide ((eS e 0 []).length ≤ 1000000)) = true := hc
  try simp only [Bool.and_eq_true, decide_eq_true_eq, Nat.beq_eq] at hc
  exact cuStart (eS e 0 []) _ _ (cutI _ (eS e 0 []) rfl hc)⟩
theorem inOut_p0 (s : List UInt8) (c : Nat) :
    isEnd (evTill Tryd.prog [] 300 (99) 900 27 [.code (bodyOf Tryd.f27)] (envOf [vS s, vN c] Tryd.f27.ntmps) ([] ++ ([])) ⟨[.t, .s true], 80⟩) (endP ([]) (vB false) ([]) 140) =
    (OkL [(decide (IntKind.i64.wrap ((↑c : Int).tdiv (8 : Int)) ≥ (↑s.length : Int)), true)] ∧ false = false ∧ True) := by kernel_rfl

set_option maxHeartbeats 4000000 in
theorem inOut (s : List UInt8) (c : Nat) (hc : c < 256) (hs : s.length ≤ c / 8) :
    RunsTo Tryd.prog 27 [.code (bodyOf Tryd.f27)] (envOf [vS s, vN c] Tryd.f27.ntmps) (Sx.look ([] ++ ([]))) 80 (vB false) (Sx.look ([])) 140 := by
  have td : (c : Int).tdiv 8 = ((c / 8 : Nat) : Int) := tdN c 8
  have tm : (c : Int).tmod 8 = ((c % 8 : Nat) : Int) := tmN c 8
  have w1 : IntKind.i64.wrap ((c / 8 : Nat) : Int) = ((c / 8 : Nat) : Int) := wr64 (by omega)
  have w2 : IntKind.i64.wrap (7 - ((c % 8 : Nat) : Int)) = ((7 - c % 8 : Nat) : Int) := by rw [wr64 (by omega)]; omega
  refine runs_last baseO (Sx.Ends.of (inOut_p0 s c) ⟨?oo, ?rr⟩) (by kernel_rfl) rfl (gtL (by decide)) (by decide)
  case oo =>
    refine (okc ?_ okn)
    all_goals ((try simp (disch := omega) only [SS, td, w1]); first | done | omega | assumption | (simp (disch := omega) only [SS, td, w1] at *; first | done | omega | assumption) | (simp_all; done) | grind)
  case rr =>
    try simp (disch := omega) only [SS, td, w1]
    repeat' apply And.intro
    all_goals first | trivial | rfl | omega | (intros; first | trivial | rfl | omega | (simp_all; done)) | (simp_all; done)

theorem inStart_p0 (s : List UInt8) (c : Nat) :
    isMore (evTill Tryd.prog [] 300 (behind Tryd.f27 0) 900 27 [.code (bodyOf Tryd.f27)] (envOf [vS s, vN c] Tryd.f27.ntmps) ([] ++ ([])) ⟨[.t, .s false, .t, .s true], 80⟩) (moreP (headOf Tryd.f27 0) ([]) Tryd.f27.ntmps ([(1, vN c), (5, vN ((s.getD (c / 8) 0).toNat : Nat)), (6, vN 0)]) ([]) 140) =
    (OkL [(decide (IntKind.i64.wrap ((↑c : Int).tdiv (8 : Int)) ≥ (↑s.length : Int)), false), (decide ((0 : Int) ≤ IntKind.i64.wrap ((↑c : Int).tdiv (8 : Int)) ∧ IntKind.i64.wrap ((↑c : Int).tdiv (8 : Int)) < (↑s.length : Int)), true)] ∧ headOf Tryd.f27 (0 : Nat) = headOf Tryd.f27 (0 : Nat) ∧ ((↑c : Int) = (↑c : Int) ∧ (↑(s.getD (c / (8 : Nat)) (0 : UInt8)).toNat : Int) = IntKind.i64.wrap (↑(s.getD (IntKind.i64.wrap ((↑c : Int).tdiv (8 : Int))).toNat (0 : UInt8)).toNat : Int) ∧ (0 : Int) = (0 : Int)) ∧ True) := by kernel_rfl

set_option maxHeartbeats 4000000 in
theorem inStart (s : List UInt8) (c : Nat) (hc : c < 256) (hs : c / 8 < s.length) (v : SV) (L' : HF) (next : RunsTo Tryd.prog 27 (headOf Tryd.f27 0) (envAt Tryd.f27.ntmps ([(1, vN c), (5, vN ((s.getD (c / 8) 0).toNat : Nat)), (6, vN 0)])) (Sx.look ([] ++ ([]))) 80 (v) (L') 140) :
    RunsTo Tryd.prog 27 [.code (bodyOf Tryd.f27)] (envOf [vS s, vN c] Tryd.f27.ntmps) (Sx.look ([] ++ ([]))) 80 (v) (L') 140 := by
  have td : (c : Int).tdiv 8 = ((c / 8 : Nat) : Int) := tdN c 8
  have tm : (c : Int).tmod 8 = ((c % 8 : Nat) : Int) := tmN c 8
  have w1 : IntKind.i64.wrap ((c / 8 : Nat) : Int) = ((c / 8 : Nat) : Int) := wr64 (by omega)
  have w2 : IntKind.i64.wrap (7 - ((c % 8 : Nat) : Int)) = ((7 - c % 8 : Nat) : Int) := by rw [wr64 (by omega)]; omega
  have wx : IntKind.i64.wrap (((s.getD (c / 8) 0).toNat : Nat) : Int) = (((s.getD (c / 8) 0).toNat : Nat) : Int) := by have := (s.getD (c / 8) 0).toNat_lt; exact wr64 (by omega)
  refine runs_more baseO (More.of (inStart_p0 s c) ⟨?oo, rfl, ?rr⟩) (by kernel_rfl) (by kernel_rfl) rfl (gtL (by decide)) (by decide) next
  case oo =>
    clear next
    refine (okc ?_ (okc ?_ okn))
    all_goals ((try simp (disch := omega) only [SS, td, w1, wx]); first | done | omega | assumption | (simp (disch := omega) only [SS, td, w1, wx] at *; first | done | omega | assumption) | (simp_all; done) | grind)
  case rr =>
    clear next
    try simp (disch := omega) only [SS, td, w1, wx]
    repeat' apply And.intro
    all_goals first | trivial | rfl | omega | (intros; first | trivial | rfl | omega | (simp_all; done)) | (simp_all; done)

theorem inRound_p0 (c x k : Nat) :
    isMore (evTill Tryd.prog [] 300 (behind Tryd.f27 0) 900 27 (headOf Tryd.f27 0) (envAt Tryd.f27.ntmps ([(1, vN c), (5, vN x), (6, vN k)])) ([] ++ ([])) ⟨[.t, .s true, .t], 110⟩) (moreP (headOf Tryd.f27 0) ([]) Tryd.f27.ntmps ([(1, vN c), (5, vN (x / 2 : Nat)), (6, vN (k + 1))]) ([]) 140) =
    (OkL [(decide ((↑k : Int) < IntKind.i64.wrap ((7 : Int) - (↑c : Int).tmod (8 : Int))), true)] ∧ headOf Tryd.f27 (0 : Nat) = headOf Tryd.f27 (0 : Nat) ∧ ((↑c : Int) = (↑c : Int) ∧ (↑(x / (2 : Nat)) : Int) = IntKind.i64.wrap ((↑x : Int).tdiv (2 : Int)) ∧ (↑k : Int) + (1 : Int) = IntKind.i64.wrap ((↑k : Int) + (1 : Int))) ∧ True) := by kernel_rfl

set_option maxHeartbeats 4000000 in
theorem inRound (c x k : Nat) (hc : c < 256) (hx : x < 256) (hk : k < 7 - c % 8) (v : SV) (L' : HF) (next : RunsTo Tryd.prog 27 (headOf Tryd.f27 0) (envAt Tryd.f27.ntmps ([(1, vN c), (5, vN (x / 2 : Nat)), (6, vN (k + 1))])) (Sx.look ([] ++ ([]))) 80 (v) (L') 140) :
    RunsTo Tryd.prog 27 (headOf Tryd.f27 0) (envAt Tryd.f27.ntmps ([(1, vN c), (5, vN x), (6, vN k)])) (Sx.look ([] ++ ([]))) 80 (v) (L') 140 := by
  have td : (c : Int).tdiv 8 = ((c / 8 : Nat) : Int) := tdN c 8
  have tm : (c : Int).tmod 8 = ((c % 8 : Nat) : Int) := tmN c 8
  have w1 : IntKind.i64.wrap ((c / 8 : Nat) : Int) = ((c / 8 : Nat) : Int) := wr64 (by omega)
  have w2 : IntKind.i64.wrap (7 - ((c % 8 : Nat) : Int)) = ((7 - c % 8 : Nat) : Int) := by rw [wr64 (by omega)]; omega
  have tx : (x : Int).tdiv 2 = ((x / 2 : Nat) : Int) := tdN x 2
  have mx : (x : Int).tmod 2 = ((x % 2 : Nat) : Int) := tmN x 2
  have w3 : IntKind.i64.wrap ((x / 2 : Nat) : Int) = ((x / 2 : Nat) : Int) := wr64 (by omega)
  have w4 : IntKind.i64.wrap ((k : Int) + 1) = ((k + 1 : Nat) : Int) := wr1 (by omega)
  refine runs_more baseO (More.of (inRound_p0 c x k) ⟨?oo, rfl, ?rr⟩) (by kernel_rfl) (by kernel_rfl) rfl (gtL (by decide)) (by decide) next
  case oo =>
    clear next
    refine (okc ?_ okn)
    all_goals ((try simp (disch := omega) only [SS, tm, w2, tx, w3, w4]); first | done | omega | assumption | (simp (disch := omega) only [SS, tm, w2, tx, w3, w4] at *; first | done | omega | assumption) | (simp_all; done) | grind)
  case rr =>
    clear next
    try simp (disch := omega) only [SS, tm, w2, tx, w3, w4]
    repeat' apply And.intro
    all_goals first | trivial | rfl | omega | (intros; first | trivial | rfl | omega | (simp_all; done)) | (simp_all; done)

theorem inEnd_p0 (c x k : Nat) :
    isEnd (evTill Tryd.prog [] 300 (99) 900 27 (headOf Tryd.f27 0) (envAt Tryd.f27.ntmps ([(1, vN c), (5, vN x), (6, vN k)])) ([] ++ ([])) ⟨[.t, .s false, .t], 110⟩) (endP ([]) (vB (x % 2 == 1)) ([]) 140) =
    (OkL [(decide ((↑k : Int) < IntKind.i64.wrap ((7 : Int) - (↑c : Int).tmod (8 : Int))), false)] ∧ (x % (2 : Nat) == (1 : Nat)) = ((↑x : Int).tmod (2 : Int) == (1 : Int)) ∧ True) := by kernel_rfl

set_option maxHeartbeats 4000000 in
theorem inEnd (c x k : Nat) (hc : c < 256) (hx : x < 256) (hk : k = 7 - c % 8) :
    RunsTo Tryd.prog 27 (headOf Tryd.f27 0) (envAt Tryd.f27.ntmps ([(1, vN c), (5, vN x), (6, vN k)])) (Sx.look ([] ++ ([]))) 80 (vB (x % 2 == 1)) (Sx.look ([])) 140 := by
  have td : (c : Int).tdiv 8 = ((c / 8 : Nat) : Int) := tdN c 8
  have tm : (c : Int).tmod 8 = ((c % 8 : Nat) : Int) := tmN c 8
  have w1 : IntKind.i64.wrap ((c / 8 : Nat) : Int) = ((c / 8 : Nat) : Int) := wr64 (by omega)
  have w2 : IntKind.i64.wrap (7 - ((c % 8 : Nat) : Int)) = ((7 - c % 8 : Nat) : Int) := by rw [wr64 (by omega)]; omega
  have tx : (x : Int).tdiv 2 = ((x / 2 : Nat) : Int) := tdN x 2
  have mx : (x : Int).tmod 2 = ((x % 2 : Nat) : Int) := tmN x 2
  have w3 : IntKind.i64.wrap ((x / 2 : Nat) : Int) = ((x / 2 : Nat) : Int) := wr64 (by omega)
  have w4 : IntKind.i64.wrap ((k : Int) + 1) = ((k + 1 : Nat) : Int) := wr1 (by omega)
  refine runs_last baseO (Sx.Ends.of (inEnd_p0 c x k) ⟨?oo, ?rr⟩) (by kernel_rfl) rfl (gtL (by decide)) (by decide)
  case oo =>
    refine (okc ?_ okn)
    all_goals ((try simp (disch := omega) only [SS, tm, w2, mx]); first | done | omega | assumption | (simp (disch := omega) only [SS, tm, w2, mx] at *; first | done | omega | assumption) | (simp_all; done) | grind)
  case rr =>
    try simp (disch := omega) only [SS, tm, w2, mx]
    refine ⟨?_, trivial⟩
    rw [Bool.eq_iff_iff]; simp; omega

theorem inI (s : List UInt8) (c : Int) (hc : 0 ≤ c ∧ c < 256) : RunsTo Tryd.prog 27 [.code (bodyOf Tryd.f27)] (envOf [vS s, vN c] Tryd.f27.ntmps) (Sx.look ([] ++ ([]))) 80 (vB (inR s c)) (Sx.look []) 140 := by
  obtain ⟨c, rfl⟩ : ∃ k : Nat, c = k := ⟨c.toNat, by omega⟩
  have hc : c < 256 := by omega
  unfold inR
  simp only [Int.toNat_natCast]
  by_cases hs : s.length ≤ c / 8
  · rw [if_pos hs]; exact inOut s c hc hs
  rw [if_neg hs]
  refine inStart s c hc (by omega) _ _ ?_
  have key : ∀ (d k x : Nat), x < 256 → k + d = 7 - c % 8 → RunsTo Tryd.prog 27 (headOf Tryd.f27 0) (envAt Tryd.f27.ntmps ([(1, vN c), (5, vN x), (6, vN k)])) (Sx.look ([] ++ ([]))) 80 (vB (x / 2 ^ d % 2 == 1)) (Sx.look []) 140 := by
    intro d
    induction d with
    | zero => intro k x hx hk; have := inEnd c x k hc hx (by omega); simpa using this
    | succ d ih =>
      intro k x hx hk
      have h2 := ih (k + 1) (x / 2) (by omega) (by omega)
      rw [Nat.div_div_eq_div_mul, Nat.mul_comm, ← Nat.pow_succ] at h2
      exact inRound c x k hc hx (by omega) _ _ h2
  exact key (7 - c % 8) 0 _ (s.getD (c / 8) 0).toNat_lt (by omega)
def inP : PC := { args := [.v (.vs 0), .v (.vi .i64 1)], heap := [], gs := [], G := 25, tp := 223, n := 80, n' := 140, cond := fun e => decide (0 ≤ eI e 1 [] ∧ eI e 1 [] < 256), v := fun e => vB (inR (eS e 0 []) (eI e 1 [])), post := fun e => [] }
theorem inP_pc : PC.Runs Tryd.prog 27 Tryd.f27 (bodyOf Tryd.f27) inP := ⟨Tryd.func27, by kernel_rfl, (fun g hg => by first | cases hg | (revert g; decide)), fun e H hc => by
  have hc : (decide (0 ≤ eI e 1 [] ∧ eI e 1 [] < 256)) = true := hc
  try simp only [Bool.and_eq_true, decide_eq_true_eq, Nat.beq_eq] at hc
  exact inI (eS e 0 []) (eI e 1 []) hc⟩
def sumsC : List (FuncId × Summ) := [(30, cutP.summ 50)]
theorem baseC : Base0 Tryd.prog sumsC := (baseO.cons Tryd.func30 (by kernel_rfl) (PC.summ_ok cutP_pc gtopG))
theorem roStart_p0 (s : List UInt8) :
    isMore (evTill Tryd.prog sumsC 300 (behind Tryd.f26 0) 900 26 [.code (bodyOf Tryd.f26)] (envOf [vS s] Tryd.f26.ntmps) ([] ++ ([])) ⟨[], 80⟩) (moreP (headOf Tryd.f26 0) ([]) Tryd.f26.ntmps ([(0, vS s), (3, vS ([])), (4, vN 0)]) ([]) 200) =
    (OkL [] ∧ headOf Tryd.f26 (0 : Nat) = headOf Tryd.f26 (0 : Nat) ∧ (s = s ∧ ([] : List UInt8) = [] ∧ (0 : Int) = (0 : Int)) ∧ True) := by kernel_rfl

set_option maxHeartbeats 4000000 in
theorem roStart (s : List UInt8)  (v : SV) (L' : HF) (next : RunsTo Tryd.prog 26 (headOf Tryd.f26 0) (envAt Tryd.f26.ntmps ([(0, vS s), (3, vS ([])), (4, vN 0)])) (Sx.look ([] ++ ([]))) 80 (v) (L') 200) :
    RunsTo Tryd.prog 26 [.code (bodyOf Tryd.f26)] (envOf [vS s] Tryd.f26.ntmps) (Sx.look ([] ++ ([]))) 80 (v) (L') 200 := by
  refine runs_more baseC (More.of (roStart_p0 s) ⟨?oo, rfl, ?rr⟩) (by kernel_rfl) (by kernel_rfl) rfl (gtL (by decide)) (by decide) next
  case oo =>
    clear next
    refine okn
    all_goals ((try simp (disch := omega) only [SS]); first | done | omega | assumption | (simp (disch := omega) only [SS] at *; first | done | omega | assumption) | (simp_all; done) | grind)
  case rr =>
    clear next
    try simp (disch := omega) only [SS]
    repeat' apply And.intro
    all_goals first | trivial | rfl | omega | (intros; first | trivial | rfl | omega | (simp_all; done)) | (simp_all; done)

theorem roIn_p0 (s out : List UInt8) (i : Nat) :
    isMore (evTill Tryd.prog sumsC 300 (behind Tryd.f26 1) 900 26 (headOf Tryd.f26 0) (envAt Tryd.f26.ntmps ([(0, vS s), (3, vS (out)), (4, vN i)])) ([] ++ ([])) ⟨[.s true], 110⟩) (moreP (headOf Tryd.f26 1) ([]) Tryd.f26.ntmps ([(0, vS s), (3, vS out), (4, vN i), (5, vN 0), (6, vN 0)]) ([]) 200) =
    (OkL [(decide ((↑i : Int) < (32 : Int)), true)] ∧ headOf Tryd.f26 (1 : Nat) = headOf Tryd.f26 (1 : Nat) ∧ (s = s ∧ out = out ∧ (↑i : Int) = (↑i : Int) ∧ (0 : Int) = (0 : Int) ∧ (0 : Int) = (0 : Int)) ∧ True) := by kernel_rfl

set_option maxHeartbeats 4000000 in
theorem roIn (s out : List UInt8) (i : Nat) (hi : i < 32) (v : SV) (L' : HF) (next : RunsTo Tryd.prog 26 (headOf Tryd.f26 1) (envAt Tryd.f26.ntmps ([(0, vS s), (3, vS out), (4, vN i), (5, vN 0), (6, vN 0)])) (Sx.look ([] ++ ([]))) 80 (v) (L') 200) :
    RunsTo Tryd.prog 26 (headOf Tryd.f26 0) (envAt Tryd.f26.ntmps ([(0, vS s), (3, vS (out)), (4, vN i)])) (Sx.look ([] ++ ([]))) 80 (v) (L') 200 := by
  refine runs_more baseC (More.of (roIn_p0 s out i) ⟨?oo, rfl, ?rr⟩) (by kernel_rfl) (by kernel_rfl) rfl (gtL (by decide)) (by decide) next
  case oo =>
    clear next
    refine (okc ?_ okn)
    all_goals ((try simp (disch := omega) only [SS]); first | done | omega | assumption | (simp (disch := omega) only [SS] at *; first | done | omega | assumption) | (simp_all; done) | grind)
  case rr =>
    clear next
    try simp (disch := omega) only [SS]
    repeat' apply And.intro
    all_goals first | trivial | rfl | omega | (intros; first | trivial | rfl | omega | (simp_all; done)) | (simp_all; done)

theorem roEnd_p0 (s out : List UInt8) (i : Nat) :
    isEnd (evTill Tryd.prog sumsC 300 (99) 900 26 (headOf Tryd.f26 0) (envAt Tryd.f26.ntmps ([(0, vS s), (3, vS (out)), (4, vN i)])) ([] ++ ([])) ⟨[.s false, .s true], 110⟩) (endP ([]) (vS (cutL out)) ([]) 200) =
    (OkL [(decide ((↑i : Int) < (32 : Int)), false), (decide (out.length ≤ (1000000 : Nat)), true)] ∧ cutL out = cutL out ∧ True) := by kernel_rfl

set_option maxHeartbeats 4000000 in
theorem roEnd (s out : List UInt8) (i : Nat) (hi : i = 32) (ho : out.length ≤ 1000) :
    RunsTo Tryd.prog 26 (headOf Tryd.f26 0) (envAt Tryd.f26.ntmps ([(0, vS s), (3, vS (out)), (4, vN i)])) (Sx.look ([] ++ ([]))) 80 (vS (cutL out)) (Sx.look ([])) 200 := by
  refine runs_last baseC (Sx.Ends.of (roEnd_p0 s out i) ⟨?oo, ?rr⟩) (by kernel_rfl) rfl (gtL (by decide)) (by decide)
  case oo =>
    refine (okc ?_ (okc ?_ okn))
    all_goals ((try simp (disch := omega) only [SS]); first | done | omega | assumption | (simp (disch := omega) only [SS] at *; first | done | omega | assumption) | (simp_all; done) | grind)
  case rr =>
    try simp (disch := omega) only [SS]
    repeat' apply And.intro
    all_goals first | trivial | rfl | omega | (intros; first | trivial | rfl | omega | (simp_all; done)) | (simp_all; done)

theorem roK_p0 (s out : List UInt8) (i k : Nat) (x : Int) :
    isMore (evTill Tryd.prog sumsC 300 (behind Tryd.f26 2) 900 26 (headOf Tryd.f26 1) (envAt Tryd.f26.ntmps ([(0, vS s), (3, vS out), (4, vN i), (5, vN x), (6, vN k)])) ([] ++ ([])) ⟨[.s true], 110⟩) (moreP (headOf Tryd.f26 2) ([]) Tryd.f26.ntmps ([(0, vS s), (3, vS out), (4, vN i), (5, vN (x * 2)), (6, vN k), (7, vN 0)]) ([]) 200) =
    (OkL [(decide ((↑k : Int) < (8 : Int)), true)] ∧ headOf Tryd.f26 (2 : Nat) = headOf Tryd.f26 (2 : Nat) ∧ (s = s ∧ out = out ∧ (↑i : Int) = (↑i : Int) ∧ x * (2 : Int) = IntKind.i64.wrap (x * (2 : Int)) ∧ (↑k : Int) = (↑k : Int) ∧ (0 : Int) = (0 : Int)) ∧ True) := by kernel_rfl

set_option maxHeartbeats 4000000 in
theorem roK (s out : List UInt8) (i k : Nat) (x : Int) (hk : k < 8) (hx : 0 ≤ x ∧ x < 256) (v : SV) (L' : HF) (next : RunsTo Tryd.prog 26 (headOf Tryd.f26 2) (envAt Tryd.f26.ntmps ([(0, vS s), (3, vS out), (4, vN i), (5, vN (x * 2)), (6, vN k), (7, vN 0)])) (Sx.look ([] ++ ([]))) 80 (v) (L') 200) :
    RunsTo Tryd.prog 26 (headOf Tryd.f26 1) (envAt Tryd.f26.ntmps ([(0, vS s), (3, vS out), (4, vN i), (5, vN x), (6, vN k)])) (Sx.look ([] ++ ([]))) 80 (v) (L') 200 := by
  have hw : IntKind.i64.wrap (x * 2) = x * 2 := wr64 (by omega)
  refine runs_more baseC (More.of (roK_p0 s out i k x) ⟨?oo, rfl, ?rr⟩) (by kernel_rfl) (by kernel_rfl) rfl (gtL (by decide)) (by decide) next
  case oo =>
    clear next
    refine (okc ?_ okn)
    all_goals ((try simp (disch := omega) only [SS, hw]); first | done | omega | assumption | (simp (disch := omega) only [SS, hw] at *; first | done | omega | assumption) | (simp_all; done) | grind)
  case rr =>
    clear next
    try simp (disch := omega) only [SS, hw]
    repeat' apply And.intro
    all_goals first | trivial | rfl | omega | (intros; first | trivial | rfl | omega | (simp_all; done)) | (simp_all; done)

theorem roOut_p0 (s out : List UInt8) (i k : Nat) (x : Int) :
    isMore (evTill Tryd.prog sumsC 300 (behind Tryd.f26 0) 900 26 (headOf Tryd.f26 1) (envAt Tryd.f26.ntmps ([(0, vS s), (3, vS out), (4, vN i), (5, vN x), (6, vN k)])) ([] ++ ([])) ⟨[.s false, .t, .s true], 110⟩) (moreP (headOf Tryd.f26 0) ([]) Tryd.f26.ntmps ([(0, vS s), (3, vS (out ++ [UInt8.ofNat x.toNat])), (4, vN (i + 1))]) ([]) 200) =
    (OkL [(decide ((↑k : Int) < (8 : Int)), false), (decide (out.length + (bytesOf (fun is => IntKind.u8.wrap x) [] (0 : Nat) (1 : Nat)).length ≤ (9223372036854775807 : Nat)), true)] ∧ headOf Tryd.f26 (0 : Nat) = headOf Tryd.f26 (0 : Nat) ∧ (s = s ∧ out ++ [UInt8.ofNat x.toNat] = out ++ bytesOf (fun is => IntKind.u8.wrap x) [] (0 : Nat) (1 : Nat) ∧ (↑i : Int) + (1 : Int) = IntKind.i64.wrap ((↑i : Int) + (1 : Int))) ∧ True) := by kernel_rfl

set_option maxHeartbeats 4000000 in
theorem roOut (s out : List UInt8) (i k : Nat) (x : Int) (hk : k = 8) (hi : i < 32) (ho : out.length ≤ 1000) (hx : 0 ≤ x ∧ x < 256) (v : SV) (L' : HF) (next : RunsTo Tryd.prog 26 (headOf Tryd.f26 0) (envAt Tryd.f26.ntmps ([(0, vS s), (3, vS (out ++ [UInt8.ofNat x.toNat])), (4, vN (i + 1))])) (Sx.look ([] ++ ([]))) 80 (v) (L') 200) :
    RunsTo Tryd.prog 26 (headOf Tryd.f26 1) (envAt Tryd.f26.ntmps ([(0, vS s), (3, vS out), (4, vN i), (5, vN x), (6, vN k)])) (Sx.look ([] ++ ([]))) 80 (v) (L') 200 := by
  have wi : IntKind.i64.wrap ((i : Int) + 1) = ((i + 1 : Nat) : Int) := wr1 (by omega)
  have hu := u8id hx
  refine runs_more baseC (More.of (roOut_p0 s out i k x) ⟨?oo, rfl, ?rr⟩) (by kernel_rfl) (by kernel_rfl) rfl (gtL (by decide)) (by decide) next
  case oo =>
    clear next
    refine (okc ?_ (okc ?_ okn))
    all_goals ((try simp (disch := omega) only [SS, wi, hu, bytesOf_len]); first | done | omega | assumption | (simp (disch := omega) only [SS, wi, hu, bytesOf_len] at *; first | done | omega | assumption) | (simp_all; done) | grind)
  case rr =>
    clear next
    try simp (disch := omega) only [SS, wi, hu]
    repeat' apply And.intro
    all_goals first | trivial | rfl | omega | (simp [bytesOf, upd]; done)

theorem roHit_p0 (s out : List UInt8) (i k j : Nat) (x : Int) :
    isMore (evTill Tryd.prog sumsC 300 (behind Tryd.f26 1) 900 26 (headOf Tryd.f26 2) (envAt Tryd.f26.ntmps ([(0, vS s), (3, vS out), (4, vN i), (5, vN x), (6, vN k), (7, vN j)])) ([] ++ ([])) ⟨[.s true, .s true, .s true], 110⟩) (moreP (headOf Tryd.f26 1) ([]) Tryd.f26.ntmps ([(0, vS s), (3, vS out), (4, vN i), (5, vN (x + 1)), (6, vN (k + 1))]) ([]) 200) =
    (OkL [(decide ((↑j : Int) < (↑s.length : Int)), true), (decide ((0 : Int) ≤ (↑j : Int) ∧ (↑j : Int) < (↑s.length : Int)), true), (IntKind.i64.wrap (↑(s.getD (↑j : Int).toNat (0 : UInt8)).toNat : Int) == IntKind.i64.wrap (IntKind.i64.wrap ((8 : Int) * (↑i : Int)) + (↑k : Int)), true)] ∧ headOf Tryd.f26 (1 : Nat) = headOf Tryd.f26 (1 : Nat) ∧ (s = s ∧ out = out ∧ (↑i : Int) = (↑i : Int) ∧ x + (1 : Int) = IntKind.i64.wrap (x + (1 : Int)) ∧ (↑k : Int) + (1 : Int) = IntKind.i64.wrap ((↑k : Int) + (1 : Int))) ∧ True) := by kernel_rfl

set_option maxHeartbeats 4000000 in
theorem roHit (s out : List UInt8) (i k j : Nat) (x : Int) (hi : i < 32) (hk : k < 8) (hs : s.length ≤ 1000000) (hx : 0 ≤ x ∧ x < 512) (hj : j < s.length) (he : (s.getD j 0).toNat = 8 * i + k) (v : SV) (L' : HF) (next : RunsTo Tryd.prog 26 (headOf Tryd.f26 1) (envAt Tryd.f26.ntmps ([(0, vS s), (3, vS out), (4, vN i), (5, vN (x + 1)), (6, vN (k + 1))])) (Sx.look ([] ++ ([]))) 80 (v) (L') 200) :
    RunsTo Tryd.prog 26 (headOf Tryd.f26 2) (envAt Tryd.f26.ntmps ([(0, vS s), (3, vS out), (4, vN i), (5, vN x), (6, vN k), (7, vN j)])) (Sx.look ([] ++ ([]))) 80 (v) (L') 200 := by
  have m1 : IntKind.i64.wrap (8 * (i : Int)) = ((8 * i : Nat) : Int) := by rw [wr64 (by omega)]; omega
  have m2 : IntKind.i64.wrap (((8 * i : Nat) : Int) + (k : Int)) = ((8 * i + k : Nat) : Int) := by rw [wr64 (by omega)]; omega
  have wj : IntKind.i64.wrap ((j : Int) + 1) = ((j + 1 : Nat) : Int) := wr1 (by omega)
  have wk : IntKind.i64.wrap ((k : Int) + 1) = ((k + 1 : Nat) : Int) := wr1 (by omega)
  have wx : IntKind.i64.wrap (x + 1) = x + 1 := wr64 (by omega)
  have wb : IntKind.i64.wrap (((s.getD j 0).toNat : Nat) : Int) = (((s.getD j 0).toNat : Nat) : Int) := by have := (s.getD j 0).toNat_lt; exact wr64 (by omega)
  refine runs_more baseC (More.of (roHit_p0 s out i k j x) ⟨?oo, rfl, ?rr⟩) (by kernel_rfl) (by kernel_rfl) rfl (gtL (by decide)) (by decide) next
  case oo =>
    clear next
    refine (okc ?_ (okc ?_ (okc ?_ okn)))
    all_goals (first | (simp (disch := omega) only [SS, m1, m2, wk, wx, wb, he]; first | done | omega) | (have wb2 := wb; rw [he] at wb2; simp (disch := omega) only [SS, m1, m2, wb2, he]; first | done | omega))
  case rr =>
    clear next
    try simp (disch := omega) only [SS, m1, m2, wk, wx, wb, he]
    repeat' apply And.intro
    all_goals first | trivial | rfl | omega | (intros; first | trivial | rfl | omega | (simp_all; done)) | (simp_all; done)

theorem roMiss_p0 (s out : List UInt8) (i k j : Nat) (x : Int) :
    isMore (evTill Tryd.prog sumsC 300 (behind Tryd.f26 2) 900 26 (headOf Tryd.f26 2) (envAt Tryd.f26.ntmps ([(0, vS s), (3, vS out), (4, vN i), (5, vN x), (6, vN k), (7, vN j)])) ([] ++ ([])) ⟨[.s true, .s true, .s false], 110⟩) (moreP (headOf Tryd.f26 2) ([]) Tryd.f26.ntmps ([(0, vS s), (3, vS out), (4, vN i), (5, vN x), (6, vN k), (7, vN (j + 1))]) ([]) 200) =
    (OkL [(decide ((↑j : Int) < (↑s.length : Int)), true), (decide ((0 : Int) ≤ (↑j : Int) ∧ (↑j : Int) < (↑s.length : Int)), true), (IntKind.i64.wrap (↑(s.getD (↑j : Int).toNat (0 : UInt8)).toNat : Int) == IntKind.i64.wrap (IntKind.i64.wrap ((8 : Int) * (↑i : Int)) + (↑k : Int)), false)] ∧ headOf Tryd.f26 (2 : Nat) = headOf Tryd.f26 (2 : Nat) ∧ (s = s ∧ out = out ∧ (↑i : Int) = (↑i : Int) ∧ x = x ∧ (↑k : Int) = (↑k : Int) ∧ (↑j : Int) + (1 : Int) = IntKind.i64.wrap ((↑j : Int) + (1 : Int))) ∧ True) := by kernel_rfl

set_option maxHeartbeats 4000000 in
theorem roMiss (s out : List UInt8) (i k j : Nat) (x : Int) (hi : i < 32) (hk : k < 8) (hs : s.length ≤ 1000000) (hx : 0 ≤ x ∧ x < 512) (hj : j < s.length) (he : (s.getD j 0).toNat ≠ 8 * i + k) (v : SV) (L' : HF) (next : RunsTo Tryd.prog 26 (headOf Tryd.f26 2) (envAt Tryd.f26.ntmps ([(0, vS s), (3, vS out), (4, vN i), (5, vN x), (6, vN k), (7, vN (j + 1))])) (Sx.look ([] ++ ([]))) 80 (v) (L') 200) :
    RunsTo Tryd.prog 26 (headOf Tryd.f26 2) (envAt Tryd.f26.ntmps ([(0, vS s), (3, vS out), (4, vN i), (5, vN x), (6, vN k), (7, vN j)])) (Sx.look ([] ++ ([]))) 80 (v) (L') 200 := by
  have m1 : IntKind.i64.wrap (8 * (i : Int)) = ((8 * i : Nat) : Int) := by rw [wr64 (by omega)]; omega
  have m2 : IntKind.i64.wrap (((8 * i : Nat) : Int) + (k : Int)) = ((8 * i + k : Nat) : Int) := by rw [wr64 (by omega)]; omega
  have wj : IntKind.i64.wrap ((j : Int) + 1) = ((j + 1 : Nat) : Int) := wr1 (by omega)
  have wk : IntKind.i64.wrap ((k : Int) + 1) = ((k + 1 : Nat) : Int) := wr1 (by omega)
  have wx : IntKind.i64.wrap (x + 1) = x + 1 := wr64 (by omega)
  have wb : IntKind.i64.wrap (((s.getD j 0).toNat : Nat) : Int) = (((s.getD j 0).toNat : Nat) : Int) := by have := (s.getD j 0).toNat_lt; exact wr64 (by omega)
  refine runs_more baseC (More.of (roMiss_p0 s out i k j x) ⟨?oo, rfl, ?rr⟩) (by kernel_rfl) (by kernel_rfl) rfl (gtL (by decide)) (by decide) next
  case oo =>
    clear next
    refine (okc ?_ (okc ?_ (okc ?_ okn)))
    all_goals ((try simp (disch := omega) only [SS, m1, m2, wj, wb, he]); first | done | omega | assumption | (simp (disch := omega) only [SS, m1, m2, wj, wb, he] at *; first | done | omega | assumption) | (simp_all; done) | grind)
  case rr =>
    clear next
    try simp (disch := omega) only [SS, m1, m2, wj, wb, he]
    repeat' apply And.intro
    all_goals first | trivial | rfl | omega | (intros; first | trivial | rfl | omega | (simp_all; done)) | (simp_all; done)

theorem roNone_p0 (s out : List UInt8) (i k j : Nat) (x : Int) :
    isMore (evTill Tryd.prog sumsC 300 (behind Tryd.f26 1) 900 26 (headOf Tryd.f26 2) (envAt Tryd.f26.ntmps ([(0, vS s), (3, vS out), (4, vN i), (5, vN x), (6, vN k), (7, vN j)])) ([] ++ ([])) ⟨[.s false], 110⟩) (moreP (headOf Tryd.f26 1) ([]) Tryd.f26.ntmps ([(0, vS s), (3, vS out), (4, vN i), (5, vN x), (6, vN (k + 1))]) ([]) 200) =
    (OkL [(decide ((↑j : Int) < (↑s.length : Int)), false)] ∧ headOf Tryd.f26 (1 : Nat) = headOf Tryd.f26 (1 : Nat) ∧ (s = s ∧ out = out ∧ (↑i : Int) = (↑i : Int) ∧ x = x ∧ (↑k : Int) + (1 : Int) = IntKind.i64.wrap ((↑k : Int) + (1 : Int))) ∧ True) := by kernel_rfl

set_option maxHeartbeats 4000000 in
theorem roNone (s out : List UInt8) (i k j : Nat) (x : Int) (hi : i < 32) (hk : k < 8) (hs : s.length ≤ 1000000) (hx : 0 ≤ x ∧ x < 512) (hj : j = s.length) (v : SV) (L' : HF) (next : RunsTo Tryd.prog 26 (headOf Tryd.f26 1) (envAt Tryd.f26.ntmps ([(0, vS s), (3, vS out), (4, vN i), (5, vN x), (6, vN (k + 1))])) (Sx.look ([] ++ ([]))) 80 (v) (L') 200) :
    RunsTo Tryd.prog 26 (headOf Tryd.f26 2) (envAt Tryd.f26.ntmps ([(0, vS s), (3, vS out), (4, vN i), (5, vN x), (6, vN k), (7, vN j)])) (Sx.look ([] ++ ([]))) 80 (v) (L') 200 := by
  have m1 : IntKind.i64.wrap (8 * (i : Int)) = ((8 * i : Nat) : Int) := by rw [wr64 (by omega)]; omega
  have m2 : IntKind.i64.wrap (((8 * i : Nat) : Int) + (k : Int)) = ((8 * i + k : Nat) : Int) := by rw [wr64 (by omega)]; omega
  have wj : IntKind.i64.wrap ((j : Int) + 1) = ((j + 1 : Nat) : Int) := wr1 (by omega)
  have wk : IntKind.i64.wrap ((k : Int) + 1) = ((k + 1 : Nat) : Int) := wr1 (by omega)
  have wx : IntKind.i64.wrap (x + 1) = x + 1 := wr64 (by omega)
  have wb : IntKind.i64.wrap (((s.getD j 0).toNat : Nat) : Int) = (((s.getD j 0).toNat : Nat) : Int) := by have := (s.getD j 0).toNat_lt; exact wr64 (by omega)
  refine runs_more baseC (More.of (roNone_p0 s out i k j x) ⟨?oo, rfl, ?rr⟩) (by kernel_rfl) (by kernel_rfl) rfl (gtL (by decide)) (by decide) next
  case oo =>
    clear next
    refine (okc ?_ okn)
    all_goals ((try simp (disch := omega) only [SS, m1, m2, wk, wx, wb]); first | done | omega | assumption | (simp (disch := omega) only [SS, m1, m2, wk, wx, wb] at *; first | done | omega | assumption) | (simp_all; done) | grind)
  case rr =>
    clear next
    try simp (disch := omega) only [SS, m1, m2, wk, wx, wb]
    repeat' apply And.intro
    all_goals first | trivial | rfl | omega | (intros; first | trivial | rfl | omega | (simp_all; done)) | (simp_all; done)

theorem roJ (s out : List UInt8) (i k : Nat) (hi : i < 32) (hk : k < 8) (hs : s.length ≤ 1000000) (v : SV) (L' : HF) : ∀ (d j : Nat) (x : Int), j + d = s.length → 0 ≤ x ∧ x < 512 →
    (RunsTo Tryd.prog 26 (headOf Tryd.f26 1) (envAt Tryd.f26.ntmps ([(0, vS s), (3, vS out), (4, vN i), (5, vN (x + (if memL (s.drop j) (8 * i + k) = true then 1 else 0))), (6, vN (k + 1))])) (Sx.look ([] ++ ([]))) 80 (v) (L') 200) → RunsTo Tryd.prog 26 (headOf Tryd.f26 2) (envAt Tryd.f26.ntmps ([(0, vS s), (3, vS out), (4, vN i), (5, vN x), (6, vN k), (7, vN j)])) (Sx.look ([] ++ ([]))) 80 (v) (L') 200 := by
  intro d
  induction d with
  | zero =>
    intro j x hj hx next
    have e2 : memL (s.drop j) (8 * i + k) = false := by rw [List.drop_eq_nil_of_le (by omega)]; rfl
    rw [e2] at next
    simp only [Bool.false_eq_true, if_false, Int.add_zero] at next
    exact roNone s out i k j x hi hk hs hx (by omega) v L' next
  | succ d ih =>
    intro j x hj hx next
    have hlt : j < s.length := by omega
    have e : s.drop j = s.getD j 0 :: s.drop (j + 1) := by
      rw [List.drop_eq_getElem_cons hlt]; simp [List.getD, List.getElem?_eq_getElem hlt]
    by_cases he : (s.getD j 0).toNat = 8 * i + k
    · have e2 : memL (s.drop j) (8 * i + k) = true := by rw [e]; simp only [memL, List.any_cons]; rw [show ((s.getD j 0).toNat == 8 * i + k) = true by simpa using he]; rfl
      rw [e2] at next
      simp only [if_true] at next
      exact roHit s out i k j x hi hk hs hx hlt he v L' next
    · have e2 : memL (s.drop j) (8 * i + k) = memL (s.drop (j + 1)) (8 * i + k) := by rw [e]; simp only [memL, List.any_cons]; rw [show ((s.getD j 0).toNat == 8 * i + k) = false by simpa using he]; rfl
      rw [e2] at next
      exact roMiss s out i k j x hi hk hs hx hlt he v L' (ih (j + 1) x (by omega) hx next)
theorem roI (s out : List UInt8) (i : Nat) (hi : i < 32) (hs : s.length ≤ 1000000) (ho : out.length ≤ 1000) (v : SV) (L' : HF) (next : RunsTo Tryd.prog 26 (headOf Tryd.f26 0) (envAt Tryd.f26.ntmps ([(0, vS s), (3, vS (out ++ [UInt8.ofNat (vK s i 8).toNat])), (4, vN (i + 1))])) (Sx.look ([] ++ ([]))) 80 (v) (L') 200) : RunsTo Tryd.prog 26 (headOf Tryd.f26 0) (envAt Tryd.f26.ntmps ([(0, vS s), (3, vS (out)), (4, vN i)])) (Sx.look ([] ++ ([]))) 80 (v) (L') 200 := by
  have key : ∀ (d k : Nat), k + d = 8 → RunsTo Tryd.prog 26 (headOf Tryd.f26 1) (envAt Tryd.f26.ntmps ([(0, vS s), (3, vS out), (4, vN i), (5, vN (vK s i k)), (6, vN k)])) (Sx.look ([] ++ ([]))) 80 (v) (L') 200 := by
    intro d
    induction d with
    | zero =>
      intro k hk
      obtain rfl : k = 8 := by omega
      exact roOut s out i 8 _ rfl hi ho (vK_bnd s i 8 (Nat.le_refl _)) v L' next
    | succ d ih =>
      intro k hk
      have hb := vK_bnd s i k (by omega)
      refine roK s out i k _ (by omega) hb v L' (roJ s out i k hi (by omega) hs v L' s.length 0 _ (by omega) (by omega) ?_)
      have e : vK s i k * 2 + (if memL (s.drop 0) (8 * i + k) = true then 1 else 0) = vK s i (k + 1) := by
        simp only [vK, vB8, List.drop_zero]; omega
      rw [e]
      exact ih (k + 1) (by omega)
  exact roIn s out i hi v L' (key 8 0 (by omega))
theorem rowI (s : List UInt8) (hs : s.length ≤ 1000000) : RunsTo Tryd.prog 26 [.code (bodyOf Tryd.f26)] (envOf [vS s] Tryd.f26.ntmps) (Sx.look ([] ++ ([]))) 80 (vS (cutL (rowR s 32))) (Sx.look []) 200 := by
  refine roStart s _ _ ?_
  have key : ∀ (d i : Nat), i + d = 32 → RunsTo Tryd.prog 26 (headOf Tryd.f26 0) (envAt Tryd.f26.ntmps ([(0, vS s), (3, vS (rowR s i)), (4, vN i)])) (Sx.look ([] ++ ([]))) 80 (vS (cutL (rowR s 32))) (Sx.look []) 200 := by
    intro d
    induction d with
    | zero =>
      intro i hi
      obtain rfl : i = 32 := by omega
      exact roEnd s _ 32 rfl (by rw [rowR_len]; omega)
    | succ d ih => intro i hi; exact roI s _ i (by omega) hs (by rw [rowR_len]; omega) _ _ (ih (i + 1) (by omega))
  exact key 32 0 (by omega)
def rowP : PC := { args := [.v (.vs 0)], heap := [], gs := [], G := 25, tp := 223, n := 80, n' := 200, cond := fun e => decide ((eS e 0 []).length ≤ 1000000), v := fun e => vS (cutL (rowR (eS e 0 []) 32)), post := fun e => [] }
theorem rowP_pc : PC.Runs Tryd.prog 26 Tryd.f26 (bodyOf Tryd.f26) rowP := ⟨Tryd.func26, by kernel_rfl, (fun g hg => by first | cases hg | (revert g; decide)), fun e H hc => by
  have hc : (decide ((eS e 0 []).length ≤ 1000000)) = true := hc
  try simp only [Bool.and_eq_true, decide_eq_true_eq, Nat.beq_eq] at hc
  exact rowI (eS e 0 []) hc⟩
end Go.Proofs.YtealbjkhjpmilaaDoor
