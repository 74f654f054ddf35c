/- Codes: names: figures, and the document's names. -/
import Derived.Test.YtealbjkhjpmilaaDoorVdC
set_option linter.unusedSimpArgs false
set_option linter.unusedVariables false
set_option maxRecDepth 100000
namespace Go.Proofs.YtealbjkhjpmilaaDoor
open Go.Sx

open DecR
theorem fgZero_p0 (zz : Nat) :
    isEnd (evTill Tryd.prog [] 300 (99) 900 98 [.code (bodyOf Tryd.f98)] (envOf [vN 0] Tryd.f98.ntmps) ([] ++ ([])) ⟨[.t], 80⟩) (endP ([]) (vS (dec 0)) ([]) 140) =
    (OkL [] ∧ dec (0 : Nat) = [(48 : UInt8)] ∧ True) := by kernel_rfl

set_option maxHeartbeats 4000000 in
theorem fgZero (zz : Nat)  :
    RunsTo Tryd.prog 98 [.code (bodyOf Tryd.f98)] (envOf [vN 0] Tryd.f98.ntmps) (Sx.look ([] ++ ([]))) 80 (vS (dec 0)) (Sx.look ([])) 140 := by
  refine runs_last baseO (Sx.Ends.of (fgZero_p0 zz) ⟨?oo, ?rr⟩) (by kernel_rfl) rfl (gtL (by decide)) (by decide)
  case oo =>
    refine okn
    all_goals ((try simp (disch := omega) only [SS]); first | done | omega | assumption | (simp (disch := omega) only [SS] at *; first | done | omega | assumption) | (simp_all; done))
  case rr =>
    try simp (disch := omega) only [SS]
    repeat' apply And.intro
    all_goals first | exact True.intro | with_reducible rfl | omega | (intros; first | exact True.intro | with_reducible rfl | omega | (simp_all; done)) | (simp_all; done) | rfl

theorem fgStart_p0 (n : Nat) :
    isMore (evTill Tryd.prog [] 300 (behind Tryd.f98 0) 900 98 [.code (bodyOf Tryd.f98)] (envOf [vN n] Tryd.f98.ntmps) ([] ++ ([])) ⟨[.s false, .f], 80⟩) (moreP (headOf Tryd.f98 0) ([]) Tryd.f98.ntmps ([(0, vN ((n : Int))), (3, vS ([])), (4, vS [])]) ([]) 140) =
    (OkL [((↑n : Int) == (0 : Int), false)] ∧ headOf Tryd.f98 (0 : Nat) = headOf Tryd.f98 (0 : Nat) ∧ ((↑n : Int) = (↑n : Int) ∧ ([] : List UInt8) = [] ∧ ([] : List UInt8) = []) ∧ True) := by kernel_rfl

set_option maxHeartbeats 4000000 in
theorem fgStart (n : Nat) (h : 0 < n) (v : SV) (L' : HF) (next : RunsTo Tryd.prog 98 (headOf Tryd.f98 0) (envAt Tryd.f98.ntmps ([(0, vN ((n : Int))), (3, vS ([])), (4, vS [])])) (Sx.look ([] ++ ([]))) 80 (v) (L') 140) :
    RunsTo Tryd.prog 98 [.code (bodyOf Tryd.f98)] (envOf [vN n] Tryd.f98.ntmps) (Sx.look ([] ++ ([]))) 80 (v) (L') 140 := by
  refine runs_more baseO (More.of (fgStart_p0 n) ⟨?oo, rfl, ?rr⟩) (by kernel_rfl) (by kernel_rfl) rfl (gtL (by decide)) (by decide) next
  case oo =>
    clear next
    refine (okc ?_ okn)
    all_goals ((try simp (disch := omega) only [SS]); first | done | omega | assumption | (simp (disch := omega) only [SS] at *; first | done | omega | assumption) | (simp_all; done))
  case rr =>
    clear next
    try simp (disch := omega) only [SS]
    repeat' apply And.intro
    all_goals first | exact True.intro | with_reducible rfl | omega | (intros; first | exact True.intro | with_reducible rfl | omega | (simp_all; done)) | (simp_all; done) | rfl

theorem fgRound_p0 (n : Nat) (t : List UInt8) :
    isMore (evTill Tryd.prog [] 300 (behind Tryd.f98 0) 900 98 (headOf Tryd.f98 0) (envAt Tryd.f98.ntmps ([(0, vN ((n : Int))), (3, vS (t)), (4, vS [])])) ([] ++ ([])) ⟨[.s true, .t, .f, .s true, .s true, .s true, .t], 110⟩) (moreP (headOf Tryd.f98 0) ([]) Tryd.f98.ntmps ([(0, vN (((n / 10 : Nat) : Int))), (3, vS (UInt8.ofNat (48 + n % 10) :: t)), (4, vS [])]) ([]) 140) =
    (OkL [((↑n : Int) != (0 : Int), true), (decide ((0 : Int) ≤ IntKind.i64.wrap ((↑n : Int).tmod (10 : Int) + (1 : Int)) ∧ IntKind.i64.wrap ((↑n : Int).tmod (10 : Int) + (1 : Int)) ≤ (↑(10 : Nat) : Int)), true), (decide ((0 : Int) ≤ (↑n : Int).tmod (10 : Int) ∧ (↑n : Int).tmod (10 : Int) ≤ IntKind.i64.wrap ((↑n : Int).tmod (10 : Int) + (1 : Int))), true), (decide ((List.drop ((↑n : Int).tmod (10 : Int)).toNat (List.take (IntKind.i64.wrap ((↑n : Int).tmod (10 : Int) + (1 : Int))).toNat [(48 : UInt8), (49 : UInt8), (50 : UInt8), (51 : UInt8), (52 : UInt8), (53 : UInt8), (54 : UInt8), (55 : UInt8), (56 : UInt8), (57 : UInt8)])).length + t.length ≤ (9223372036854775807 : Nat)), true)] ∧ headOf Tryd.f98 (0 : Nat) = headOf Tryd.f98 (0 : Nat) ∧ ((↑(n / (10 : Nat)) : Int) = IntKind.i64.wrap ((↑n : Int).tdiv (10 : Int)) ∧ UInt8.ofNat ((48 : Nat) + n % (10 : Nat)) :: t = List.drop ((↑n : Int).tmod (10 : Int)).toNat (List.take (IntKind.i64.wrap ((↑n : Int).tmod (10 : Int) + (1 : Int))).toNat [(48 : UInt8), (49 : UInt8), (50 : UInt8), (51 : UInt8), (52 : UInt8), (53 : UInt8), (54 : UInt8), (55 : UInt8), (56 : UInt8), (57 : UInt8)]) ++ t ∧ ([] : List UInt8) = []) ∧ True) := by kernel_rfl

set_option maxHeartbeats 4000000 in
theorem fgRound (n : Nat) (t : List UInt8) (h : 0 < n) (hn : n < 1000) (ht : t.length ≤ 100) (v : SV) (L' : HF) (next : RunsTo Tryd.prog 98 (headOf Tryd.f98 0) (envAt Tryd.f98.ntmps ([(0, vN (((n / 10 : Nat) : Int))), (3, vS (UInt8.ofNat (48 + n % 10) :: t)), (4, vS [])])) (Sx.look ([] ++ ([]))) 80 (v) (L') 140) :
    RunsTo Tryd.prog 98 (headOf Tryd.f98 0) (envAt Tryd.f98.ntmps ([(0, vN ((n : Int))), (3, vS (t)), (4, vS [])])) (Sx.look ([] ++ ([]))) 80 (v) (L') 140 := by
  have td : (n : Int).tdiv 10 = ((n / 10 : Nat) : Int) := tdN n 10
  have tm : (n : Int).tmod 10 = ((n % 10 : Nat) : Int) := tmN n 10
  have w1 : IntKind.i64.wrap ((n / 10 : Nat) : Int) = ((n / 10 : Nat) : Int) := wr64 (by omega)
  have w2 : IntKind.i64.wrap ((n % 10 : Nat) : Int) = ((n % 10 : Nat) : Int) := wr64 (by omega)
  have w3 : IntKind.i64.wrap (((n % 10 : Nat) : Int) + 1) = ((n % 10 : Nat) : Int) + 1 := wr64 (by omega)
  have h10 : n % 10 < 10 := by omega
  refine runs_more baseO (More.of (fgRound_p0 n t) ⟨?oo, rfl, ?rr⟩) (by kernel_rfl) (by kernel_rfl) rfl (gtL (by decide)) (by decide) next
  case oo =>
    clear next
    refine (okc ?_ (okc ?_ (okc ?_ (okc ?_ okn))))
    all_goals ((try simp (disch := omega) only [SS, td, tm, w1, w2, w3, List.length_append, List.length_drop, List.length_take, List.length_cons, List.length_nil]); first | done | omega | assumption | (simp (disch := omega) only [SS, td, tm, w1, w2, w3, List.length_append, List.length_drop, List.length_take, List.length_cons, List.length_nil] at *; first | done | omega | assumption) | (simp_all; done))
  case rr =>
    clear next
    try simp (disch := omega) only [SS, td, tm, w1, w2, w3]
    repeat' apply And.intro
    all_goals first | exact True.intro | with_reducible rfl | (revert h10; generalize n % 10 = d; intro h10; have hd : d = 0 ∨ d = 1 ∨ d = 2 ∨ d = 3 ∨ d = 4 ∨ d = 5 ∨ d = 6 ∨ d = 7 ∨ d = 8 ∨ d = 9 := (by omega); rcases hd with rfl | rfl | rfl | rfl | rfl | rfl | rfl | rfl | rfl | rfl <;> rfl)

theorem fgEnd_p0 (t : List UInt8) :
    isEnd (evTill Tryd.prog [] 300 (99) 900 98 (headOf Tryd.f98 0) (envAt Tryd.f98.ntmps ([(0, vN (0)), (3, vS (t)), (4, vS [])])) ([] ++ ([])) ⟨[.f, .s true], 110⟩) (endP ([]) (vS t) ([]) 140) =
    (OkL [(decide ((0 : Nat) + t.length ≤ (9223372036854775807 : Nat)), true)] ∧ t = [] ++ t ∧ True) := by kernel_rfl

set_option maxHeartbeats 4000000 in
theorem fgEnd (t : List UInt8) (ht : t.length ≤ 100) :
    RunsTo Tryd.prog 98 (headOf Tryd.f98 0) (envAt Tryd.f98.ntmps ([(0, vN (0)), (3, vS (t)), (4, vS [])])) (Sx.look ([] ++ ([]))) 80 (vS t) (Sx.look ([])) 140 := by
  refine runs_last baseO (Sx.Ends.of (fgEnd_p0 t) ⟨?oo, ?rr⟩) (by kernel_rfl) rfl (gtL (by decide)) (by decide)
  case oo =>
    refine (okc ?_ okn)
    all_goals ((try simp (disch := omega) only [SS, List.length_append, List.length_nil]); first | done | omega | assumption | (simp (disch := omega) only [SS, List.length_append, List.length_nil] at *; first | done | omega | assumption) | (simp_all; done))
  case rr =>
    try simp (disch := omega) only [SS, List.length_append, List.length_nil]
    repeat' apply And.intro
    all_goals first | exact True.intro | with_reducible rfl | omega | (intros; first | exact True.intro | with_reducible rfl | omega | (simp_all; done)) | (simp_all; done) | rfl

theorem fgI (n : Nat) (hn : n < 1000) : RunsTo Tryd.prog 98 [.code (bodyOf Tryd.f98)] (envOf [vN n] Tryd.f98.ntmps) (Sx.look ([] ++ ([]))) 80 (vS (dec n)) (Sx.look []) 140 := by
  rcases Nat.eq_zero_or_pos n with h0 | h0
  · subst h0; exact fgZero 0
  · refine fgStart n h0 _ _ (fgRound n [] h0 hn (by simp) _ _ ?_)
    by_cases h1 : n < 10
    · have e1 : n / 10 = 0 := by omega
      have e2 : n % 10 = n := by omega
      have e3 : dec n = [UInt8.ofNat (48 + n)] := if_pos h1
      rw [e1, e2, e3]; exact fgEnd _ (by simp)
    · refine fgRound (n / 10) _ (by omega) (by omega) (by simp) _ _ ?_
      by_cases h2 : n < 100
      · have e1 : n / 10 / 10 = 0 := by omega
        have e2 : n / 10 % 10 = n / 10 := by omega
        have e3 : dec n = [UInt8.ofNat (48 + n / 10), UInt8.ofNat (48 + n % 10)] := by unfold dec; rw [if_neg h1, if_pos h2]
        rw [e1, e2, e3]; exact fgEnd _ (by simp)
      · refine fgRound (n / 10 / 10) _ (by omega) (by omega) (by simp) _ _ ?_
        have e1 : n / 10 / 10 / 10 = 0 := by omega
        have e2 : n / 10 / 10 % 10 = n / 100 := by omega
        have e3 : dec n = [UInt8.ofNat (48 + n / 100), UInt8.ofNat (48 + n / 10 % 10), UInt8.ofNat (48 + n % 10)] := by unfold dec; rw [if_neg h1, if_neg h2]
        rw [e1, e2, e3]; exact fgEnd _ (by simp)
theorem fgJ (c : Int) (h : 0 ≤ c ∧ c < 256) : RunsTo Tryd.prog 98 [.code (bodyOf Tryd.f98)] (envOf [vN c] Tryd.f98.ntmps) (Sx.look ([] ++ ([]))) 80 (vS (dec c.toNat)) (Sx.look []) 140 := by
  obtain ⟨n, rfl⟩ : ∃ n : Nat, c = n := ⟨c.toNat, by omega⟩
  rw [Int.toNat_natCast]
  exact fgI n (by omega)
def fgP : PC := { args := [.v (.vi .i64 0)], heap := [], gs := [], G := 25, tp := 223, n := 80, n' := 140, cond := fun e => decide (0 ≤ eI e 0 [] ∧ eI e 0 [] < 256), v := fun e => vS (dec (eI e 0 []).toNat), post := fun e => [] }
theorem fgP_pc : PC.Runs Tryd.prog 98 Tryd.f98 (bodyOf Tryd.f98) fgP := ⟨Tryd.func98, by kernel_rfl, (fun g hg => by first | cases hg | (revert g; decide)), fun e H hc => by
  have hc : (decide (0 ≤ eI e 0 [] ∧ eI e 0 [] < 256)) = true := hc
  try simp only [Bool.and_eq_true, decide_eq_true_eq, Nat.beq_eq] at hc
  exact fgJ (eI e 0 []) hc⟩
theorem fdStart_p0 (s : List UInt8) :
    isMore (evTill Tryd.prog [] 300 (behind Tryd.f96 0) 900 96 [.code (bodyOf Tryd.f96)] (envOf [vS s] Tryd.f96.ntmps) ([] ++ ([])) ⟨[], 80⟩) (moreP (headOf Tryd.f96 0) ([((100 : Nat), Rn.to (80 : Nat))]) Tryd.f96.ntmps ([(0, vS s), (6, rS 100 s), (7, vN s.length), (8, vN 0)]) (rE 100 s) 140) =
    (OkL [] ∧ headOf Tryd.f96 (0 : Nat) = headOf Tryd.f96 (0 : Nat) ∧ (s = s ∧ ((0 : Nat) = (0 : Nat) ∧ s.length = s.length) ∧ (↑s.length : Int) = (↑s.length : Int) ∧ (0 : Int) = (0 : Int)) ∧ s.length = s.length ∧ ∀ (i : Nat), i < s.length → (↑(s.getD i (0 : UInt8)).toNat : Int) = (↑(s.getD i (0 : UInt8)).toNat : Int)) := by kernel_rfl

set_option maxHeartbeats 4000000 in
theorem fdStart (s : List UInt8) (hs : s.length ≤ 1000) (v : SV) (L' : HF) (next : RunsTo Tryd.prog 96 (headOf Tryd.f96 0) (envAt Tryd.f96.ntmps ([(0, vS s), (6, rS 100 s), (7, vN s.length), (8, vN 0)])) (Sx.look ([] ++ (rE 100 s))) 80 (v) (L') 140) :
    RunsTo Tryd.prog 96 [.code (bodyOf Tryd.f96)] (envOf [vS s] Tryd.f96.ntmps) (Sx.look ([] ++ ([]))) 80 (v) (L') 140 := by
  refine runs_more baseO (More.of (fdStart_p0 s) ⟨?oo, rfl, ?rr⟩) (by kernel_rfl) (by kernel_rfl) rfl (gtL (by decide)) (by decide) next
  case oo =>
    clear next
    refine okn
    all_goals ((try simp (disch := omega) only [SS]); first | done | omega | assumption | (simp (disch := omega) only [SS] at *; first | done | omega | assumption) | (simp_all; done))
  case rr =>
    clear next
    try simp (disch := omega) only [SS]
    repeat' apply And.intro
    all_goals first | exact True.intro | with_reducible rfl | omega | (intros; first | exact True.intro | with_reducible rfl | omega | (simp_all; done)) | (simp_all; done) | rfl

theorem fdRound_p0 (s : List UInt8) (i : Nat) :
    isMore (evTill Tryd.prog [] 300 (behind Tryd.f96 0) 900 96 (headOf Tryd.f96 0) (envAt Tryd.f96.ntmps ([(0, vS s), (6, rS 100 s), (7, vN s.length), (8, vN i)])) ([] ++ (rE 100 s)) ⟨[.s true, .s true, .s true, .s true, .s false, .s false], 110⟩) (moreP (headOf Tryd.f96 0) ([]) Tryd.f96.ntmps ([(0, vS s), (6, rS 100 s), (7, vN s.length), (8, vN (i + 1))]) (rE 100 s) 140) =
    (OkL [(decide ((↑i : Int) < (↑s.length : Int)), true), (decide ((0 : Int) ≤ (↑i : Int) ∧ (↑i : Int) < (↑s.length : Int)), true), (((0 : Nat) + (↑i : Int).toNat).blt s.length, true), (((0 : Nat) + (↑i : Int).toNat).blt s.length, true), (decide ((↑(s.getD ((0 : Nat) + (↑i : Int).toNat) (0 : UInt8)).toNat : Int) < (48 : Int)), false), (decide ((↑(s.getD ((0 : Nat) + (↑i : Int).toNat) (0 : UInt8)).toNat : Int) > (57 : Int)), false)] ∧ headOf Tryd.f96 (0 : Nat) = headOf Tryd.f96 (0 : Nat) ∧ (s = s ∧ ((0 : Nat) = (0 : Nat) ∧ s.length = s.length) ∧ (↑s.length : Int) = (↑s.length : Int) ∧ (↑i : Int) + (1 : Int) = IntKind.i64.wrap ((↑i : Int) + (1 : Int))) ∧ s.length = s.length ∧ ∀ (i : Nat), i < s.length → (↑(s.getD i (0 : UInt8)).toNat : Int) = (↑(s.getD i (0 : UInt8)).toNat : Int)) := by kernel_rfl

set_option maxHeartbeats 4000000 in
theorem fdRound (s : List UInt8) (i : Nat) (hi : i < s.length) (hs : s.length ≤ 1000) (h1 : 48 ≤ (s.getD i 0).toNat) (h2 : (s.getD i 0).toNat ≤ 57) (v : SV) (L' : HF) (next : RunsTo Tryd.prog 96 (headOf Tryd.f96 0) (envAt Tryd.f96.ntmps ([(0, vS s), (6, rS 100 s), (7, vN s.length), (8, vN (i + 1))])) (Sx.look ([] ++ (rE 100 s))) 80 (v) (L') 140) :
    RunsTo Tryd.prog 96 (headOf Tryd.f96 0) (envAt Tryd.f96.ntmps ([(0, vS s), (6, rS 100 s), (7, vN s.length), (8, vN i)])) (Sx.look ([] ++ (rE 100 s))) 80 (v) (L') 140 := by
  have hw : IntKind.i64.wrap ((i : Int) + 1) = ((i + 1 : Nat) : Int) := by rw [wr64 (by omega)]; rfl
  refine runs_more baseO (More.of (fdRound_p0 s i) ⟨?oo, rfl, ?rr⟩) (by kernel_rfl) (by kernel_rfl) rfl (gtL (by decide)) (by decide) next
  case oo =>
    clear next
    refine (okc ?_ (okc ?_ (okc ?_ (okc ?_ (okc ?_ (okc ?_ okn))))))
    all_goals ((try simp (disch := omega) only [SS, hw, List.headD_cons]); first | done | omega | assumption | (simp (disch := omega) only [SS, hw, List.headD_cons] at *; first | done | omega | assumption) | (simp_all; done))
  case rr =>
    clear next
    try simp (disch := omega) only [SS, hw, List.headD_cons]
    repeat' apply And.intro
    all_goals first | exact True.intro | with_reducible rfl | omega | (intros; first | exact True.intro | with_reducible rfl | omega | (simp_all; done)) | (simp_all; done) | rfl

theorem fdLow_p0 (s : List UInt8) (i : Nat) :
    isEnd (evTill Tryd.prog [] 300 (99) 900 96 (headOf Tryd.f96 0) (envAt Tryd.f96.ntmps ([(0, vS s), (6, rS 100 s), (7, vN s.length), (8, vN i)])) ([] ++ (rE 100 s)) ⟨[.s true, .s true, .s true, .s true, .s true], 110⟩) (endP ([]) (vB false) ([]) 140) =
    (OkL [(decide ((↑i : Int) < (↑s.length : Int)), true), (decide ((0 : Int) ≤ (↑i : Int) ∧ (↑i : Int) < (↑s.length : Int)), true), (((0 : Nat) + (↑i : Int).toNat).blt s.length, true), (((0 : Nat) + (↑i : Int).toNat).blt s.length, true), (decide ((↑(s.getD ((0 : Nat) + (↑i : Int).toNat) (0 : UInt8)).toNat : Int) < (48 : Int)), true)] ∧ false = false ∧ True) := by kernel_rfl

set_option maxHeartbeats 4000000 in
theorem fdLow (s : List UInt8) (i : Nat) (hi : i < s.length) (hs : s.length ≤ 1000) (h1 : (s.getD i 0).toNat < 48) :
    RunsTo Tryd.prog 96 (headOf Tryd.f96 0) (envAt Tryd.f96.ntmps ([(0, vS s), (6, rS 100 s), (7, vN s.length), (8, vN i)])) (Sx.look ([] ++ (rE 100 s))) 80 (vB false) (Sx.look ([])) 140 := by
  refine runs_last baseO (Sx.Ends.of (fdLow_p0 s i) ⟨?oo, ?rr⟩) (by kernel_rfl) rfl (gtL (by decide)) (by decide)
  case oo =>
    refine (okc ?_ (okc ?_ (okc ?_ (okc ?_ (okc ?_ okn)))))
    all_goals ((try simp (disch := omega) only [SS, List.headD_cons]); first | done | omega | assumption | (simp (disch := omega) only [SS, List.headD_cons] at *; first | done | omega | assumption) | (simp_all; done))
  case rr =>
    try simp (disch := omega) only [SS, List.headD_cons]
    repeat' apply And.intro
    all_goals first | exact True.intro | with_reducible rfl | omega | (intros; first | exact True.intro | with_reducible rfl | omega | (simp_all; done)) | (simp_all; done) | rfl

theorem fdHigh_p0 (s : List UInt8) (i : Nat) :
    isEnd (evTill Tryd.prog [] 300 (99) 900 96 (headOf Tryd.f96 0) (envAt Tryd.f96.ntmps ([(0, vS s), (6, rS 100 s), (7, vN s.length), (8, vN i)])) ([] ++ (rE 100 s)) ⟨[.s true, .s true, .s true, .s true, .s false, .s true], 110⟩) (endP ([]) (vB false) ([]) 140) =
    (OkL [(decide ((↑i : Int) < (↑s.length : Int)), true), (decide ((0 : Int) ≤ (↑i : Int) ∧ (↑i : Int) < (↑s.length : Int)), true), (((0 : Nat) + (↑i : Int).toNat).blt s.length, true), (((0 : Nat) + (↑i : Int).toNat).blt s.length, true), (decide ((↑(s.getD ((0 : Nat) + (↑i : Int).toNat) (0 : UInt8)).toNat : Int) < (48 : Int)), false), (decide ((↑(s.getD ((0 : Nat) + (↑i : Int).toNat) (0 : UInt8)).toNat : Int) > (57 : Int)), true)] ∧ false = false ∧ True) := by kernel_rfl

set_option maxHeartbeats 4000000 in
theorem fdHigh (s : List UInt8) (i : Nat) (hi : i < s.length) (hs : s.length ≤ 1000) (h1 : 48 ≤ (s.getD i 0).toNat) (h2 : 57 < (s.getD i 0).toNat) :
    RunsTo Tryd.prog 96 (headOf Tryd.f96 0) (envAt Tryd.f96.ntmps ([(0, vS s), (6, rS 100 s), (7, vN s.length), (8, vN i)])) (Sx.look ([] ++ (rE 100 s))) 80 (vB false) (Sx.look ([])) 140 := by
  refine runs_last baseO (Sx.Ends.of (fdHigh_p0 s i) ⟨?oo, ?rr⟩) (by kernel_rfl) rfl (gtL (by decide)) (by decide)
  case oo =>
    refine (okc ?_ (okc ?_ (okc ?_ (okc ?_ (okc ?_ (okc ?_ okn))))))
    all_goals ((try simp (disch := omega) only [SS, List.headD_cons]); first | done | omega | assumption | (simp (disch := omega) only [SS, List.headD_cons] at *; first | done | omega | assumption) | (simp_all; done))
  case rr =>
    try simp (disch := omega) only [SS, List.headD_cons]
    repeat' apply And.intro
    all_goals first | exact True.intro | with_reducible rfl | omega | (intros; first | exact True.intro | with_reducible rfl | omega | (simp_all; done)) | (simp_all; done) | rfl

theorem fdE0_p0 (zz : Nat) :
    isEnd (evTill Tryd.prog [] 300 (99) 900 96 (headOf Tryd.f96 0) (envAt Tryd.f96.ntmps ([(0, vS []), (6, rS 100 []), (7, vN 0), (8, vN 0)])) ([] ++ (rE 100 [])) ⟨[.f, .f], 110⟩) (endP ([]) (vB false) ([]) 140) =
    (OkL [] ∧ false = false ∧ True) := by kernel_rfl

set_option maxHeartbeats 4000000 in
theorem fdE0 (zz : Nat)  :
    RunsTo Tryd.prog 96 (headOf Tryd.f96 0) (envAt Tryd.f96.ntmps ([(0, vS []), (6, rS 100 []), (7, vN 0), (8, vN 0)])) (Sx.look ([] ++ (rE 100 []))) 80 (vB false) (Sx.look ([])) 140 := by
  refine runs_last baseO (Sx.Ends.of (fdE0_p0 zz) ⟨?oo, ?rr⟩) (by kernel_rfl) rfl (gtL (by decide)) (by decide)
  case oo =>
    refine okn
    all_goals ((try simp (disch := omega) only [SS]); first | done | omega | assumption | (simp (disch := omega) only [SS] at *; first | done | omega | assumption) | (simp_all; done))
  case rr =>
    try simp (disch := omega) only [SS]
    repeat' apply And.intro
    all_goals first | exact True.intro | with_reducible rfl | omega | (intros; first | exact True.intro | with_reducible rfl | omega | (simp_all; done)) | (simp_all; done) | rfl

theorem fdE4_p0 (s : List UInt8) :
    isEnd (evTill Tryd.prog [] 300 (99) 900 96 (headOf Tryd.f96 0) (envAt Tryd.f96.ntmps ([(0, vS s), (6, rS 100 s), (7, vN s.length), (8, vN s.length)])) ([] ++ (rE 100 s)) ⟨[.s false, .s true, .s false], 110⟩) (endP ([]) (vB false) ([]) 140) =
    (OkL [(decide ((↑s.length : Int) < (↑s.length : Int)), false), (!s == [], true), (decide ((↑s.length : Int) ≤ (3 : Int)), false)] ∧ false = false ∧ True) := by kernel_rfl

set_option maxHeartbeats 4000000 in
theorem fdE4 (s : List UInt8) (hs : s.length ≤ 1000) (h : 3 < s.length) :
    RunsTo Tryd.prog 96 (headOf Tryd.f96 0) (envAt Tryd.f96.ntmps ([(0, vS s), (6, rS 100 s), (7, vN s.length), (8, vN s.length)])) (Sx.look ([] ++ (rE 100 s))) 80 (vB false) (Sx.look ([])) 140 := by
  have hne : s ≠ [] := by intro e; subst e; simp at h
  refine runs_last baseO (Sx.Ends.of (fdE4_p0 s) ⟨?oo, ?rr⟩) (by kernel_rfl) rfl (gtL (by decide)) (by decide)
  case oo =>
    refine (okc ?_ (okc ?_ (okc ?_ okn)))
    all_goals ((try simp (disch := omega) only [SS, hne]); first | done | omega | assumption | (simp (disch := omega) only [SS, hne] at *; first | done | omega | assumption) | (simp_all; done))
  case rr =>
    try simp (disch := omega) only [SS, hne]
    repeat' apply And.intro
    all_goals first | exact True.intro | with_reducible rfl | omega | (intros; first | exact True.intro | with_reducible rfl | omega | (simp_all; done)) | (simp_all; done) | rfl

theorem fdE1_p0 (a : UInt8) :
    isEnd (evTill Tryd.prog [] 300 (99) 900 96 (headOf Tryd.f96 0) (envAt Tryd.f96.ntmps ([(0, vS [a]), (6, rS 100 [a]), (7, vN 1), (8, vN 1)])) ([] ++ (rE 100 [a])) ⟨[.f, .t, .t, .t], 110⟩) (endP ([]) (vB true) ([]) 140) =
    (OkL [] ∧ true = true ∧ True) := by kernel_rfl

set_option maxHeartbeats 4000000 in
theorem fdE1 (a : UInt8)  :
    RunsTo Tryd.prog 96 (headOf Tryd.f96 0) (envAt Tryd.f96.ntmps ([(0, vS [a]), (6, rS 100 [a]), (7, vN 1), (8, vN 1)])) (Sx.look ([] ++ (rE 100 [a]))) 80 (vB true) (Sx.look ([])) 140 := by
  refine runs_last baseO (Sx.Ends.of (fdE1_p0 a) ⟨?oo, ?rr⟩) (by kernel_rfl) rfl (gtL (by decide)) (by decide)
  case oo =>
    refine okn
    all_goals ((try simp (disch := omega) only [SS]); first | done | omega | assumption | (simp (disch := omega) only [SS] at *; first | done | omega | assumption) | (simp_all; done))
  case rr =>
    try simp (disch := omega) only [SS]
    repeat' apply And.intro
    all_goals first | exact True.intro | with_reducible rfl | omega | (intros; first | exact True.intro | with_reducible rfl | omega | (simp_all; done)) | (simp_all; done) | rfl

theorem fdE2_p0 (s : List UInt8) :
    isEnd (evTill Tryd.prog [] 300 (99) 900 96 (headOf Tryd.f96 0) (envAt Tryd.f96.ntmps ([(0, vS s), (6, rS 100 s), (7, vN s.length), (8, vN s.length)])) ([] ++ (rE 100 s)) ⟨[.s false, .s true, .s true, .s false, .s true], 110⟩) (endP ([]) (vB (!decide (s.getD 0 0 = 48))) ([]) 140) =
    (OkL [(decide ((↑s.length : Int) < (↑s.length : Int)), false), (!s == [], true), (decide ((↑s.length : Int) ≤ (3 : Int)), true), ((↑s.length : Int) == (1 : Int), false), (decide ((0 : Int) ≤ (0 : Int) ∧ (0 : Int) < (↑s.length : Int)), true)] ∧ (!decide (s.getD (0 : Nat) (0 : UInt8) = (48 : UInt8))) = ((↑(s.getD (0 : Nat) (0 : UInt8)).toNat : Int) != (48 : Int)) ∧ True) := by kernel_rfl

set_option maxHeartbeats 4000000 in
theorem fdE2 (s : List UInt8) (hs : 2 ≤ s.length ∧ s.length ≤ 3) :
    RunsTo Tryd.prog 96 (headOf Tryd.f96 0) (envAt Tryd.f96.ntmps ([(0, vS s), (6, rS 100 s), (7, vN s.length), (8, vN s.length)])) (Sx.look ([] ++ (rE 100 s))) 80 (vB (!decide (s.getD 0 0 = 48))) (Sx.look ([])) 140 := by
  have hne : s ≠ [] := by intro e; subst e; simp at hs
  have hz : (((s.getD 0 0).toNat : Nat) : Int) = 48 ↔ s.getD 0 0 = 48 := by
    constructor
    · intro e; apply UInt8.toNat_inj.1; show (s.getD 0 0).toNat = 48; omega
    · intro e; rw [e]; rfl
  refine runs_last baseO (Sx.Ends.of (fdE2_p0 s) ⟨?oo, ?rr⟩) (by kernel_rfl) rfl (gtL (by decide)) (by decide)
  case oo =>
    refine (okc ?_ (okc ?_ (okc ?_ (okc ?_ (okc ?_ okn)))))
    all_goals ((try simp (disch := omega) only [SS, hne]); first | done | omega | assumption | (simp (disch := omega) only [SS, hne] at *; first | done | omega | assumption) | (simp_all; done))
  case rr =>
    refine ⟨?_, trivial⟩
    rw [Bool.eq_iff_iff]
    simp only [Bool.not_eq_true', decide_eq_false_iff_not, bne_iff_ne, ne_eq, ← hz]

theorem fdI (s : List UInt8) (hs : s.length ≤ 1000) : RunsTo Tryd.prog 96 [.code (bodyOf Tryd.f96)] (envOf [vS s] Tryd.f96.ntmps) (Sx.look ([] ++ ([]))) 80 (vB (figB s)) (Sx.look []) 140 := by
  refine fdStart s hs _ _ ?_
  suffices h : ∀ (k i : Nat), i + k = s.length → (∀ j, j < i → isD (s.getD j 0) = true) → RunsTo Tryd.prog 96 (headOf Tryd.f96 0) (envAt Tryd.f96.ntmps ([(0, vS s), (6, rS 100 s), (7, vN s.length), (8, vN i)])) (Sx.look ([] ++ (rE 100 s))) 80 (vB (figB s)) (Sx.look []) 140 from h s.length 0 (by omega) (fun j hj => by omega)
  intro k
  induction k with
  | zero =>
    intro i hi ha
    obtain rfl : i = s.length := by omega
    have hall : s.all isD = true := List.all_eq_true.2 fun x hx => by
      obtain ⟨j, hj, rfl⟩ := List.getElem_of_mem hx
      have := ha j hj
      rwa [List.getD_eq_getElem?_getD, List.getElem?_eq_getElem hj, Option.getD_some] at this
    by_cases h4 : 3 < s.length
    · have : figB s = false := by unfold figB; rw [decide_eq_false (show ¬ s.length ≤ 3 by omega)]; simp
      rw [this]; exact fdE4 s hs h4
    · match s, hall, h4 with
      | [], _, _ => exact fdE0 0
      | [a], hall, _ =>
        have : figB [a] = true := by unfold figB; rw [hall]; simp
        rw [this]; exact fdE1 a
      | a :: b :: r, hall, h4 =>
        have hl : 2 ≤ (a :: b :: r).length ∧ (a :: b :: r).length ≤ 3 := ⟨by simp, by omega⟩
        have : figB (a :: b :: r) = !decide ((a :: b :: r).getD 0 0 = 48) := by
          unfold figB
          rw [hall, decide_eq_true hl.2, decide_eq_false (show ¬ (a :: b :: r).length = 1 by omega)]
          rfl
        rw [this]; exact fdE2 (a :: b :: r) hl
  | succ k ih =>
    intro i hi ha
    have no : isD (s.getD i 0) = false → figB s = false := fun h => by
      have hl : i < s.length := by omega
      have hall : s.all isD = false := by
        rw [List.all_eq_false]
        refine ⟨s[i], List.getElem_mem hl, ?_⟩
        rw [List.getD_eq_getElem?_getD, List.getElem?_eq_getElem hl, Option.getD_some] at h
        rw [h]; simp
      unfold figB
      rw [hall, Bool.false_and]
    by_cases h1 : 48 ≤ (s.getD i 0).toNat
    · by_cases h2 : (s.getD i 0).toNat ≤ 57
      · refine fdRound s i (by omega) hs h1 h2 _ _ (ih (i + 1) (by omega) fun j hj => ?_)
        by_cases e : j = i
        · subst e; unfold isD; rw [decide_eq_true h1, decide_eq_true h2]; rfl
        · exact ha j (by omega)
      · rw [no (by unfold isD; rw [decide_eq_true h1, decide_eq_false h2]; rfl)]; exact fdHigh s i (by omega) hs h1 (by omega)
    · rw [no (by unfold isD; rw [decide_eq_false h1, Bool.false_and])]; exact fdLow s i (by omega) hs (by omega)
def fdP : PC := { args := [.v (.vs 0)], heap := [], gs := [], G := 25, tp := 223, n := 80, n' := 140, cond := fun e => decide ((eS e 0 []).length ≤ 1000), v := fun e => vB (figB (eS e 0 [])), post := fun e => [] }
theorem fdP_pc : PC.Runs Tryd.prog 96 Tryd.f96 (bodyOf Tryd.f96) fdP := ⟨Tryd.func96, by kernel_rfl, (fun g hg => by first | cases hg | (revert g; decide)), fun e H hc => by
  have hc : (decide ((eS e 0 []).length ≤ 1000)) = true := hc
  try simp only [Bool.and_eq_true, decide_eq_true_eq, Nat.beq_eq] at hc
  exact fdI (eS e 0 []) hc⟩
theorem at1_p0 (a : UInt8) :
    isEnd (evTill Tryd.prog [] 300 (99) 900 97 [.code (bodyOf Tryd.f97)] (envOf [vS [a]] Tryd.f97.ntmps) ([] ++ ([])) ⟨[.t, .t, .t, .s false, .t, .s false, .t, .t, .t, .t, .s false, .f, .t, .s false, .f], 80⟩) (endP ([]) (.tup [(false, .vi .i64 fun _ => (valD [a] : Int)), (false, .ve0)]) ([]) 140) =
    (OkL [((↑([a].getD (0 : Nat) (0 : UInt8)).toNat : Int) == (45 : Int), false), ((↑([a].getD (0 : Nat) (0 : UInt8)).toNat : Int) == (43 : Int), false), (decide (IntKind.u8.wrap ((↑([a].getD (0 : Nat) (0 : UInt8)).toNat : Int) - (48 : Int)) > (9 : Int)), false), ((↑([a].getD (0 : Nat) (0 : UInt8)).toNat : Int) == (45 : Int), false)] ∧ ((↑(valD [a]) : Int) = IntKind.i64.wrap (IntKind.i64.wrap ((0 : Int) * (10 : Int)) + IntKind.i64.wrap (IntKind.u8.wrap ((↑([a].getD (0 : Nat) (0 : UInt8)).toNat : Int) - (48 : Int)))) ∧ True ∧ True) ∧ True) := by kernel_rfl

set_option maxHeartbeats 4000000 in
theorem at1 (a : UInt8) (ha : 48 ≤ a.toNat ∧ a.toNat ≤ 57) :
    RunsTo Tryd.prog 97 [.code (bodyOf Tryd.f97)] (envOf [vS [a]] Tryd.f97.ntmps) (Sx.look ([] ++ ([]))) 80 (.tup [(false, .vi .i64 fun _ => (valD [a] : Int)), (false, .ve0)]) (Sx.look ([])) 140 := by
  have ua : IntKind.u8.wrap ((a.toNat : Int) - 48) = (a.toNat : Int) - 48 := by simp only [IntKind.wrap, IntKind.bits, IntKind.signed]; simp; omega
  refine runs_last baseO (Sx.Ends.of (at1_p0 a) ⟨?oo, ?rr⟩) (by kernel_rfl) rfl (gtL (by decide)) (by decide)
  case oo =>
    refine (okc ?_ (okc ?_ (okc ?_ (okc ?_ okn))))
    all_goals (try simp (disch := omega) only [SS, ua]); first | done | omega | (simp only [List.length_cons, List.length_nil, List.getD_cons_zero, List.getD_cons_succ] at *; first | done | omega | (simp_all; done) | (simp_all; omega))
  case rr =>
    try simp (disch := omega) only [SS, ua, wr64s, valD, List.foldl_cons, List.foldl_nil]
    repeat' apply And.intro
    all_goals first | trivial | (simp only [List.headD_cons, List.getD_cons_zero, List.getD_cons_succ, ua]; simp (disch := omega) only [wr64s]; omega) | (rw [wr64] <;> omega)

theorem at2_p0 (a b : UInt8) :
    isEnd (evTill Tryd.prog [] 300 (99) 900 97 [.code (bodyOf Tryd.f97)] (envOf [vS [a, b]] Tryd.f97.ntmps) ([] ++ ([])) ⟨[.t, .t, .t, .s false, .t, .s false, .t, .t, .t, .t, .s false, .t, .t, .t, .t, .s false, .f, .t, .s false, .f], 80⟩) (endP ([]) (.tup [(false, .vi .i64 fun _ => (valD [a, b] : Int)), (false, .ve0)]) ([]) 140) =
    (OkL [((↑([a, b].getD (0 : Nat) (0 : UInt8)).toNat : Int) == (45 : Int), false), ((↑([a, b].getD (0 : Nat) (0 : UInt8)).toNat : Int) == (43 : Int), false), (decide (IntKind.u8.wrap ((↑([a, b].getD (0 : Nat) (0 : UInt8)).toNat : Int) - (48 : Int)) > (9 : Int)), false), (decide (IntKind.u8.wrap ((↑([a, b].getD (1 : Nat) (0 : UInt8)).toNat : Int) - (48 : Int)) > (9 : Int)), false), ((↑([a, b].getD (0 : Nat) (0 : UInt8)).toNat : Int) == (45 : Int), false)] ∧ ((↑(valD [a, b]) : Int) = IntKind.i64.wrap (IntKind.i64.wrap (IntKind.i64.wrap (IntKind.i64.wrap ((0 : Int) * (10 : Int)) + IntKind.i64.wrap (IntKind.u8.wrap ((↑([a, b].getD (0 : Nat) (0 : UInt8)).toNat : Int) - (48 : Int)))) * (10 : Int)) + IntKind.i64.wrap (IntKind.u8.wrap ((↑([a, b].getD (1 : Nat) (0 : UInt8)).toNat : Int) - (48 : Int)))) ∧ True ∧ True) ∧ True) := by kernel_rfl

set_option maxHeartbeats 4000000 in
theorem at2 (a b : UInt8) (ha : 48 ≤ a.toNat ∧ a.toNat ≤ 57) (hb : 48 ≤ b.toNat ∧ b.toNat ≤ 57) :
    RunsTo Tryd.prog 97 [.code (bodyOf Tryd.f97)] (envOf [vS [a, b]] Tryd.f97.ntmps) (Sx.look ([] ++ ([]))) 80 (.tup [(false, .vi .i64 fun _ => (valD [a, b] : Int)), (false, .ve0)]) (Sx.look ([])) 140 := by
  have ua : IntKind.u8.wrap ((a.toNat : Int) - 48) = (a.toNat : Int) - 48 := by simp only [IntKind.wrap, IntKind.bits, IntKind.signed]; simp; omega
  have ub : IntKind.u8.wrap ((b.toNat : Int) - 48) = (b.toNat : Int) - 48 := by simp only [IntKind.wrap, IntKind.bits, IntKind.signed]; simp; omega
  refine runs_last baseO (Sx.Ends.of (at2_p0 a b) ⟨?oo, ?rr⟩) (by kernel_rfl) rfl (gtL (by decide)) (by decide)
  case oo =>
    refine (okc ?_ (okc ?_ (okc ?_ (okc ?_ (okc ?_ okn)))))
    all_goals (try simp (disch := omega) only [SS, ua, ub]); first | done | omega | (simp only [List.length_cons, List.length_nil, List.getD_cons_zero, List.getD_cons_succ] at *; first | done | omega | (simp_all; done) | (simp_all; omega))
  case rr =>
    try simp (disch := omega) only [SS, ua, ub, wr64s, valD, List.foldl_cons, List.foldl_nil]
    repeat' apply And.intro
    all_goals first | trivial | (simp only [List.headD_cons, List.getD_cons_zero, List.getD_cons_succ, ua, ub]; simp (disch := omega) only [wr64s]; omega) | (rw [wr64] <;> omega)

theorem at3_p0 (a b c : UInt8) :
    isEnd (evTill Tryd.prog [] 300 (99) 900 97 [.code (bodyOf Tryd.f97)] (envOf [vS [a, b, c]] Tryd.f97.ntmps) ([] ++ ([])) ⟨[.t, .t, .t, .s false, .t, .s false, .t, .t, .t, .t, .s false, .t, .t, .t, .t, .s false, .t, .t, .t, .t, .s false, .f, .t, .s false, .f], 80⟩) (endP ([]) (.tup [(false, .vi .i64 fun _ => (valD [a, b, c] : Int)), (false, .ve0)]) ([]) 140) =
    (OkL [((↑([a, b, c].getD (0 : Nat) (0 : UInt8)).toNat : Int) == (45 : Int), false), ((↑([a, b, c].getD (0 : Nat) (0 : UInt8)).toNat : Int) == (43 : Int), false), (decide (IntKind.u8.wrap ((↑([a, b, c].getD (0 : Nat) (0 : UInt8)).toNat : Int) - (48 : Int)) > (9 : Int)), false), (decide (IntKind.u8.wrap ((↑([a, b, c].getD (1 : Nat) (0 : UInt8)).toNat : Int) - (48 : Int)) > (9 : Int)), false), (decide (IntKind.u8.wrap ((↑([a, b, c].getD (2 : Nat) (0 : UInt8)).toNat : Int) - (48 : Int)) > (9 : Int)), false), ((↑([a, b, c].getD (0 : Nat) (0 : UInt8)).toNat : Int) == (45 : Int), false)] ∧ ((↑(valD [a, b, c]) : Int) = IntKind.i64.wrap (IntKind.i64.wrap (IntKind.i64.wrap (IntKind.i64.wrap (IntKind.i64.wrap (IntKind.i64.wrap ((0 : Int) * (10 : Int)) + IntKind.i64.wrap (IntKind.u8.wrap ((↑([a, b, c].getD (0 : Nat) (0 : UInt8)).toNat : Int) - (48 : Int)))) * (10 : Int)) + IntKind.i64.wrap (IntKind.u8.wrap ((↑([a, b, c].getD (1 : Nat) (0 : UInt8)).toNat : Int) - (48 : Int)))) * (10 : Int)) + IntKind.i64.wrap (IntKind.u8.wrap ((↑([a, b, c].getD (2 : Nat) (0 : UInt8)).toNat : Int) - (48 : Int)))) ∧ True ∧ True) ∧ True) := by kernel_rfl

set_option maxHeartbeats 4000000 in
theorem at3 (a b c : UInt8) (ha : 48 ≤ a.toNat ∧ a.toNat ≤ 57) (hb : 48 ≤ b.toNat ∧ b.toNat ≤ 57) (hc : 48 ≤ c.toNat ∧ c.toNat ≤ 57) :
    RunsTo Tryd.prog 97 [.code (bodyOf Tryd.f97)] (envOf [vS [a, b, c]] Tryd.f97.ntmps) (Sx.look ([] ++ ([]))) 80 (.tup [(false, .vi .i64 fun _ => (valD [a, b, c] : Int)), (false, .ve0)]) (Sx.look ([])) 140 := by
  have ua : IntKind.u8.wrap ((a.toNat : Int) - 48) = (a.toNat : Int) - 48 := by simp only [IntKind.wrap, IntKind.bits, IntKind.signed]; simp; omega
  have ub : IntKind.u8.wrap ((b.toNat : Int) - 48) = (b.toNat : Int) - 48 := by simp only [IntKind.wrap, IntKind.bits, IntKind.signed]; simp; omega
  have uc : IntKind.u8.wrap ((c.toNat : Int) - 48) = (c.toNat : Int) - 48 := by simp only [IntKind.wrap, IntKind.bits, IntKind.signed]; simp; omega
  refine runs_last baseO (Sx.Ends.of (at3_p0 a b c) ⟨?oo, ?rr⟩) (by kernel_rfl) rfl (gtL (by decide)) (by decide)
  case oo =>
    refine (okc ?_ (okc ?_ (okc ?_ (okc ?_ (okc ?_ (okc ?_ okn))))))
    all_goals (try simp (disch := omega) only [SS, ua, ub, uc]); first | done | omega | (simp only [List.length_cons, List.length_nil, List.getD_cons_zero, List.getD_cons_succ] at *; first | done | omega | (simp_all; done) | (simp_all; omega))
  case rr =>
    try simp (disch := omega) only [SS, ua, ub, uc, wr64s, valD, List.foldl_cons, List.foldl_nil]
    repeat' apply And.intro
    all_goals first | trivial | (simp only [List.headD_cons, List.getD_cons_zero, List.getD_cons_succ, ua, ub, uc]; simp (disch := omega) only [wr64s]; omega) | (rw [wr64] <;> omega)

theorem atI (s : List UInt8) (h : figB s = true) : RunsTo Tryd.prog 97 [.code (bodyOf Tryd.f97)] (envOf [vS s] Tryd.f97.ntmps) (Sx.look ([] ++ ([]))) 80 (.tup [(false, .vi .i64 fun _ => (valD s : Int)), (false, .ve0)]) (Sx.look []) 140 := by
  have hb : ∀ c, isD c = true → 48 ≤ c.toNat ∧ c.toNat ≤ 57 := fun c hc => by simpa [isD] using hc
  simp only [figB, Bool.and_eq_true, Bool.not_eq_true', decide_eq_true_eq, List.isEmpty_eq_false_iff] at h
  obtain ⟨h1, h2, h3, _⟩ := h
  match s, h1, h2, h3 with
  | [a], h1, _, _ =>
    simp only [List.all_cons, List.all_nil, Bool.and_true] at h1
    exact at1 a (hb a h1)
  | [a, b], h1, _, _ =>
    simp only [List.all_cons, List.all_nil, Bool.and_true, Bool.and_eq_true] at h1
    exact at2 a b (hb a h1.1) (hb b h1.2)
  | [a, b, c], h1, _, _ =>
    simp only [List.all_cons, List.all_nil, Bool.and_true, Bool.and_eq_true] at h1
    exact at3 a b c (hb a h1.1) (hb b h1.2.1) (hb c h1.2.2)
  | a :: b :: c :: d :: r, _, _, h3 => simp at h3
def atP : PC := { args := [.v (.vs 0)], heap := [], gs := [], G := 25, tp := 223, n := 80, n' := 140, cond := fun e => figB (eS e 0 []), v := fun e => .tup [(false, .vi .i64 fun _ => (valD (eS e 0 []) : Int)), (false, .ve0)], post := fun e => [] }
theorem atP_pc : PC.Runs Tryd.prog 97 Tryd.f97 (bodyOf Tryd.f97) atP := ⟨Tryd.func97, by kernel_rfl, (fun g hg => by first | cases hg | (revert g; decide)), fun e H hc => by
  have hc : (figB (eS e 0 [])) = true := hc
  try simp only [Bool.and_eq_true, decide_eq_true_eq, Nat.beq_eq] at hc
  exact atI (eS e 0 []) hc⟩
def sumsP : List (FuncId × Summ) := [(95, wdP.summ 50), (96, fdP.summ 50), (97, atP.summ 50)]
theorem baseP : Base0 Tryd.prog sumsP := (((baseO.cons Tryd.func97 (by kernel_rfl) (PC.summ_ok atP_pc gtopG)).cons Tryd.func96 (by kernel_rfl) (PC.summ_ok fdP_pc gtopG)).cons Tryd.func95 (by kernel_rfl) (PC.summ_ok wdP_pc gtopG))
theorem opStart_p0 (s : List UInt8) :
    isMore (evTill Tryd.prog sumsP 300 (behind Tryd.f70 0) 900 70 [.code (bodyOf Tryd.f70)] (envOf [vS s] Tryd.f70.ntmps) ([] ++ ([])) ⟨[], 80⟩) (moreP (headOf Tryd.f70 0) ([]) Tryd.f70.ntmps ([(0, vS s), (8, vN 0)]) ([]) 300) =
    (OkL [] ∧ headOf Tryd.f70 (0 : Nat) = headOf Tryd.f70 (0 : Nat) ∧ (s = s ∧ (0 : Int) = (0 : Int)) ∧ True) := by kernel_rfl

set_option maxHeartbeats 4000000 in
theorem opStart (s : List UInt8)  (v : SV) (L' : HF) (next : RunsTo Tryd.prog 70 (headOf Tryd.f70 0) (envAt Tryd.f70.ntmps ([(0, vS s), (8, vN 0)])) (Sx.look ([] ++ ([]))) 80 (v) (L') 300) :
    RunsTo Tryd.prog 70 [.code (bodyOf Tryd.f70)] (envOf [vS s] Tryd.f70.ntmps) (Sx.look ([] ++ ([]))) 80 (v) (L') 300 := by
  refine runs_more baseP (More.of (opStart_p0 s) ⟨?oo, rfl, ?rr⟩) (by kernel_rfl) (by kernel_rfl) rfl (gtL (by decide)) (by decide) next
  case oo =>
    clear next
    refine okn
    all_goals ((try simp (disch := omega) only [SS]); first | done | omega | assumption | (simp (disch := omega) only [SS] at *; first | done | omega | assumption) | (simp_all; done))
  case rr =>
    clear next
    try simp (disch := omega) only [SS]
    repeat' apply And.intro
    all_goals first | exact True.intro | with_reducible rfl | omega | (intros; first | exact True.intro | with_reducible rfl | omega | (simp_all; done)) | (simp_all; done) | rfl

theorem opNo1_p0 (s : List UInt8) (i : Nat) :
    isMore (evTill Tryd.prog sumsP 300 (behind Tryd.f70 0) 900 70 (headOf Tryd.f70 0) (envAt Tryd.f70.ntmps ([(0, vS s), (8, vN i)])) ([] ++ ([])) ⟨[.s true, .t, .s false], 110⟩) (moreP (headOf Tryd.f70 0) ([]) Tryd.f70.ntmps ([(0, vS s), (8, vN (i + 1))]) ([]) 300) =
    (OkL [(decide ((↑i : Int) < (256 : Int)), true), (!wdC (↑i : Int) == [], false)] ∧ headOf Tryd.f70 (0 : Nat) = headOf Tryd.f70 (0 : Nat) ∧ (s = s ∧ (↑i : Int) + (1 : Int) = IntKind.i64.wrap ((↑i : Int) + (1 : Int))) ∧ True) := by kernel_rfl

set_option maxHeartbeats 4000000 in
theorem opNo1 (s : List UInt8) (i : Nat) (hi : i < 256) (h1 : wdC (i : Int) = []) (v : SV) (L' : HF) (next : RunsTo Tryd.prog 70 (headOf Tryd.f70 0) (envAt Tryd.f70.ntmps ([(0, vS s), (8, vN (i + 1))])) (Sx.look ([] ++ ([]))) 80 (v) (L') 300) :
    RunsTo Tryd.prog 70 (headOf Tryd.f70 0) (envAt Tryd.f70.ntmps ([(0, vS s), (8, vN i)])) (Sx.look ([] ++ ([]))) 80 (v) (L') 300 := by
  have hw : IntKind.i64.wrap ((i : Int) + 1) = ((i + 1 : Nat) : Int) := by rw [wr64 (by omega)]; rfl
  refine runs_more baseP (More.of (opNo1_p0 s i) ⟨?oo, rfl, ?rr⟩) (by kernel_rfl) (by kernel_rfl) rfl (gtL (by decide)) (by decide) next
  case oo =>
    clear next
    refine (okc ?_ (okc ?_ okn))
    all_goals ((try simp (disch := omega) only [SS, hw, h1]); first | done | omega | assumption | (simp (disch := omega) only [SS, hw, h1] at *; first | done | omega | assumption) | (simp_all; done))
  case rr =>
    clear next
    try simp (disch := omega) only [SS, hw, h1]
    repeat' apply And.intro
    all_goals first | exact True.intro | with_reducible rfl | omega | (intros; first | exact True.intro | with_reducible rfl | omega | (simp_all; done)) | (simp_all; done) | rfl

theorem opNo2_p0 (s : List UInt8) (i : Nat) :
    isMore (evTill Tryd.prog sumsP 300 (behind Tryd.f70 0) 900 70 (headOf Tryd.f70 0) (envAt Tryd.f70.ntmps ([(0, vS s), (8, vN i)])) ([] ++ ([])) ⟨[.s true, .t, .s true, .s false], 110⟩) (moreP (headOf Tryd.f70 0) ([]) Tryd.f70.ntmps ([(0, vS s), (8, vN (i + 1))]) ([]) 300) =
    (OkL [(decide ((↑i : Int) < (256 : Int)), true), (!wdC (↑i : Int) == [], true), (wdC (↑i : Int) == s, false)] ∧ headOf Tryd.f70 (0 : Nat) = headOf Tryd.f70 (0 : Nat) ∧ (s = s ∧ (↑i : Int) + (1 : Int) = IntKind.i64.wrap ((↑i : Int) + (1 : Int))) ∧ True) := by kernel_rfl

set_option maxHeartbeats 4000000 in
theorem opNo2 (s : List UInt8) (i : Nat) (hi : i < 256) (h1 : wdC (i : Int) ≠ []) (h2 : wdC (i : Int) ≠ s) (v : SV) (L' : HF) (next : RunsTo Tryd.prog 70 (headOf Tryd.f70 0) (envAt Tryd.f70.ntmps ([(0, vS s), (8, vN (i + 1))])) (Sx.look ([] ++ ([]))) 80 (v) (L') 300) :
    RunsTo Tryd.prog 70 (headOf Tryd.f70 0) (envAt Tryd.f70.ntmps ([(0, vS s), (8, vN i)])) (Sx.look ([] ++ ([]))) 80 (v) (L') 300 := by
  have hw : IntKind.i64.wrap ((i : Int) + 1) = ((i + 1 : Nat) : Int) := by rw [wr64 (by omega)]; rfl
  refine runs_more baseP (More.of (opNo2_p0 s i) ⟨?oo, rfl, ?rr⟩) (by kernel_rfl) (by kernel_rfl) rfl (gtL (by decide)) (by decide) next
  case oo =>
    clear next
    refine (okc ?_ (okc ?_ (okc ?_ okn)))
    all_goals ((try simp (disch := omega) only [SS, hw, h1, h2]); first | done | omega | assumption | (simp (disch := omega) only [SS, hw, h1, h2] at *; first | done | omega | assumption) | (simp_all; done))
  case rr =>
    clear next
    try simp (disch := omega) only [SS, hw, h1, h2]
    repeat' apply And.intro
    all_goals first | exact True.intro | with_reducible rfl | omega | (intros; first | exact True.intro | with_reducible rfl | omega | (simp_all; done)) | (simp_all; done) | rfl

theorem opHit_p0 (s : List UInt8) (i : Nat) :
    isEnd (evTill Tryd.prog sumsP 300 (99) 900 70 (headOf Tryd.f70 0) (envAt Tryd.f70.ntmps ([(0, vS s), (8, vN i)])) ([] ++ ([])) ⟨[.s true, .t, .s true, .s true], 110⟩) (endP ([]) (.tup [(false, .vi .i64 fun _ => (i : Int)), (false, .vb fun _ => true)]) ([]) 300) =
    (OkL [(decide ((↑i : Int) < (256 : Int)), true), (!wdC (↑i : Int) == [], true), (wdC (↑i : Int) == s, true)] ∧ ((↑i : Int) = (↑i : Int) ∧ true = true ∧ True) ∧ True) := by kernel_rfl

set_option maxHeartbeats 4000000 in
theorem opHit (s : List UInt8) (i : Nat) (hi : i < 256) (h1 : wdC (i : Int) ≠ []) (h2 : wdC (i : Int) = s) :
    RunsTo Tryd.prog 70 (headOf Tryd.f70 0) (envAt Tryd.f70.ntmps ([(0, vS s), (8, vN i)])) (Sx.look ([] ++ ([]))) 80 (.tup [(false, .vi .i64 fun _ => (i : Int)), (false, .vb fun _ => true)]) (Sx.look ([])) 300 := by
  have hw : IntKind.i64.wrap ((i : Int) + 1) = ((i + 1 : Nat) : Int) := by rw [wr64 (by omega)]; rfl
  refine runs_last baseP (Sx.Ends.of (opHit_p0 s i) ⟨?oo, ?rr⟩) (by kernel_rfl) rfl (gtL (by decide)) (by decide)
  case oo =>
    refine (okc ?_ (okc ?_ (okc ?_ okn)))
    all_goals ((try simp (disch := omega) only [SS, hw, h1, h2]); first | done | omega | assumption | (simp (disch := omega) only [SS, hw, h1, h2] at *; first | done | omega | assumption) | (simp_all; done))
  case rr =>
    try simp (disch := omega) only [SS, hw, h1, h2]
    repeat' apply And.intro
    all_goals first | exact True.intro | with_reducible rfl | omega | (intros; first | exact True.intro | with_reducible rfl | omega | (simp_all; done)) | (simp_all; done) | rfl

theorem opNot_p0 (s : List UInt8) :
    isEnd (evTill Tryd.prog sumsP 300 (99) 900 70 (headOf Tryd.f70 0) (envAt Tryd.f70.ntmps ([(0, vS s), (8, vN 256)])) ([] ++ ([])) ⟨[.f, .s true, .s true], 110⟩) (endP ([]) (.tup [(false, .vi .i64 fun _ => 0), (false, .vb fun _ => false)]) ([]) 300) =
    (OkL [(decide (s.length ≤ (1000 : Nat)), true), (!figB s, true)] ∧ ((0 : Int) = (0 : Int) ∧ false = false ∧ True) ∧ True) := by kernel_rfl

set_option maxHeartbeats 4000000 in
theorem opNot (s : List UInt8) (hs : s.length ≤ 1000) (h1 : figB s = false) :
    RunsTo Tryd.prog 70 (headOf Tryd.f70 0) (envAt Tryd.f70.ntmps ([(0, vS s), (8, vN 256)])) (Sx.look ([] ++ ([]))) 80 (.tup [(false, .vi .i64 fun _ => 0), (false, .vb fun _ => false)]) (Sx.look ([])) 300 := by
  refine runs_last baseP (Sx.Ends.of (opNot_p0 s) ⟨?oo, ?rr⟩) (by kernel_rfl) rfl (gtL (by decide)) (by decide)
  case oo =>
    refine (okc ?_ (okc ?_ okn))
    all_goals ((try simp (disch := omega) only [SS, h1]); first | done | omega | assumption | (simp (disch := omega) only [SS, h1] at *; first | done | omega | assumption) | (simp_all; done))
  case rr =>
    try simp (disch := omega) only [SS, h1]
    repeat' apply And.intro
    all_goals first | exact True.intro | with_reducible rfl | omega | (intros; first | exact True.intro | with_reducible rfl | omega | (simp_all; done)) | (simp_all; done) | rfl

theorem opBig_p0 (s : List UInt8) :
    isEnd (evTill Tryd.prog sumsP 300 (99) 900 70 (headOf Tryd.f70 0) (envAt Tryd.f70.ntmps ([(0, vS s), (8, vN 256)])) ([] ++ ([])) ⟨[.f, .s true, .s false, .s true, .f, .s true], 110⟩) (endP ([]) (.tup [(false, .vi .i64 fun _ => 0), (false, .vb fun _ => false)]) ([]) 300) =
    (OkL [(decide (s.length ≤ (1000 : Nat)), true), (!figB s, false), (figB s, true), (decide ((↑(valD s) : Int) ≥ (256 : Int)), true)] ∧ ((0 : Int) = (0 : Int) ∧ false = false ∧ True) ∧ True) := by kernel_rfl

set_option maxHeartbeats 4000000 in
theorem opBig (s : List UInt8) (hs : s.length ≤ 1000) (h1 : figB s = true) (h2 : 256 ≤ valD s) :
    RunsTo Tryd.prog 70 (headOf Tryd.f70 0) (envAt Tryd.f70.ntmps ([(0, vS s), (8, vN 256)])) (Sx.look ([] ++ ([]))) 80 (.tup [(false, .vi .i64 fun _ => 0), (false, .vb fun _ => false)]) (Sx.look ([])) 300 := by
  refine runs_last baseP (Sx.Ends.of (opBig_p0 s) ⟨?oo, ?rr⟩) (by kernel_rfl) rfl (gtL (by decide)) (by decide)
  case oo =>
    refine (okc ?_ (okc ?_ (okc ?_ (okc ?_ okn))))
    all_goals ((try simp (disch := omega) only [SS, h1]); first | done | omega | assumption | (simp (disch := omega) only [SS, h1] at *; first | done | omega | assumption) | (simp_all; done))
  case rr =>
    try simp (disch := omega) only [SS, h1]
    repeat' apply And.intro
    all_goals first | exact True.intro | with_reducible rfl | omega | (intros; first | exact True.intro | with_reducible rfl | omega | (simp_all; done)) | (simp_all; done) | rfl

theorem opFig_p0 (s : List UInt8) :
    isEnd (evTill Tryd.prog sumsP 300 (99) 900 70 (headOf Tryd.f70 0) (envAt Tryd.f70.ntmps ([(0, vS s), (8, vN 256)])) ([] ++ ([])) ⟨[.f, .s true, .s false, .s true, .f, .s false], 110⟩) (endP ([]) (.tup [(false, .vi .i64 fun _ => (valD s : Int)), (false, .vb fun _ => true)]) ([]) 300) =
    (OkL [(decide (s.length ≤ (1000 : Nat)), true), (!figB s, false), (figB s, true), (decide ((↑(valD s) : Int) ≥ (256 : Int)), false)] ∧ ((↑(valD s) : Int) = (↑(valD s) : Int) ∧ true = true ∧ True) ∧ True) := by kernel_rfl

set_option maxHeartbeats 4000000 in
theorem opFig (s : List UInt8) (hs : s.length ≤ 1000) (h1 : figB s = true) (h2 : valD s < 256) :
    RunsTo Tryd.prog 70 (headOf Tryd.f70 0) (envAt Tryd.f70.ntmps ([(0, vS s), (8, vN 256)])) (Sx.look ([] ++ ([]))) 80 (.tup [(false, .vi .i64 fun _ => (valD s : Int)), (false, .vb fun _ => true)]) (Sx.look ([])) 300 := by
  refine runs_last baseP (Sx.Ends.of (opFig_p0 s) ⟨?oo, ?rr⟩) (by kernel_rfl) rfl (gtL (by decide)) (by decide)
  case oo =>
    refine (okc ?_ (okc ?_ (okc ?_ (okc ?_ okn))))
    all_goals ((try simp (disch := omega) only [SS, h1]); first | done | omega | assumption | (simp (disch := omega) only [SS, h1] at *; first | done | omega | assumption) | (simp_all; done))
  case rr =>
    try simp (disch := omega) only [SS, h1]
    repeat' apply And.intro
    all_goals first | exact True.intro | with_reducible rfl | omega | (intros; first | exact True.intro | with_reducible rfl | omega | (simp_all; done)) | (simp_all; done) | rfl

theorem opI (s : List UInt8) (hs : s.length ≤ 1000) : RunsTo Tryd.prog 70 [.code (bodyOf Tryd.f70)] (envOf [vS s] Tryd.f70.ntmps) (Sx.look ([] ++ ([]))) 80 (.tup [(false, .vi .i64 fun _ => optV s), (false, .vb fun _ => optK s)]) (Sx.look []) 300 := by
  refine opStart s _ _ ?_
  suffices h : ∀ (k i : Nat), i + k = 256 → RunsTo Tryd.prog 70 (headOf Tryd.f70 0) (envAt Tryd.f70.ntmps ([(0, vS s), (8, vN i)])) (Sx.look ([] ++ ([]))) 80 (.tup [(false, .vi .i64 fun _ => (if 0 ≤ wSr s k i then wSr s k i else if figB s = true ∧ valD s < 256 then (valD s : Int) else 0)), (false, .vb fun _ => (decide (0 ≤ wSr s k i) || (figB s && decide (valD s < 256))))]) (Sx.look []) 300 from h 256 0 (by omega)
  intro k
  induction k with
  | zero =>
    intro i hi
    obtain rfl : i = 256 := by omega
    rw [show wSr s 0 256 = -1 from rfl]
    rw [if_neg (show ¬ (0 : Int) ≤ -1 by omega), show decide ((0 : Int) ≤ -1) = false from rfl, Bool.false_or]
    cases h1 : figB s with
    | false => simp only [Bool.false_eq_true, false_and, if_false, Bool.false_and]; exact opNot s hs h1
    | true =>
      by_cases h2 : valD s < 256
      · rw [if_pos ⟨rfl, h2⟩, decide_eq_true h2]; exact opFig s hs h1 h2
      · rw [if_neg (fun e => h2 e.2), decide_eq_false h2]; exact opBig s hs h1 (by omega)
  | succ k ih =>
    intro i hi
    have h3 := ih (i + 1) (by omega)
    by_cases h1 : wdC (i : Int) = []
    · have e : wSr s (k + 1) i = wSr s k (i + 1) := by simp only [wSr]; rw [if_neg (fun x => x.1 h1)]
      rw [e]; exact opNo1 s i (by omega) h1 _ _ h3
    · by_cases h2 : wdC (i : Int) = s
      · have e : wSr s (k + 1) i = i := by simp only [wSr]; rw [if_pos ⟨h1, h2⟩]
        rw [e, if_pos (by omega), decide_eq_true (by omega), Bool.true_or]
        exact opHit s i (by omega) h1 h2
      · have e : wSr s (k + 1) i = wSr s k (i + 1) := by simp only [wSr]; rw [if_neg (fun x => h2 x.2)]
        rw [e]; exact opNo2 s i (by omega) h1 h2 _ _ h3
def opP : PC := { args := [.v (.vs 0)], heap := [], gs := [], G := 25, tp := 223, n := 80, n' := 300, cond := fun e => decide ((eS e 0 []).length ≤ 1000), v := fun e => .tup [(false, .vi .i64 fun _ => optV (eS e 0 [])), (false, .vb fun _ => optK (eS e 0 []))], post := fun e => [] }
theorem opP_pc : PC.Runs Tryd.prog 70 Tryd.f70 (bodyOf Tryd.f70) opP := ⟨Tryd.func70, by kernel_rfl, (fun g hg => by first | cases hg | (revert g; decide)), fun e H hc => by
  have hc : (decide ((eS e 0 []).length ≤ 1000)) = true := hc
  try simp only [Bool.and_eq_true, decide_eq_true_eq, Nat.beq_eq] at hc
  exact opI (eS e 0 []) hc⟩
def sumsQ : List (FuncId × Summ) := [(98, fgP.summ 50)]
theorem baseQ : Base0 Tryd.prog sumsQ := (baseO.cons Tryd.func98 (by kernel_rfl) (PC.summ_ok fgP_pc gtopG))
theorem rn0_p0 (zz : Nat) :
    isEnd (evTill Tryd.prog sumsQ 600 (99) 900 73 [.code (bodyOf Tryd.f73)] (envOf [vN 0] Tryd.f73.ntmps) ([] ++ ([])) ⟨[.f, .f, .t, .t, .t, .t, .t, .t, .t, .t], 80⟩) (endP ([]) (vS (nameC 0)) ([]) 200) =
    (OkL [] ∧ nameC (0 : Int) = upd (upd (upd (upd (upd (upd (upd (upd (fun is => []) [(0 : Nat)] [(98 : UInt8), (105 : UInt8), (110 : UInt8), (97 : UInt8), (114 : UInt8), (121 : UInt8)]) [(1 : Nat)] [(101 : UInt8), (99 : UInt8), (104 : UInt8), (111 : UInt8)]) [(2 : Nat)] [(115 : UInt8), (103 : UInt8), (97 : UInt8)]) [(3 : Nat)] [(115 : UInt8), (116 : UInt8), (97 : UInt8), (116 : UInt8), (117 : UInt8), (115 : UInt8)]) [(4 : Nat)] [(109 : UInt8), (97 : UInt8), (114 : UInt8), (107 : UInt8)]) [(5 : Nat)] [(116 : UInt8), (116 : UInt8), (121 : UInt8), (112 : UInt8), (101 : UInt8)]) [(6 : Nat)] [(110 : UInt8), (97 : UInt8), (119 : UInt8), (115 : UInt8)]) [(7 : Nat)] [(108 : UInt8), (105 : UInt8), (110 : UInt8), (101 : UInt8), (109 : UInt8), (111 : UInt8), (100 : UInt8), (101 : UInt8)] [(0 : Nat)] ∧ True) := by kernel_rfl

set_option maxHeartbeats 4000000 in
theorem rn0 (zz : Nat)  :
    RunsTo Tryd.prog 73 [.code (bodyOf Tryd.f73)] (envOf [vN 0] Tryd.f73.ntmps) (Sx.look ([] ++ ([]))) 80 (vS (nameC 0)) (Sx.look ([])) 200 := by
  refine runs_last baseQ (Sx.Ends.of (rn0_p0 zz) ⟨?oo, ?rr⟩) (by kernel_rfl) rfl (gtL (by decide)) (by decide)
  case oo =>
    refine okn
    all_goals ((try simp (disch := omega) only [SS]); first | done | omega | assumption | (simp (disch := omega) only [SS] at *; first | done | omega | assumption) | (simp_all; done))
  case rr =>
    try simp (disch := omega) only [SS]
    repeat' apply And.intro
    all_goals first | exact True.intro | with_reducible rfl | omega | (intros; first | exact True.intro | with_reducible rfl | omega | (simp_all; done)) | (simp_all; done) | rfl

theorem rn1_p0 (zz : Nat) :
    isEnd (evTill Tryd.prog sumsQ 600 (99) 900 73 [.code (bodyOf Tryd.f73)] (envOf [vN 1] Tryd.f73.ntmps) ([] ++ ([])) ⟨[.f, .f, .t, .t, .t, .t, .f, .t, .t, .t, .t, .t, .t, .t, .t], 80⟩) (endP ([]) (vS (nameC 1)) ([]) 200) =
    (OkL [] ∧ nameC (1 : Int) = upd (upd (upd (upd (upd (upd (upd (upd (fun is => []) [(0 : Nat)] [(98 : UInt8), (105 : UInt8), (110 : UInt8), (97 : UInt8), (114 : UInt8), (121 : UInt8)]) [(1 : Nat)] [(101 : UInt8), (99 : UInt8), (104 : UInt8), (111 : UInt8)]) [(2 : Nat)] [(115 : UInt8), (103 : UInt8), (97 : UInt8)]) [(3 : Nat)] [(115 : UInt8), (116 : UInt8), (97 : UInt8), (116 : UInt8), (117 : UInt8), (115 : UInt8)]) [(4 : Nat)] [(109 : UInt8), (97 : UInt8), (114 : UInt8), (107 : UInt8)]) [(5 : Nat)] [(116 : UInt8), (116 : UInt8), (121 : UInt8), (112 : UInt8), (101 : UInt8)]) [(6 : Nat)] [(110 : UInt8), (97 : UInt8), (119 : UInt8), (115 : UInt8)]) [(7 : Nat)] [(108 : UInt8), (105 : UInt8), (110 : UInt8), (101 : UInt8), (109 : UInt8), (111 : UInt8), (100 : UInt8), (101 : UInt8)] [(1 : Nat)] ∧ True) := by kernel_rfl

set_option maxHeartbeats 4000000 in
theorem rn1 (zz : Nat)  :
    RunsTo Tryd.prog 73 [.code (bodyOf Tryd.f73)] (envOf [vN 1] Tryd.f73.ntmps) (Sx.look ([] ++ ([]))) 80 (vS (nameC 1)) (Sx.look ([])) 200 := by
  refine runs_last baseQ (Sx.Ends.of (rn1_p0 zz) ⟨?oo, ?rr⟩) (by kernel_rfl) rfl (gtL (by decide)) (by decide)
  case oo =>
    refine okn
    all_goals ((try simp (disch := omega) only [SS]); first | done | omega | assumption | (simp (disch := omega) only [SS] at *; first | done | omega | assumption) | (simp_all; done))
  case rr =>
    try simp (disch := omega) only [SS]
    repeat' apply And.intro
    all_goals first | exact True.intro | with_reducible rfl | omega | (intros; first | exact True.intro | with_reducible rfl | omega | (simp_all; done)) | (simp_all; done) | rfl

theorem rn3_p0 (zz : Nat) :
    isEnd (evTill Tryd.prog sumsQ 600 (99) 900 73 [.code (bodyOf Tryd.f73)] (envOf [vN 3] Tryd.f73.ntmps) ([] ++ ([])) ⟨[.f, .f, .t, .t, .t, .t, .f, .t, .t, .t, .t, .f, .t, .t, .t, .t, .t, .t, .t, .t], 80⟩) (endP ([]) (vS (nameC 3)) ([]) 200) =
    (OkL [] ∧ nameC (3 : Int) = upd (upd (upd (upd (upd (upd (upd (upd (fun is => []) [(0 : Nat)] [(98 : UInt8), (105 : UInt8), (110 : UInt8), (97 : UInt8), (114 : UInt8), (121 : UInt8)]) [(1 : Nat)] [(101 : UInt8), (99 : UInt8), (104 : UInt8), (111 : UInt8)]) [(2 : Nat)] [(115 : UInt8), (103 : UInt8), (97 : UInt8)]) [(3 : Nat)] [(115 : UInt8), (116 : UInt8), (97 : UInt8), (116 : UInt8), (117 : UInt8), (115 : UInt8)]) [(4 : Nat)] [(109 : UInt8), (97 : UInt8), (114 : UInt8), (107 : UInt8)]) [(5 : Nat)] [(116 : UInt8), (116 : UInt8), (121 : UInt8), (112 : UInt8), (101 : UInt8)]) [(6 : Nat)] [(110 : UInt8), (97 : UInt8), (119 : UInt8), (115 : UInt8)]) [(7 : Nat)] [(108 : UInt8), (105 : UInt8), (110 : UInt8), (101 : UInt8), (109 : UInt8), (111 : UInt8), (100 : UInt8), (101 : UInt8)] [(2 : Nat)] ∧ True) := by kernel_rfl

set_option maxHeartbeats 4000000 in
theorem rn3 (zz : Nat)  :
    RunsTo Tryd.prog 73 [.code (bodyOf Tryd.f73)] (envOf [vN 3] Tryd.f73.ntmps) (Sx.look ([] ++ ([]))) 80 (vS (nameC 3)) (Sx.look ([])) 200 := by
  refine runs_last baseQ (Sx.Ends.of (rn3_p0 zz) ⟨?oo, ?rr⟩) (by kernel_rfl) rfl (gtL (by decide)) (by decide)
  case oo =>
    refine okn
    all_goals ((try simp (disch := omega) only [SS]); first | done | omega | assumption | (simp (disch := omega) only [SS] at *; first | done | omega | assumption) | (simp_all; done))
  case rr =>
    try simp (disch := omega) only [SS]
    repeat' apply And.intro
    all_goals first | exact True.intro | with_reducible rfl | omega | (intros; first | exact True.intro | with_reducible rfl | omega | (simp_all; done)) | (simp_all; done) | rfl

theorem rn5_p0 (zz : Nat) :
    isEnd (evTill Tryd.prog sumsQ 600 (99) 900 73 [.code (bodyOf Tryd.f73)] (envOf [vN 5] Tryd.f73.ntmps) ([] ++ ([])) ⟨[.f, .f, .t, .t, .t, .t, .f, .t, .t, .t, .t, .f, .t, .t, .t, .t, .f, .t, .t, .t, .t, .t, .t, .t, .t], 80⟩) (endP ([]) (vS (nameC 5)) ([]) 200) =
    (OkL [] ∧ nameC (5 : Int) = upd (upd (upd (upd (upd (upd (upd (upd (fun is => []) [(0 : Nat)] [(98 : UInt8), (105 : UInt8), (110 : UInt8), (97 : UInt8), (114 : UInt8), (121 : UInt8)]) [(1 : Nat)] [(101 : UInt8), (99 : UInt8), (104 : UInt8), (111 : UInt8)]) [(2 : Nat)] [(115 : UInt8), (103 : UInt8), (97 : UInt8)]) [(3 : Nat)] [(115 : UInt8), (116 : UInt8), (97 : UInt8), (116 : UInt8), (117 : UInt8), (115 : UInt8)]) [(4 : Nat)] [(109 : UInt8), (97 : UInt8), (114 : UInt8), (107 : UInt8)]) [(5 : Nat)] [(116 : UInt8), (116 : UInt8), (121 : UInt8), (112 : UInt8), (101 : UInt8)]) [(6 : Nat)] [(110 : UInt8), (97 : UInt8), (119 : UInt8), (115 : UInt8)]) [(7 : Nat)] [(108 : UInt8), (105 : UInt8), (110 : UInt8), (101 : UInt8), (109 : UInt8), (111 : UInt8), (100 : UInt8), (101 : UInt8)] [(3 : Nat)] ∧ True) := by kernel_rfl

set_option maxHeartbeats 4000000 in
theorem rn5 (zz : Nat)  :
    RunsTo Tryd.prog 73 [.code (bodyOf Tryd.f73)] (envOf [vN 5] Tryd.f73.ntmps) (Sx.look ([] ++ ([]))) 80 (vS (nameC 5)) (Sx.look ([])) 200 := by
  refine runs_last baseQ (Sx.Ends.of (rn5_p0 zz) ⟨?oo, ?rr⟩) (by kernel_rfl) rfl (gtL (by decide)) (by decide)
  case oo =>
    refine okn
    all_goals ((try simp (disch := omega) only [SS]); first | done | omega | assumption | (simp (disch := omega) only [SS] at *; first | done | omega | assumption) | (simp_all; done))
  case rr =>
    try simp (disch := omega) only [SS]
    repeat' apply And.intro
    all_goals first | exact True.intro | with_reducible rfl | omega | (intros; first | exact True.intro | with_reducible rfl | omega | (simp_all; done)) | (simp_all; done) | rfl

theorem rn6_p0 (zz : Nat) :
    isEnd (evTill Tryd.prog sumsQ 600 (99) 900 73 [.code (bodyOf Tryd.f73)] (envOf [vN 6] Tryd.f73.ntmps) ([] ++ ([])) ⟨[.f, .f, .t, .t, .t, .t, .f, .t, .t, .t, .t, .f, .t, .t, .t, .t, .f, .t, .t, .t, .t, .f, .t, .t, .t, .t, .t, .t, .t, .t], 80⟩) (endP ([]) (vS (nameC 6)) ([]) 200) =
    (OkL [] ∧ nameC (6 : Int) = upd (upd (upd (upd (upd (upd (upd (upd (fun is => []) [(0 : Nat)] [(98 : UInt8), (105 : UInt8), (110 : UInt8), (97 : UInt8), (114 : UInt8), (121 : UInt8)]) [(1 : Nat)] [(101 : UInt8), (99 : UInt8), (104 : UInt8), (111 : UInt8)]) [(2 : Nat)] [(115 : UInt8), (103 : UInt8), (97 : UInt8)]) [(3 : Nat)] [(115 : UInt8), (116 : UInt8), (97 : UInt8), (116 : UInt8), (117 : UInt8), (115 : UInt8)]) [(4 : Nat)] [(109 : UInt8), (97 : UInt8), (114 : UInt8), (107 : UInt8)]) [(5 : Nat)] [(116 : UInt8), (116 : UInt8), (121 : UInt8), (112 : UInt8), (101 : UInt8)]) [(6 : Nat)] [(110 : UInt8), (97 : UInt8), (119 : UInt8), (115 : UInt8)]) [(7 : Nat)] [(108 : UInt8), (105 : UInt8), (110 : UInt8), (101 : UInt8), (109 : UInt8), (111 : UInt8), (100 : UInt8), (101 : UInt8)] [(4 : Nat)] ∧ True) := by kernel_rfl

set_option maxHeartbeats 4000000 in
theorem rn6 (zz : Nat)  :
    RunsTo Tryd.prog 73 [.code (bodyOf Tryd.f73)] (envOf [vN 6] Tryd.f73.ntmps) (Sx.look ([] ++ ([]))) 80 (vS (nameC 6)) (Sx.look ([])) 200 := by
  refine runs_last baseQ (Sx.Ends.of (rn6_p0 zz) ⟨?oo, ?rr⟩) (by kernel_rfl) rfl (gtL (by decide)) (by decide)
  case oo =>
    refine okn
    all_goals ((try simp (disch := omega) only [SS]); first | done | omega | assumption | (simp (disch := omega) only [SS] at *; first | done | omega | assumption) | (simp_all; done))
  case rr =>
    try simp (disch := omega) only [SS]
    repeat' apply And.intro
    all_goals first | exact True.intro | with_reducible rfl | omega | (intros; first | exact True.intro | with_reducible rfl | omega | (simp_all; done)) | (simp_all; done) | rfl

theorem rn24_p0 (zz : Nat) :
    isEnd (evTill Tryd.prog sumsQ 600 (99) 900 73 [.code (bodyOf Tryd.f73)] (envOf [vN 24] Tryd.f73.ntmps) ([] ++ ([])) ⟨[.f, .f, .t, .t, .t, .t, .f, .t, .t, .t, .t, .f, .t, .t, .t, .t, .f, .t, .t, .t, .t, .f, .t, .t, .t, .t, .f, .t, .t, .t, .t, .t, .t, .t, .t], 80⟩) (endP ([]) (vS (nameC 24)) ([]) 200) =
    (OkL [] ∧ nameC (24 : Int) = upd (upd (upd (upd (upd (upd (upd (upd (fun is => []) [(0 : Nat)] [(98 : UInt8), (105 : UInt8), (110 : UInt8), (97 : UInt8), (114 : UInt8), (121 : UInt8)]) [(1 : Nat)] [(101 : UInt8), (99 : UInt8), (104 : UInt8), (111 : UInt8)]) [(2 : Nat)] [(115 : UInt8), (103 : UInt8), (97 : UInt8)]) [(3 : Nat)] [(115 : UInt8), (116 : UInt8), (97 : UInt8), (116 : UInt8), (117 : UInt8), (115 : UInt8)]) [(4 : Nat)] [(109 : UInt8), (97 : UInt8), (114 : UInt8), (107 : UInt8)]) [(5 : Nat)] [(116 : UInt8), (116 : UInt8), (121 : UInt8), (112 : UInt8), (101 : UInt8)]) [(6 : Nat)] [(110 : UInt8), (97 : UInt8), (119 : UInt8), (115 : UInt8)]) [(7 : Nat)] [(108 : UInt8), (105 : UInt8), (110 : UInt8), (101 : UInt8), (109 : UInt8), (111 : UInt8), (100 : UInt8), (101 : UInt8)] [(5 : Nat)] ∧ True) := by kernel_rfl

set_option maxHeartbeats 4000000 in
theorem rn24 (zz : Nat)  :
    RunsTo Tryd.prog 73 [.code (bodyOf Tryd.f73)] (envOf [vN 24] Tryd.f73.ntmps) (Sx.look ([] ++ ([]))) 80 (vS (nameC 24)) (Sx.look ([])) 200 := by
  refine runs_last baseQ (Sx.Ends.of (rn24_p0 zz) ⟨?oo, ?rr⟩) (by kernel_rfl) rfl (gtL (by decide)) (by decide)
  case oo =>
    refine okn
    all_goals ((try simp (disch := omega) only [SS]); first | done | omega | assumption | (simp (disch := omega) only [SS] at *; first | done | omega | assumption) | (simp_all; done))
  case rr =>
    try simp (disch := omega) only [SS]
    repeat' apply And.intro
    all_goals first | exact True.intro | with_reducible rfl | omega | (intros; first | exact True.intro | with_reducible rfl | omega | (simp_all; done)) | (simp_all; done) | rfl

theorem rn31_p0 (zz : Nat) :
    isEnd (evTill Tryd.prog sumsQ 600 (99) 900 73 [.code (bodyOf Tryd.f73)] (envOf [vN 31] Tryd.f73.ntmps) ([] ++ ([])) ⟨[.f, .f, .t, .t, .t, .t, .f, .t, .t, .t, .t, .f, .t, .t, .t, .t, .f, .t, .t, .t, .t, .f, .t, .t, .t, .t, .f, .t, .t, .t, .t, .f, .t, .t, .t, .t, .t, .t, .t, .t], 80⟩) (endP ([]) (vS (nameC 31)) ([]) 200) =
    (OkL [] ∧ nameC (31 : Int) = upd (upd (upd (upd (upd (upd (upd (upd (fun is => []) [(0 : Nat)] [(98 : UInt8), (105 : UInt8), (110 : UInt8), (97 : UInt8), (114 : UInt8), (121 : UInt8)]) [(1 : Nat)] [(101 : UInt8), (99 : UInt8), (104 : UInt8), (111 : UInt8)]) [(2 : Nat)] [(115 : UInt8), (103 : UInt8), (97 : UInt8)]) [(3 : Nat)] [(115 : UInt8), (116 : UInt8), (97 : UInt8), (116 : UInt8), (117 : UInt8), (115 : UInt8)]) [(4 : Nat)] [(109 : UInt8), (97 : UInt8), (114 : UInt8), (107 : UInt8)]) [(5 : Nat)] [(116 : UInt8), (116 : UInt8), (121 : UInt8), (112 : UInt8), (101 : UInt8)]) [(6 : Nat)] [(110 : UInt8), (97 : UInt8), (119 : UInt8), (115 : UInt8)]) [(7 : Nat)] [(108 : UInt8), (105 : UInt8), (110 : UInt8), (101 : UInt8), (109 : UInt8), (111 : UInt8), (100 : UInt8), (101 : UInt8)] [(6 : Nat)] ∧ True) := by kernel_rfl

set_option maxHeartbeats 4000000 in
theorem rn31 (zz : Nat)  :
    RunsTo Tryd.prog 73 [.code (bodyOf Tryd.f73)] (envOf [vN 31] Tryd.f73.ntmps) (Sx.look ([] ++ ([]))) 80 (vS (nameC 31)) (Sx.look ([])) 200 := by
  refine runs_last baseQ (Sx.Ends.of (rn31_p0 zz) ⟨?oo, ?rr⟩) (by kernel_rfl) rfl (gtL (by decide)) (by decide)
  case oo =>
    refine okn
    all_goals ((try simp (disch := omega) only [SS]); first | done | omega | assumption | (simp (disch := omega) only [SS] at *; first | done | omega | assumption) | (simp_all; done))
  case rr =>
    try simp (disch := omega) only [SS]
    repeat' apply And.intro
    all_goals first | exact True.intro | with_reducible rfl | omega | (intros; first | exact True.intro | with_reducible rfl | omega | (simp_all; done)) | (simp_all; done) | rfl

theorem rn34_p0 (zz : Nat) :
    isEnd (evTill Tryd.prog sumsQ 600 (99) 900 73 [.code (bodyOf Tryd.f73)] (envOf [vN 34] Tryd.f73.ntmps) ([] ++ ([])) ⟨[.f, .f, .t, .t, .t, .t, .f, .t, .t, .t, .t, .f, .t, .t, .t, .t, .f, .t, .t, .t, .t, .f, .t, .t, .t, .t, .f, .t, .t, .t, .t, .f, .t, .t, .t, .t, .f, .t, .t, .t, .t, .t, .t, .t, .t], 80⟩) (endP ([]) (vS (nameC 34)) ([]) 200) =
    (OkL [] ∧ nameC (34 : Int) = upd (upd (upd (upd (upd (upd (upd (upd (fun is => []) [(0 : Nat)] [(98 : UInt8), (105 : UInt8), (110 : UInt8), (97 : UInt8), (114 : UInt8), (121 : UInt8)]) [(1 : Nat)] [(101 : UInt8), (99 : UInt8), (104 : UInt8), (111 : UInt8)]) [(2 : Nat)] [(115 : UInt8), (103 : UInt8), (97 : UInt8)]) [(3 : Nat)] [(115 : UInt8), (116 : UInt8), (97 : UInt8), (116 : UInt8), (117 : UInt8), (115 : UInt8)]) [(4 : Nat)] [(109 : UInt8), (97 : UInt8), (114 : UInt8), (107 : UInt8)]) [(5 : Nat)] [(116 : UInt8), (116 : UInt8), (121 : UInt8), (112 : UInt8), (101 : UInt8)]) [(6 : Nat)] [(110 : UInt8), (97 : UInt8), (119 : UInt8), (115 : UInt8)]) [(7 : Nat)] [(108 : UInt8), (105 : UInt8), (110 : UInt8), (101 : UInt8), (109 : UInt8), (111 : UInt8), (100 : UInt8), (101 : UInt8)] [(7 : Nat)] ∧ True) := by kernel_rfl

set_option maxHeartbeats 4000000 in
theorem rn34 (zz : Nat)  :
    RunsTo Tryd.prog 73 [.code (bodyOf Tryd.f73)] (envOf [vN 34] Tryd.f73.ntmps) (Sx.look ([] ++ ([]))) 80 (vS (nameC 34)) (Sx.look ([])) 200 := by
  refine runs_last baseQ (Sx.Ends.of (rn34_p0 zz) ⟨?oo, ?rr⟩) (by kernel_rfl) rfl (gtL (by decide)) (by decide)
  case oo =>
    refine okn
    all_goals ((try simp (disch := omega) only [SS]); first | done | omega | assumption | (simp (disch := omega) only [SS] at *; first | done | omega | assumption) | (simp_all; done))
  case rr =>
    try simp (disch := omega) only [SS]
    repeat' apply And.intro
    all_goals first | exact True.intro | with_reducible rfl | omega | (intros; first | exact True.intro | with_reducible rfl | omega | (simp_all; done)) | (simp_all; done) | rfl

theorem rnOut_p0 (c : Int) :
    isEnd (evTill Tryd.prog sumsQ 600 (99) 900 73 [.code (bodyOf Tryd.f73)] (envOf [vN c] Tryd.f73.ntmps) ([] ++ ([])) ⟨[.s false, .s true], 80⟩) (endP ([]) (vS (nameC c)) ([]) 200) =
    (OkL [(decide (c < (0 : Int)), false), (decide (c > (255 : Int)), true)] ∧ nameC c = [] ∧ True) := by kernel_rfl
theorem rnOut_p1 (c : Int) :
    isEnd (evTill Tryd.prog sumsQ 600 (99) 900 73 [.code (bodyOf Tryd.f73)] (envOf [vN c] Tryd.f73.ntmps) ([] ++ ([])) ⟨[.s true], 80⟩) (endP ([]) (vS (nameC c)) ([]) 200) =
    (OkL [(decide (c < (0 : Int)), true)] ∧ nameC c = [] ∧ True) := by kernel_rfl

set_option maxHeartbeats 4000000 in
theorem rnOut (c : Int) (h : c < 0 ∨ 255 < c) :
    RunsTo Tryd.prog 73 [.code (bodyOf Tryd.f73)] (envOf [vN c] Tryd.f73.ntmps) (Sx.look ([] ++ ([]))) 80 (vS (nameC c)) (Sx.look ([])) 200 := by
  have hn : nameC c = [] := if_pos h
  refine bcase (c := (decide (c < (0 : Int)))) (fun gg0 => ?_) (fun gg0 => ?_)
  · refine runs_last baseQ (Sx.Ends.of (rnOut_p0 c) ⟨?oo, ?rr⟩) (by kernel_rfl) rfl (gtL (by decide)) (by decide)
    case oo =>
      refine (okc gg0 (okc ?_ okn))
      all_goals ((try simp (disch := omega) only [SS, hn]); first | done | omega | assumption | (simp (disch := omega) only [SS, hn] at *; first | done | omega | assumption) | (simp_all; done))
    case rr =>
      try simp (disch := omega) only [SS, hn]
      repeat' apply And.intro
      all_goals first | exact True.intro | with_reducible rfl | omega | (intros; first | exact True.intro | with_reducible rfl | omega | (simp_all; done)) | (simp_all; done) | rfl
  · refine runs_last baseQ (Sx.Ends.of (rnOut_p1 c) ⟨?oo, ?rr⟩) (by kernel_rfl) rfl (gtL (by decide)) (by decide)
    case oo =>
      refine (okc gg0 okn)
      all_goals ((try simp (disch := omega) only [SS, hn]); first | done | omega | assumption | (simp (disch := omega) only [SS, hn] at *; first | done | omega | assumption) | (simp_all; done))
    case rr =>
      try simp (disch := omega) only [SS, hn]
      repeat' apply And.intro
      all_goals first | exact True.intro | with_reducible rfl | omega | (intros; first | exact True.intro | with_reducible rfl | omega | (simp_all; done)) | (simp_all; done) | rfl

theorem rnFig_p0 (c : Int) :
    isEnd (evTill Tryd.prog sumsQ 600 (99) 900 73 [.code (bodyOf Tryd.f73)] (envOf [vN c] Tryd.f73.ntmps) ([] ++ ([])) ⟨[.s false, .s false, .t, .t, .t, .t, .s false, .t, .t, .t, .t, .s false, .t, .t, .t, .t, .s false, .t, .t, .t, .t, .s false, .t, .t, .t, .t, .s false, .t, .t, .t, .t, .s false, .t, .t, .t, .t, .s false, .t, .t, .t, .t, .s false, .f, .s true], 80⟩) (endP ([]) (vS (nameC c)) ([]) 200) =
    (OkL [(decide (c < (0 : Int)), false), (decide (c > (255 : Int)), false), (upd (upd (upd (upd (upd (upd (upd (upd (fun is => (0 : Int)) [(0 : Nat)] (0 : Int)) [(1 : Nat)] (1 : Int)) [(2 : Nat)] (3 : Int)) [(3 : Nat)] (5 : Int)) [(4 : Nat)] (6 : Int)) [(5 : Nat)] (24 : Int)) [(6 : Nat)] (31 : Int)) [(7 : Nat)] (34 : Int) [(0 : Nat)] == c, false), (upd (upd (upd (upd (upd (upd (upd (upd (fun is => (0 : Int)) [(0 : Nat)] (0 : Int)) [(1 : Nat)] (1 : Int)) [(2 : Nat)] (3 : Int)) [(3 : Nat)] (5 : Int)) [(4 : Nat)] (6 : Int)) [(5 : Nat)] (24 : Int)) [(6 : Nat)] (31 : Int)) [(7 : Nat)] (34 : Int) [(1 : Nat)] == c, false), (upd (upd (upd (upd (upd (upd (upd (upd (fun is => (0 : Int)) [(0 : Nat)] (0 : Int)) [(1 : Nat)] (1 : Int)) [(2 : Nat)] (3 : Int)) [(3 : Nat)] (5 : Int)) [(4 : Nat)] (6 : Int)) [(5 : Nat)] (24 : Int)) [(6 : Nat)] (31 : Int)) [(7 : Nat)] (34 : Int) [(2 : Nat)] == c, false), (upd (upd (upd (upd (upd (upd (upd (upd (fun is => (0 : Int)) [(0 : Nat)] (0 : Int)) [(1 : Nat)] (1 : Int)) [(2 : Nat)] (3 : Int)) [(3 : Nat)] (5 : Int)) [(4 : Nat)] (6 : Int)) [(5 : Nat)] (24 : Int)) [(6 : Nat)] (31 : Int)) [(7 : Nat)] (34 : Int) [(3 : Nat)] == c, false), (upd (upd (upd (upd (upd (upd (upd (upd (fun is => (0 : Int)) [(0 : Nat)] (0 : Int)) [(1 : Nat)] (1 : Int)) [(2 : Nat)] (3 : Int)) [(3 : Nat)] (5 : Int)) [(4 : Nat)] (6 : Int)) [(5 : Nat)] (24 : Int)) [(6 : Nat)] (31 : Int)) [(7 : Nat)] (34 : Int) [(4 : Nat)] == c, false), (upd (upd (upd (upd (upd (upd (upd (upd (fun is => (0 : Int)) [(0 : Nat)] (0 : Int)) [(1 : Nat)] (1 : Int)) [(2 : Nat)] (3 : Int)) [(3 : Nat)] (5 : Int)) [(4 : Nat)] (6 : Int)) [(5 : Nat)] (24 : Int)) [(6 : Nat)] (31 : Int)) [(7 : Nat)] (34 : Int) [(5 : Nat)] == c, false), (upd (upd (upd (upd (upd (upd (upd (upd (fun is => (0 : Int)) [(0 : Nat)] (0 : Int)) [(1 : Nat)] (1 : Int)) [(2 : Nat)] (3 : Int)) [(3 : Nat)] (5 : Int)) [(4 : Nat)] (6 : Int)) [(5 : Nat)] (24 : Int)) [(6 : Nat)] (31 : Int)) [(7 : Nat)] (34 : Int) [(6 : Nat)] == c, false), (upd (upd (upd (upd (upd (upd (upd (upd (fun is => (0 : Int)) [(0 : Nat)] (0 : Int)) [(1 : Nat)] (1 : Int)) [(2 : Nat)] (3 : Int)) [(3 : Nat)] (5 : Int)) [(4 : Nat)] (6 : Int)) [(5 : Nat)] (24 : Int)) [(6 : Nat)] (31 : Int)) [(7 : Nat)] (34 : Int) [(7 : Nat)] == c, false), (decide ((0 : Int) ≤ c ∧ c < (256 : Int)), true)] ∧ nameC c = dec c.toNat ∧ True) := by kernel_rfl

set_option maxHeartbeats 4000000 in
theorem rnFig (c : Int) (h : 0 ≤ c ∧ c < 256) (hh : c ≠ 0 ∧ c ≠ 1 ∧ c ≠ 3 ∧ c ≠ 5 ∧ c ≠ 6 ∧ c ≠ 24 ∧ c ≠ 31 ∧ c ≠ 34) :
    RunsTo Tryd.prog 73 [.code (bodyOf Tryd.f73)] (envOf [vN c] Tryd.f73.ntmps) (Sx.look ([] ++ ([]))) 80 (vS (nameC c)) (Sx.look ([])) 200 := by
  have hn : nameC c = dec c.toNat := by
    obtain ⟨q0, q1, q2, q3, q4, q5, q6, q7⟩ := hh
    unfold nameC
    rw [if_neg (by omega), if_pos (by unfold wdC; rw [if_neg q0, if_neg q1, if_neg q2, if_neg q3, if_neg q4, if_neg q5, if_neg q6, if_neg q7])]
  refine runs_last baseQ (Sx.Ends.of (rnFig_p0 c) ⟨?oo, ?rr⟩) (by kernel_rfl) rfl (gtL (by decide)) (by decide)
  case oo =>
    refine (okc ?_ (okc ?_ (okc ?_ (okc ?_ (okc ?_ (okc ?_ (okc ?_ (okc ?_ (okc ?_ (okc ?_ (okc ?_ okn)))))))))))
    all_goals first | omega | (simp (disch := omega) only [SS]; done) | (simp (disch := omega) only [SS]; omega) | (refine beq_eq_false_iff_ne.2 ?_; intro e; first | (have e2 : (0 : Int) = c := e; omega) | (have e2 : (1 : Int) = c := e; omega) | (have e2 : (3 : Int) = c := e; omega) | (have e2 : (5 : Int) = c := e; omega) | (have e2 : (6 : Int) = c := e; omega) | (have e2 : (24 : Int) = c := e; omega) | (have e2 : (31 : Int) = c := e; omega) | (have e2 : (34 : Int) = c := e; omega))
  case rr =>
    try simp (disch := omega) only [SS, hn]
    repeat' apply And.intro
    all_goals first | exact True.intro | with_reducible rfl | omega | (intros; first | exact True.intro | with_reducible rfl | omega | (simp_all; done)) | (simp_all; done) | rfl

theorem rnI (c : Int) : RunsTo Tryd.prog 73 [.code (bodyOf Tryd.f73)] (envOf [vN c] Tryd.f73.ntmps) (Sx.look ([] ++ ([]))) 80 (vS (nameC c)) (Sx.look []) 200 := by
  by_cases h : c < 0 ∨ 255 < c
  · exact rnOut c h
  · by_cases hh : c ≠ 0 ∧ c ≠ 1 ∧ c ≠ 3 ∧ c ≠ 5 ∧ c ≠ 6 ∧ c ≠ 24 ∧ c ≠ 31 ∧ c ≠ 34
    · exact rnFig c (by omega) hh
    · have hc : c = 0 ∨ c = 1 ∨ c = 3 ∨ c = 5 ∨ c = 6 ∨ c = 24 ∨ c = 31 ∨ c = 34 := by omega
      rcases hc with rfl | rfl | rfl | rfl | rfl | rfl | rfl | rfl
      · exact rn0 0
      · exact rn1 0
      · exact rn3 0
      · exact rn5 0
      · exact rn6 0
      · exact rn24 0
      · exact rn31 0
      · exact rn34 0
def rnP : PC := { args := [.v (.vi .i64 0)], heap := [], gs := [], G := 25, tp := 223, n := 80, n' := 200, cond := fun e => true, v := fun e => vS (nameC (eI e 0 [])), post := fun e => [] }
theorem rnP_pc : PC.Runs Tryd.prog 73 Tryd.f73 (bodyOf Tryd.f73) rnP := ⟨Tryd.func73, by kernel_rfl, (fun g hg => by first | cases hg | (revert g; decide)), fun e H hc => by
  have hc : (true) = true := hc
  try simp only [Bool.and_eq_true, decide_eq_true_eq, Nat.beq_eq] at hc
  exact rnI (eI e 0 [])⟩
def sumsS : List (FuncId × Summ) := [(98, fgP.summ 50), (73, rnP.summ 50)]
theorem baseS : Base0 Tryd.prog sumsS := ((baseO.cons Tryd.func73 (by kernel_rfl) (PC.summ_ok rnP_pc gtopG)).cons Tryd.func98 (by kernel_rfl) (PC.summ_ok fgP_pc gtopG))
theorem roStart_p0 (s : List UInt8) :
    isMore (evTill Tryd.prog sumsS 300 (behind Tryd.f71 0) 900 71 [.code (bodyOf Tryd.f71)] (envOf [vS s] Tryd.f71.ntmps) ([] ++ ([])) ⟨[], 80⟩) (moreP (headOf Tryd.f71 0) ([]) Tryd.f71.ntmps ([(0, vS s), (3, vN 0)]) ([]) 300) =
    (OkL [] ∧ headOf Tryd.f71 (0 : Nat) = headOf Tryd.f71 (0 : Nat) ∧ (s = s ∧ (0 : Int) = (0 : Int)) ∧ True) := by kernel_rfl

set_option maxHeartbeats 4000000 in
theorem roStart (s : List UInt8)  (v : SV) (L' : HF) (next : RunsTo Tryd.prog 71 (headOf Tryd.f71 0) (envAt Tryd.f71.ntmps ([(0, vS s), (3, vN 0)])) (Sx.look ([] ++ ([]))) 80 (v) (L') 300) :
    RunsTo Tryd.prog 71 [.code (bodyOf Tryd.f71)] (envOf [vS s] Tryd.f71.ntmps) (Sx.look ([] ++ ([]))) 80 (v) (L') 300 := by
  refine runs_more baseS (More.of (roStart_p0 s) ⟨?oo, rfl, ?rr⟩) (by kernel_rfl) (by kernel_rfl) rfl (gtL (by decide)) (by decide) next
  case oo =>
    clear next
    refine okn
    all_goals ((try simp (disch := omega) only [SS]); first | done | omega | assumption | (simp (disch := omega) only [SS] at *; first | done | omega | assumption) | (simp_all; done))
  case rr =>
    clear next
    try simp (disch := omega) only [SS]
    repeat' apply And.intro
    all_goals first | exact True.intro | with_reducible rfl | omega | (intros; first | exact True.intro | with_reducible rfl | omega | (simp_all; done)) | (simp_all; done) | rfl

theorem roNo_p0 (s : List UInt8) (i : Nat) :
    isMore (evTill Tryd.prog sumsS 300 (behind Tryd.f71 0) 900 71 (headOf Tryd.f71 0) (envAt Tryd.f71.ntmps ([(0, vS s), (3, vN i)])) ([] ++ ([])) ⟨[.s true, .t, .s false, .s true, .s false], 110⟩) (moreP (headOf Tryd.f71 0) ([]) Tryd.f71.ntmps ([(0, vS s), (3, vN (i + 1))]) ([]) 300) =
    (OkL [(decide ((↑i : Int) < (256 : Int)), true), (nameC (↑i : Int) == s, false), (decide ((0 : Int) ≤ (↑i : Int) ∧ (↑i : Int) < (256 : Int)), true), (dec (↑i : Int).toNat == s, false)] ∧ headOf Tryd.f71 (0 : Nat) = headOf Tryd.f71 (0 : Nat) ∧ (s = s ∧ (↑i : Int) + (1 : Int) = IntKind.i64.wrap ((↑i : Int) + (1 : Int))) ∧ True) := by kernel_rfl

set_option maxHeartbeats 4000000 in
theorem roNo (s : List UInt8) (i : Nat) (hi : i < 256) (h1 : nameC (i : Int) ≠ s) (h2 : dec i ≠ s) (v : SV) (L' : HF) (next : RunsTo Tryd.prog 71 (headOf Tryd.f71 0) (envAt Tryd.f71.ntmps ([(0, vS s), (3, vN (i + 1))])) (Sx.look ([] ++ ([]))) 80 (v) (L') 300) :
    RunsTo Tryd.prog 71 (headOf Tryd.f71 0) (envAt Tryd.f71.ntmps ([(0, vS s), (3, vN i)])) (Sx.look ([] ++ ([]))) 80 (v) (L') 300 := by
  have hw : IntKind.i64.wrap ((i : Int) + 1) = ((i + 1 : Nat) : Int) := by rw [wr64 (by omega)]; rfl
  refine runs_more baseS (More.of (roNo_p0 s i) ⟨?oo, rfl, ?rr⟩) (by kernel_rfl) (by kernel_rfl) rfl (gtL (by decide)) (by decide) next
  case oo =>
    clear next
    refine (okc ?_ (okc ?_ (okc ?_ (okc ?_ okn))))
    all_goals ((try simp (disch := omega) only [SS, hw, h1, h2, Int.toNat_natCast]); first | done | omega | assumption | (simp (disch := omega) only [SS, hw, h1, h2, Int.toNat_natCast] at *; first | done | omega | assumption) | (simp_all; done))
  case rr =>
    clear next
    try simp (disch := omega) only [SS, hw, h1, h2, Int.toNat_natCast]
    repeat' apply And.intro
    all_goals first | exact True.intro | with_reducible rfl | omega | (intros; first | exact True.intro | with_reducible rfl | omega | (simp_all; done)) | (simp_all; done) | rfl

theorem roHit1_p0 (s : List UInt8) (i : Nat) :
    isEnd (evTill Tryd.prog sumsS 300 (99) 900 71 (headOf Tryd.f71 0) (envAt Tryd.f71.ntmps ([(0, vS s), (3, vN i)])) ([] ++ ([])) ⟨[.s true, .t, .s true], 110⟩) (endP ([]) (vN i) ([]) 300) =
    (OkL [(decide ((↑i : Int) < (256 : Int)), true), (nameC (↑i : Int) == s, true)] ∧ (↑i : Int) = (↑i : Int) ∧ True) := by kernel_rfl

set_option maxHeartbeats 4000000 in
theorem roHit1 (s : List UInt8) (i : Nat) (hi : i < 256) (h1 : nameC (i : Int) = s) :
    RunsTo Tryd.prog 71 (headOf Tryd.f71 0) (envAt Tryd.f71.ntmps ([(0, vS s), (3, vN i)])) (Sx.look ([] ++ ([]))) 80 (vN i) (Sx.look ([])) 300 := by
  have hw : IntKind.i64.wrap ((i : Int) + 1) = ((i + 1 : Nat) : Int) := by rw [wr64 (by omega)]; rfl
  refine runs_last baseS (Sx.Ends.of (roHit1_p0 s i) ⟨?oo, ?rr⟩) (by kernel_rfl) rfl (gtL (by decide)) (by decide)
  case oo =>
    refine (okc ?_ (okc ?_ okn))
    all_goals ((try simp (disch := omega) only [SS, hw, h1]); first | done | omega | assumption | (simp (disch := omega) only [SS, hw, h1] at *; first | done | omega | assumption) | (simp_all; done))
  case rr =>
    try simp (disch := omega) only [SS, hw, h1]
    repeat' apply And.intro
    all_goals first | exact True.intro | with_reducible rfl | omega | (intros; first | exact True.intro | with_reducible rfl | omega | (simp_all; done)) | (simp_all; done) | rfl

theorem roHit2_p0 (s : List UInt8) (i : Nat) :
    isEnd (evTill Tryd.prog sumsS 300 (99) 900 71 (headOf Tryd.f71 0) (envAt Tryd.f71.ntmps ([(0, vS s), (3, vN i)])) ([] ++ ([])) ⟨[.s true, .t, .s false, .s true, .s true], 110⟩) (endP ([]) (vN i) ([]) 300) =
    (OkL [(decide ((↑i : Int) < (256 : Int)), true), (nameC (↑i : Int) == s, false), (decide ((0 : Int) ≤ (↑i : Int) ∧ (↑i : Int) < (256 : Int)), true), (dec (↑i : Int).toNat == s, true)] ∧ (↑i : Int) = (↑i : Int) ∧ True) := by kernel_rfl

set_option maxHeartbeats 4000000 in
theorem roHit2 (s : List UInt8) (i : Nat) (hi : i < 256) (h1 : nameC (i : Int) ≠ s) (h2 : dec i = s) :
    RunsTo Tryd.prog 71 (headOf Tryd.f71 0) (envAt Tryd.f71.ntmps ([(0, vS s), (3, vN i)])) (Sx.look ([] ++ ([]))) 80 (vN i) (Sx.look ([])) 300 := by
  have hw : IntKind.i64.wrap ((i : Int) + 1) = ((i + 1 : Nat) : Int) := by rw [wr64 (by omega)]; rfl
  refine runs_last baseS (Sx.Ends.of (roHit2_p0 s i) ⟨?oo, ?rr⟩) (by kernel_rfl) rfl (gtL (by decide)) (by decide)
  case oo =>
    refine (okc ?_ (okc ?_ (okc ?_ (okc ?_ okn))))
    all_goals ((try simp (disch := omega) only [SS, hw, h1, h2, Int.toNat_natCast]); first | done | omega | assumption | (simp (disch := omega) only [SS, hw, h1, h2, Int.toNat_natCast] at *; first | done | omega | assumption) | (simp_all; done))
  case rr =>
    try simp (disch := omega) only [SS, hw, h1, h2, Int.toNat_natCast]
    repeat' apply And.intro
    all_goals first | exact True.intro | with_reducible rfl | omega | (intros; first | exact True.intro | with_reducible rfl | omega | (simp_all; done)) | (simp_all; done) | rfl

theorem roMiss_p0 (s : List UInt8) :
    isEnd (evTill Tryd.prog sumsS 300 (99) 900 71 (headOf Tryd.f71 0) (envAt Tryd.f71.ntmps ([(0, vS s), (3, vN 256)])) ([] ++ ([])) ⟨[.f], 110⟩) (endP ([]) (vN (-1)) ([]) 300) =
    (OkL [] ∧ (-1 : Int) = (-1 : Int) ∧ True) := by kernel_rfl

set_option maxHeartbeats 4000000 in
theorem roMiss (s : List UInt8)  :
    RunsTo Tryd.prog 71 (headOf Tryd.f71 0) (envAt Tryd.f71.ntmps ([(0, vS s), (3, vN 256)])) (Sx.look ([] ++ ([]))) 80 (vN (-1)) (Sx.look ([])) 300 := by
  refine runs_last baseS (Sx.Ends.of (roMiss_p0 s) ⟨?oo, ?rr⟩) (by kernel_rfl) rfl (gtL (by decide)) (by decide)
  case oo =>
    refine okn
    all_goals ((try simp (disch := omega) only [SS]); first | done | omega | assumption | (simp (disch := omega) only [SS] at *; first | done | omega | assumption) | (simp_all; done))
  case rr =>
    try simp (disch := omega) only [SS]
    repeat' apply And.intro
    all_goals first | exact True.intro | with_reducible rfl | omega | (intros; first | exact True.intro | with_reducible rfl | omega | (simp_all; done)) | (simp_all; done) | rfl

theorem roI (s : List UInt8) : RunsTo Tryd.prog 71 [.code (bodyOf Tryd.f71)] (envOf [vS s] Tryd.f71.ntmps) (Sx.look ([] ++ ([]))) 80 (vN (rSr s 256 0)) (Sx.look []) 300 := by
  refine roStart s _ _ ?_
  suffices h : ∀ (k i : Nat), i + k = 256 → RunsTo Tryd.prog 71 (headOf Tryd.f71 0) (envAt Tryd.f71.ntmps ([(0, vS s), (3, vN i)])) (Sx.look ([] ++ ([]))) 80 (vN (rSr s k i)) (Sx.look []) 300 from h 256 0 (by omega)
  intro k
  induction k with
  | zero => intro i hi; obtain rfl : i = 256 := by omega
            exact roMiss s
  | succ k ih =>
    intro i hi
    have h3 := ih (i + 1) (by omega)
    by_cases h1 : nameC (i : Int) = s
    · have e : rSr s (k + 1) i = i := by simp only [rSr]; rw [if_pos (.inl h1)]
      rw [e]; exact roHit1 s i (by omega) h1
    · by_cases h2 : dec i = s
      · have e : rSr s (k + 1) i = i := by simp only [rSr]; rw [if_pos (.inr h2)]
        rw [e]; exact roHit2 s i (by omega) h1 h2
      · have e : rSr s (k + 1) i = rSr s k (i + 1) := by simp only [rSr]; rw [if_neg (fun x => x.elim h1 h2)]
        rw [e]; exact roNo s i (by omega) h1 h2 _ _ h3
def roP : PC := { args := [.v (.vs 0)], heap := [], gs := [], G := 25, tp := 223, n := 80, n' := 300, cond := fun e => true, v := fun e => vN (rSr (eS e 0 []) 256 0), post := fun e => [] }
theorem roP_pc : PC.Runs Tryd.prog 71 Tryd.f71 (bodyOf Tryd.f71) roP := ⟨Tryd.func71, by kernel_rfl, (fun g hg => by first | cases hg | (revert g; decide)), fun e H hc => by
  have hc : (true) = true := hc
  try simp only [Bool.and_eq_true, decide_eq_true_eq, Nat.beq_eq] at hc
  exact roI (eS e 0 [])⟩
end Go.Proofs.YtealbjkhjpmilaaDoor
