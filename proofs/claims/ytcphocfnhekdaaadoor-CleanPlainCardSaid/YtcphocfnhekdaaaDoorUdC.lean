/- Telling: the document's bytes. -/
import Derived.Test.YtcphocfnhekdaaaDoorUhC
set_option linter.unusedSimpArgs false
set_option linter.unusedVariables false
set_option maxRecDepth 100000
namespace Go.Proofs.YtcphocfnhekdaaaDoor
open Go.Sx

open GramR
def inG (B : Ix → Int) (N i : Nat) : Ix → Int := fun is => if is.headD 0 < N then B [is.headD 0] else if is.headD 0 < N + i then 90 else 0
def tkrS (k c o : Int) (b : List UInt8) (cut : Bool) : List UInt8 := theB (tkR k c o b cut)
def erN : List UInt8 ⊕ Nat → Int | .inl _ => 0 | .inr 1 => 9 | .inr 2 => 1 | .inr _ => 4
def tkrN (k c o : Int) (b : List UInt8) (cut : Bool) : Int := erN (tkR k c o b cut)
theorem all_ok {N : Nat} {p : Nat → Bool} (h : (List.range N).all p = true) {i : Nat} (hi : i < N) : p i = true := List.all_eq_true.1 h i (List.mem_range.2 hi)
theorem inG_at (B : Ix → Int) (N i k : Nat) : inG B N i [k] = if k < N then B [k] else if k < N + i then 90 else 0 := rfl
theorem inG_0 (B : Ix → Int) (N k : Nat) : inG B N 0 [k] = cpyF N 0 (fun is => 0) (fun js => B (subIx 0 js)) [k] := by
  rw [inG_at]
  simp only [cpyF, subIx, Nat.zero_add, Nat.sub_zero, Nat.add_zero, Nat.zero_le, true_and]
  by_cases h : k < N
  · rw [if_pos h, if_pos h]
  · rw [if_neg h, if_neg h, if_neg h]
theorem inG_step (B : Ix → Int) (N i : Nat) (k : Nat) : inG B N (i + 1) [k] = upd (inG B N i) [N + i] 90 [k] := by
  simp only [upd, List.cons.injEq, and_true]
  rw [inG_at, inG_at]
  by_cases h : k < N
  · rw [if_pos h, if_neg (show ¬ k = N + i by omega), if_pos h]
  · rw [if_neg h]
    by_cases h2 : k = N + i
    · subst h2; rw [if_pos (show N + i < N + (i + 1) by omega), if_pos rfl]
    · rw [if_neg h2, if_neg h]
      by_cases h3 : k < N + i
      · rw [if_pos h3, if_pos (show k < N + (i + 1) by omega)]
      · rw [if_neg h3, if_neg (show ¬ k < N + (i + 1) by omega)]
theorem slice1' (s : List UInt8) {i : Nat} (h : i < s.length) : (s.take (i + 1)).drop i = [s.getD i 0] := by
  rw [List.drop_take, show i + 1 - i = 1 by omega, List.getD_eq_getElem?_getD, List.getElem?_eq_getElem h, Option.getD_some]
  rw [List.drop_eq_getElem_cons h]; rfl
theorem dbl_take (s : List UInt8) {i : Nat} (h : i < s.length) : dbl (s.take (i + 1)) = dbl (s.take i) ++ (if s.getD i 0 = 255 then [255, 255] else [s.getD i 0]) := by
  rw [List.take_add_one, dbl_app, List.getElem?_eq_getElem h, List.getD_eq_getElem?_getD, List.getElem?_eq_getElem h, Option.getD_some]
  simp only [Option.toList, dbl]
theorem byStart_p0 (N : Nat) (B : Ix → Int) :
    isMore (evTill Tryd.prog [] 300 (behind Tryd.f14 0) 900 14 [.code (bodyOf Tryd.f14)] (envOf [vL 60 1 N] Tryd.f14.ntmps) (rB 60 N B ++ ([])) ⟨[.s true, .s true, .s true, .s true, .s true, .s true, .s true, .s true], 80⟩) (moreP (headOf Tryd.f14 0) ([((101 : Nat), Rn.to (80 : Nat))]) Tryd.f14.ntmps ([(0, vL 60 1 N), (3, vL 101 1 N), (21, vN 5), (22, vN (0 : Nat))]) ([⟨101, true, none, 1, .ta (N + 5) (.vi .u8 (inG B N (0)))⟩]) 160) =
    (OkL [(decide ((0 : Int) ≤ (↑N : Int) ∧ (↑N : Int) ≤ IntKind.i64.wrap ((↑N : Int) + (5 : Int))), true), (decide ((↑(1 : Nat) : Int) * IntKind.i64.wrap ((↑N : Int) + (5 : Int)) ≤ (281474976710656 : Int)), true), (((0 : Nat) + N).ble N, true), (N.ble (↑N : Int).toNat, true), (((0 : Nat) + (↑N : Int).toNat).ble (IntKind.i64.wrap ((↑N : Int) + (5 : Int))).toNat, true), (((0 : Nat) + (↑N : Int).toNat).ble (IntKind.i64.wrap ((↑N : Int) + (5 : Int))).toNat, true), (decide ((0 : Int) ≤ IntKind.i64.wrap ((↑N : Int) + (5 : Int)) ∧ IntKind.i64.wrap ((↑N : Int) + (5 : Int)) + (↑(0 : Nat) : Int) ≤ (↑(IntKind.i64.wrap ((↑N : Int) + (5 : Int))).toNat : Int)), true), (decide ((0 : Int) ≤ (↑N : Int) ∧ (↑N : Int) ≤ IntKind.i64.wrap ((↑N : Int) + (5 : Int))), true)] ∧ headOf Tryd.f14 (0 : Nat) = headOf Tryd.f14 (0 : Nat) ∧ (((0 : Nat) = (0 : Nat) ∧ N = N) ∧ ((0 : Nat) = (0 : Nat) ∧ N = (↑N : Int).toNat) ∧ (5 : Int) = (↑((IntKind.i64.wrap ((↑N : Int) + (5 : Int))).toNat - (↑N : Int).toNat) : Int) ∧ (↑(0 : Nat) : Int) = (0 : Int)) ∧ N + (5 : Nat) = (IntKind.i64.wrap ((↑N : Int) + (5 : Int))).toNat ∧ ∀ (i : Nat), i < N + (5 : Nat) → inG B N (0 : Nat) [i] = cpyF N (0 : Nat) (fun is => (0 : Int)) (fun js => B (subIx (0 : Nat) js)) [i]) := by kernel_rfl

set_option maxHeartbeats 4000000 in
theorem byStart (N : Nat) (B : Ix → Int) (hN : N ≤ 1000)  (v : SV) (L' : HF) (next : RunsTo Tryd.prog 14 (headOf Tryd.f14 0) (envAt Tryd.f14.ntmps ([(0, vL 60 1 N), (3, vL 101 1 N), (21, vN 5), (22, vN (0 : Nat))])) (Sx.look (rB 60 N B ++ ([⟨101, true, none, 1, .ta (N + 5) (.vi .u8 (inG B N (0)))⟩]))) 80 (v) (L') 160) :
    RunsTo Tryd.prog 14 [.code (bodyOf Tryd.f14)] (envOf [vL 60 1 N] Tryd.f14.ntmps) (Sx.look (rB 60 N B ++ ([]))) 80 (v) (L') 160 := by
  have hw5 : IntKind.i64.wrap ((N : Int) + 5) = ((N + 5 : Nat) : Int) := by rw [wr64 (by omega)]; rfl
  refine runs_more baseO (More.of (byStart_p0 N B) ⟨?oo, rfl, ?rr⟩) (by kernel_rfl) (by kernel_rfl) rfl (gtL (by decide)) (by decide) next
  case oo =>
    clear next
    refine (okc ?_ (okc ?_ (okc ?_ (okc ?_ (okc ?_ (okc ?_ (okc ?_ (okc ?_ okn))))))))
    all_goals ((try simp (disch := omega) only [SS, hw5, Int.toNat_natCast, Go.Sx.sum]); first | done | omega | assumption | (simp (disch := omega) only [SS, hw5, Int.toNat_natCast, Go.Sx.sum] at *; first | done | omega | assumption) | (simp_all; done))
  case rr =>
    clear next
    try simp (disch := omega) only [SS, hw5, Int.toNat_natCast, Go.Sx.sum]
    repeat' apply And.intro
    all_goals first | exact True.intro | with_reducible rfl | omega | (intro k hk; exact inG_0 B N k) | (intro k hk; simp [inG, cpyF]; done) | (intro k hk; simp [inG, cpyF]; split <;> simp_all; done) | (simp_all; done)

theorem byR_p0 (N : Nat) (B : Ix → Int) (i : Nat) :
    isMore (evTill Tryd.prog [] 300 (behind Tryd.f14 0) 900 14 (headOf Tryd.f14 0) (envAt Tryd.f14.ntmps ([(0, vL 60 1 N), (3, vL 101 1 N), (21, vN 5), (22, vN (i : Nat))])) (rB 60 N B ++ ([⟨101, true, none, 1, .ta (N + 5) (.vi .u8 (inG B N (i)))⟩])) ⟨[.s true, .s true, .s true, .s true, .s true, .s true], 120⟩) (moreP (headOf Tryd.f14 0) ([]) Tryd.f14.ntmps ([(0, vL 60 1 N), (3, vL 101 1 N), (21, vN 5), (22, vN (i + 1 : Nat))]) ([⟨101, true, none, 1, .ta (N + 5) (.vi .u8 (inG B N (i + 1)))⟩]) 160) =
    (OkL [(decide ((↑i : Int) < (5 : Int)), true), (((0 : Nat) + N).ble (N + (5 : Nat)), true), (decide ((0 : Int) ≤ IntKind.i64.wrap ((↑N : Int) + (5 : Int)) ∧ IntKind.i64.wrap ((↑N : Int) + (5 : Int)) + (↑(0 : Nat) : Int) ≤ (↑(N + (5 : Nat)) : Int)), true), (decide ((0 : Int) ≤ IntKind.i64.wrap ((↑N : Int) + (↑i : Int)) ∧ IntKind.i64.wrap ((↑N : Int) + (↑i : Int)) < (↑(IntKind.i64.wrap ((↑N : Int) + (5 : Int))).toNat : Int)), true), (((0 : Nat) + (IntKind.i64.wrap ((↑N : Int) + (↑i : Int))).toNat).blt (N + (5 : Nat)), true), (((0 : Nat) + (IntKind.i64.wrap ((↑N : Int) + (↑i : Int))).toNat).blt (N + (5 : Nat)), true)] ∧ headOf Tryd.f14 (0 : Nat) = headOf Tryd.f14 (0 : Nat) ∧ (((0 : Nat) = (0 : Nat) ∧ N = N) ∧ ((0 : Nat) = (0 : Nat) ∧ N = N) ∧ (5 : Int) = (5 : Int) ∧ (↑(i + (1 : Nat)) : Int) = IntKind.i64.wrap ((↑i : Int) + (1 : Int))) ∧ N + (5 : Nat) = N + (5 : Nat) ∧ ∀ (i_1 : Nat), i_1 < N + (5 : Nat) → inG B N (i + (1 : Nat)) [i_1] = upd (inG B N i) [(0 : Nat) + (IntKind.i64.wrap ((↑N : Int) + (↑i : Int))).toNat] (90 : Int) [i_1]) := by kernel_rfl

set_option maxHeartbeats 4000000 in
theorem byR (N : Nat) (B : Ix → Int) (i : Nat) (hi : i < 5) (hN : N ≤ 1000)  (v : SV) (L' : HF) (next : RunsTo Tryd.prog 14 (headOf Tryd.f14 0) (envAt Tryd.f14.ntmps ([(0, vL 60 1 N), (3, vL 101 1 N), (21, vN 5), (22, vN (i + 1 : Nat))])) (Sx.look (rB 60 N B ++ ([⟨101, true, none, 1, .ta (N + 5) (.vi .u8 (inG B N (i + 1)))⟩]))) 80 (v) (L') 160) :
    RunsTo Tryd.prog 14 (headOf Tryd.f14 0) (envAt Tryd.f14.ntmps ([(0, vL 60 1 N), (3, vL 101 1 N), (21, vN 5), (22, vN (i : Nat))])) (Sx.look (rB 60 N B ++ ([⟨101, true, none, 1, .ta (N + 5) (.vi .u8 (inG B N (i)))⟩]))) 80 (v) (L') 160 := by
  have hw : IntKind.i64.wrap ((i : Int) + 1) = ((i + 1 : Nat) : Int) := by rw [wr64 (by omega)]; rfl
  have hw5 : IntKind.i64.wrap ((N : Int) + 5) = ((N + 5 : Nat) : Int) := by rw [wr64 (by omega)]; rfl
  have hwi : IntKind.i64.wrap ((N : Int) + (i : Int)) = ((N + i : Nat) : Int) := by rw [wr64 (by omega)]; rfl
  refine runs_more baseO (More.of (byR_p0 N B i) ⟨?oo, rfl, ?rr⟩) (by kernel_rfl) (by kernel_rfl) rfl (gtL (by decide)) (by decide) next
  case oo =>
    clear next
    refine (okc ?_ (okc ?_ (okc ?_ (okc ?_ (okc ?_ (okc ?_ okn))))))
    all_goals ((try simp (disch := omega) only [SS, hw, hw5, hwi, Int.toNat_natCast, Go.Sx.sum, Nat.zero_add]); first | done | omega | assumption | (simp (disch := omega) only [SS, hw, hw5, hwi, Int.toNat_natCast, Go.Sx.sum, Nat.zero_add] at *; first | done | omega | assumption) | (simp_all; done))
  case rr =>
    clear next
    try simp (disch := omega) only [SS, hw, hw5, hwi, Int.toNat_natCast, Go.Sx.sum, Nat.zero_add]
    repeat' apply And.intro
    all_goals first | exact True.intro | with_reducible rfl | omega | (intro k hk; exact inG_step B N i k) | (simp_all; done)

theorem byEnd_p0 (N : Nat) (B : Ix → Int) (i : Nat) :
    isEnd (evTill Tryd.prog [] 300 (99) 900 14 (headOf Tryd.f14 0) (envAt Tryd.f14.ntmps ([(0, vL 60 1 N), (3, vL 101 1 N), (21, vN 5), (22, vN (i : Nat))])) (rB 60 N B ++ ([⟨101, true, none, 1, .ta (N + 5) (.vi .u8 (inG B N (i)))⟩])) ⟨[.s false], 120⟩) (endP ([]) (vL 101 1 N) ([⟨101, true, none, 1, .ta (N + 5) (.vi .u8 (inG B N 5))⟩]) 160) =
    (OkL [(decide ((↑i : Int) < (5 : Int)), false)] ∧ ((0 : Nat) = (0 : Nat) ∧ N = N) ∧ N + (5 : Nat) = N + (5 : Nat) ∧ ∀ (i_1 : Nat), i_1 < N + (5 : Nat) → inG B N (5 : Nat) [i_1] = inG B N i [i_1]) := by kernel_rfl

set_option maxHeartbeats 4000000 in
theorem byEnd (N : Nat) (B : Ix → Int) (i : Nat) (hi : i = 5)  :
    RunsTo Tryd.prog 14 (headOf Tryd.f14 0) (envAt Tryd.f14.ntmps ([(0, vL 60 1 N), (3, vL 101 1 N), (21, vN 5), (22, vN (i : Nat))])) (Sx.look (rB 60 N B ++ ([⟨101, true, none, 1, .ta (N + 5) (.vi .u8 (inG B N (i)))⟩]))) 80 (vL 101 1 N) (Sx.look ([⟨101, true, none, 1, .ta (N + 5) (.vi .u8 (inG B N 5))⟩])) 160 := by
  refine runs_last baseO (Sx.Ends.of (byEnd_p0 N B i) ⟨?oo, ?rr⟩) (by kernel_rfl) rfl (gtL (by decide)) (by decide)
  case oo =>
    refine (okc ?_ okn)
    all_goals ((try simp (disch := omega) only [SS, hi]); first | done | omega | assumption | (simp (disch := omega) only [SS, hi] at *; first | done | omega | assumption) | (simp_all; done))
  case rr =>
    try simp (disch := omega) only [SS, hi]
    repeat' apply And.intro
    all_goals first | exact True.intro | with_reducible rfl | omega | (intros; first | exact True.intro | with_reducible rfl | omega | (simp_all; done)) | (simp_all; done) | rfl

theorem byI (N : Nat) (B : Ix → Int) (hN : N ≤ 1000) : RunsTo Tryd.prog 14 [.code (bodyOf Tryd.f14)] (envOf [vL 60 1 N] Tryd.f14.ntmps) (Sx.look (rB 60 N B ++ ([]))) 80 (vL 101 1 N) (Sx.look [⟨101, true, none, 1, .ta (N + 5) (.vi .u8 (inG B N 5))⟩]) 160 :=
  byStart N B hN _ _ (byR N B 0 (by omega) hN _ _ (byR N B 1 (by omega) hN _ _ (byR N B 2 (by omega) hN _ _ (byR N B 3 (by omega) hN _ _ (byR N B 4 (by omega) hN _ _ (byEnd N B 5 rfl))))))
def byP : PC := { args := [.v (.vl 60 1 0)], heap := [⟨60, false, 1, .ta 0 (.vi .u8 1)⟩], gs := [], G := 19, tp := 144, n := 80, n' := 160, cond := fun e => decide (eN e 0 ≤ 1000), v := fun e => vL 101 1 (eN e 0), post := fun e => [⟨101, true, none, 1, .ta (eN e 0 + 5) (.vi .u8 (inG (eI e 1) (eN e 0) 5))⟩] }
theorem byP_pc : PC.Runs Tryd.prog 14 Tryd.f14 (bodyOf Tryd.f14) byP := ⟨Tryd.func14, by kernel_rfl, (fun g hg => by first | (cases hg; done) | (revert g; show ∀ g ∈ ([] : List Nat), g < 19; decide)), fun e H hc => by
  have hc : (decide (eN e 0 ≤ 1000)) = true := hc
  try simp only [Bool.and_eq_true, decide_eq_true_eq, Nat.beq_eq] at hc
  exact byI (eN e 0) (eI e 1) hc⟩
theorem keStart_p0 (N M : Nat) (C B : Ix → Int) :
    isMore (evTill Tryd.prog [] 300 (behind Tryd.f19 0) 900 19 [.code (bodyOf Tryd.f19)] (envOf [vL 60 1 N, vL 61 1 N] Tryd.f19.ntmps) ((rB 60 M C ++ rB 61 N B) ++ ([])) ⟨[.s false, .s true, .s true], 80⟩) (moreP (headOf Tryd.f19 0) ([]) Tryd.f19.ntmps ([(1, vL 61 1 N), (16, vL 60 1 (N + 5)), (17, vN ((N + 5 : Nat) : Int)), (18, vN (0 : Nat))]) ([]) 160) =
    (OkL [((↑N : Int) != (↑N : Int), false), (((0 : Nat) + N).ble M, true), (decide ((0 : Int) ≤ IntKind.i64.wrap ((↑N : Int) + (5 : Int)) ∧ IntKind.i64.wrap ((↑N : Int) + (5 : Int)) + (↑(0 : Nat) : Int) ≤ (↑M : Int)), true)] ∧ headOf Tryd.f19 (0 : Nat) = headOf Tryd.f19 (0 : Nat) ∧ (((0 : Nat) = (0 : Nat) ∧ N = N) ∧ ((0 : Nat) = (0 : Nat) ∧ N + (5 : Nat) = (IntKind.i64.wrap ((↑N : Int) + (5 : Int))).toNat) ∧ (↑(N + (5 : Nat)) : Int) = (↑(IntKind.i64.wrap ((↑N : Int) + (5 : Int))).toNat : Int) ∧ (↑(0 : Nat) : Int) = (0 : Int)) ∧ True) := by kernel_rfl

set_option maxHeartbeats 4000000 in
theorem keStart (N M : Nat) (C B : Ix → Int) (hN : N ≤ 1000) (hM : N + 5 ≤ M)  (v : SV) (L' : HF) (next : RunsTo Tryd.prog 19 (headOf Tryd.f19 0) (envAt Tryd.f19.ntmps ([(1, vL 61 1 N), (16, vL 60 1 (N + 5)), (17, vN ((N + 5 : Nat) : Int)), (18, vN (0 : Nat))])) (Sx.look ((rB 60 M C ++ rB 61 N B) ++ ([]))) 80 (v) (L') 160) :
    RunsTo Tryd.prog 19 [.code (bodyOf Tryd.f19)] (envOf [vL 60 1 N, vL 61 1 N] Tryd.f19.ntmps) (Sx.look ((rB 60 M C ++ rB 61 N B) ++ ([]))) 80 (v) (L') 160 := by
  have hw5 : IntKind.i64.wrap ((N : Int) + 5) = ((N + 5 : Nat) : Int) := by rw [wr64 (by omega)]; rfl
  refine runs_more baseO (More.of (keStart_p0 N M C B) ⟨?oo, rfl, ?rr⟩) (by kernel_rfl) (by kernel_rfl) rfl (gtL (by decide)) (by decide) next
  case oo =>
    clear next
    refine (okc ?_ (okc ?_ (okc ?_ okn)))
    all_goals ((try simp (disch := omega) only [SS, hw5, Int.toNat_natCast, Go.Sx.sum]); first | done | omega | assumption | (simp (disch := omega) only [SS, hw5, Int.toNat_natCast, Go.Sx.sum] at *; first | done | omega | assumption) | (simp_all; done))
  case rr =>
    clear next
    try simp (disch := omega) only [SS, hw5, Int.toNat_natCast, Go.Sx.sum]
    repeat' apply And.intro
    all_goals first | exact True.intro | with_reducible rfl | omega | (intros; first | exact True.intro | with_reducible rfl | omega | (simp_all; done)) | (simp_all; done) | rfl

theorem keA_p0 (N M : Nat) (C B : Ix → Int) (i : Nat) :
    isMore (evTill Tryd.prog [] 300 (behind Tryd.f19 0) 900 19 (headOf Tryd.f19 0) (envAt Tryd.f19.ntmps ([(1, vL 61 1 N), (16, vL 60 1 (N + 5)), (17, vN ((N + 5 : Nat) : Int)), (18, vN (i : Nat))])) ((rB 60 M C ++ rB 61 N B) ++ ([])) ⟨[.s true, .s true, .s true, .s true, .s true, .s true, .s true, .s true, .s false, .s false], 120⟩) (moreP (headOf Tryd.f19 0) ([]) Tryd.f19.ntmps ([(1, vL 61 1 N), (16, vL 60 1 (N + 5)), (17, vN ((N + 5 : Nat) : Int)), (18, vN (i + 1 : Nat))]) ([]) 160) =
    (OkL [(decide ((↑i : Int) < (↑(N + (5 : Nat)) : Int)), true), (decide ((0 : Int) ≤ (↑i : Int) ∧ (↑i : Int) < (↑(N + (5 : Nat)) : Int)), true), (((0 : Nat) + (↑i : Int).toNat).blt M, true), (((0 : Nat) + (↑i : Int).toNat).blt M, true), (decide ((↑i : Int) < (↑N : Int)), true), (decide ((0 : Int) ≤ (↑i : Int) ∧ (↑i : Int) < (↑N : Int)), true), (((0 : Nat) + (↑i : Int).toNat).blt N, true), (((0 : Nat) + (↑i : Int).toNat).blt N, true), (C [(0 : Nat) + (↑i : Int).toNat] != B [(0 : Nat) + (↑i : Int).toNat], false), (decide ((↑i : Int) ≥ (↑N : Int)), false)] ∧ headOf Tryd.f19 (0 : Nat) = headOf Tryd.f19 (0 : Nat) ∧ (((0 : Nat) = (0 : Nat) ∧ N = N) ∧ ((0 : Nat) = (0 : Nat) ∧ N + (5 : Nat) = N + (5 : Nat)) ∧ (↑(N + (5 : Nat)) : Int) = (↑(N + (5 : Nat)) : Int) ∧ (↑(i + (1 : Nat)) : Int) = IntKind.i64.wrap ((↑i : Int) + (1 : Int))) ∧ True) := by kernel_rfl

set_option maxHeartbeats 4000000 in
theorem keA (N M : Nat) (C B : Ix → Int) (i : Nat) (hi : i < N) (hN : N ≤ 1000) (hM : N + 5 ≤ M) (h : C [i] = B [i])  (v : SV) (L' : HF) (next : RunsTo Tryd.prog 19 (headOf Tryd.f19 0) (envAt Tryd.f19.ntmps ([(1, vL 61 1 N), (16, vL 60 1 (N + 5)), (17, vN ((N + 5 : Nat) : Int)), (18, vN (i + 1 : Nat))])) (Sx.look ((rB 60 M C ++ rB 61 N B) ++ ([]))) 80 (v) (L') 160) :
    RunsTo Tryd.prog 19 (headOf Tryd.f19 0) (envAt Tryd.f19.ntmps ([(1, vL 61 1 N), (16, vL 60 1 (N + 5)), (17, vN ((N + 5 : Nat) : Int)), (18, vN (i : Nat))])) (Sx.look ((rB 60 M C ++ rB 61 N B) ++ ([]))) 80 (v) (L') 160 := by
  have hw : IntKind.i64.wrap ((i : Int) + 1) = ((i + 1 : Nat) : Int) := by rw [wr64 (by omega)]; rfl
  refine runs_more baseO (More.of (keA_p0 N M C B i) ⟨?oo, rfl, ?rr⟩) (by kernel_rfl) (by kernel_rfl) rfl (gtL (by decide)) (by decide) next
  case oo =>
    clear next
    refine (okc ?_ (okc ?_ (okc ?_ (okc ?_ (okc ?_ (okc ?_ (okc ?_ (okc ?_ (okc ?_ (okc ?_ okn))))))))))
    all_goals ((try simp (disch := omega) only [SS, hw, Go.Sx.sum, Nat.zero_add, h]); first | done | omega | assumption | (simp (disch := omega) only [SS, hw, Go.Sx.sum, Nat.zero_add, h] at *; first | done | omega | assumption) | (simp_all; done))
  case rr =>
    clear next
    try simp (disch := omega) only [SS, hw, Go.Sx.sum, Nat.zero_add, h]
    repeat' apply And.intro
    all_goals first | exact True.intro | with_reducible rfl | omega | (intros; first | exact True.intro | with_reducible rfl | omega | (simp_all; done)) | (simp_all; done) | rfl

theorem keB_p0 (N M : Nat) (C B : Ix → Int) (i : Nat) :
    isMore (evTill Tryd.prog [] 300 (behind Tryd.f19 0) 900 19 (headOf Tryd.f19 0) (envAt Tryd.f19.ntmps ([(1, vL 61 1 N), (16, vL 60 1 (N + 5)), (17, vN ((N + 5 : Nat) : Int)), (18, vN (i : Nat))])) ((rB 60 M C ++ rB 61 N B) ++ ([])) ⟨[.s true, .s true, .s true, .s true, .s false, .s true, .s false], 120⟩) (moreP (headOf Tryd.f19 0) ([]) Tryd.f19.ntmps ([(1, vL 61 1 N), (16, vL 60 1 (N + 5)), (17, vN ((N + 5 : Nat) : Int)), (18, vN (i + 1 : Nat))]) ([]) 160) =
    (OkL [(decide ((↑i : Int) < (↑(N + (5 : Nat)) : Int)), true), (decide ((0 : Int) ≤ (↑i : Int) ∧ (↑i : Int) < (↑(N + (5 : Nat)) : Int)), true), (((0 : Nat) + (↑i : Int).toNat).blt M, true), (((0 : Nat) + (↑i : Int).toNat).blt M, true), (decide ((↑i : Int) < (↑N : Int)), false), (decide ((↑i : Int) ≥ (↑N : Int)), true), (C [(0 : Nat) + (↑i : Int).toNat] != (90 : Int), false)] ∧ headOf Tryd.f19 (0 : Nat) = headOf Tryd.f19 (0 : Nat) ∧ (((0 : Nat) = (0 : Nat) ∧ N = N) ∧ ((0 : Nat) = (0 : Nat) ∧ N + (5 : Nat) = N + (5 : Nat)) ∧ (↑(N + (5 : Nat)) : Int) = (↑(N + (5 : Nat)) : Int) ∧ (↑(i + (1 : Nat)) : Int) = IntKind.i64.wrap ((↑i : Int) + (1 : Int))) ∧ True) := by kernel_rfl

set_option maxHeartbeats 4000000 in
theorem keB (N M : Nat) (C B : Ix → Int) (i : Nat) (hi : N ≤ i) (hi2 : i < N + 5) (hN : N ≤ 1000) (hM : N + 5 ≤ M) (h : C [i] = 90)  (v : SV) (L' : HF) (next : RunsTo Tryd.prog 19 (headOf Tryd.f19 0) (envAt Tryd.f19.ntmps ([(1, vL 61 1 N), (16, vL 60 1 (N + 5)), (17, vN ((N + 5 : Nat) : Int)), (18, vN (i + 1 : Nat))])) (Sx.look ((rB 60 M C ++ rB 61 N B) ++ ([]))) 80 (v) (L') 160) :
    RunsTo Tryd.prog 19 (headOf Tryd.f19 0) (envAt Tryd.f19.ntmps ([(1, vL 61 1 N), (16, vL 60 1 (N + 5)), (17, vN ((N + 5 : Nat) : Int)), (18, vN (i : Nat))])) (Sx.look ((rB 60 M C ++ rB 61 N B) ++ ([]))) 80 (v) (L') 160 := by
  have hw : IntKind.i64.wrap ((i : Int) + 1) = ((i + 1 : Nat) : Int) := by rw [wr64 (by omega)]; rfl
  refine runs_more baseO (More.of (keB_p0 N M C B i) ⟨?oo, rfl, ?rr⟩) (by kernel_rfl) (by kernel_rfl) rfl (gtL (by decide)) (by decide) next
  case oo =>
    clear next
    refine (okc ?_ (okc ?_ (okc ?_ (okc ?_ (okc ?_ (okc ?_ (okc ?_ okn)))))))
    all_goals ((try simp (disch := omega) only [SS, hw, Go.Sx.sum, Nat.zero_add, h]); first | done | omega | assumption | (simp (disch := omega) only [SS, hw, Go.Sx.sum, Nat.zero_add, h] at *; first | done | omega | assumption) | (simp_all; done))
  case rr =>
    clear next
    try simp (disch := omega) only [SS, hw, Go.Sx.sum, Nat.zero_add, h]
    repeat' apply And.intro
    all_goals first | exact True.intro | with_reducible rfl | omega | (intros; first | exact True.intro | with_reducible rfl | omega | (simp_all; done)) | (simp_all; done) | rfl

theorem keEnd_p0 (N M : Nat) (C B : Ix → Int) (i : Nat) :
    isEnd (evTill Tryd.prog [] 300 (99) 900 19 (headOf Tryd.f19 0) (envAt Tryd.f19.ntmps ([(1, vL 61 1 N), (16, vL 60 1 (N + 5)), (17, vN ((N + 5 : Nat) : Int)), (18, vN (i : Nat))])) ((rB 60 M C ++ rB 61 N B) ++ ([])) ⟨[.s false], 120⟩) (endP ([]) (YES) ([]) 160) =
    (OkL [(decide ((↑i : Int) < (↑(N + (5 : Nat)) : Int)), false)] ∧ true = true ∧ True) := by kernel_rfl

set_option maxHeartbeats 4000000 in
theorem keEnd (N M : Nat) (C B : Ix → Int) (i : Nat) (hi : i = N + 5)  :
    RunsTo Tryd.prog 19 (headOf Tryd.f19 0) (envAt Tryd.f19.ntmps ([(1, vL 61 1 N), (16, vL 60 1 (N + 5)), (17, vN ((N + 5 : Nat) : Int)), (18, vN (i : Nat))])) (Sx.look ((rB 60 M C ++ rB 61 N B) ++ ([]))) 80 (YES) (Sx.look ([])) 160 := by
  refine runs_last baseO (Sx.Ends.of (keEnd_p0 N M C B i) ⟨?oo, ?rr⟩) (by kernel_rfl) rfl (gtL (by decide)) (by decide)
  case oo =>
    refine (okc ?_ okn)
    all_goals ((try simp (disch := omega) only [SS]); first | done | omega | assumption | (simp (disch := omega) only [SS] at *; first | done | omega | assumption) | (simp_all; done))
  case rr =>
    try simp (disch := omega) only [SS]
    repeat' apply And.intro
    all_goals first | exact True.intro | with_reducible rfl | omega | (intros; first | exact True.intro | with_reducible rfl | omega | (simp_all; done)) | (simp_all; done) | rfl

theorem keI (N M : Nat) (C B : Ix → Int) (hN : N ≤ 1000) (hM : N + 5 ≤ M) (h : ∀ i, i < N + 5 → C [i] = inG B N 5 [i]) : RunsTo Tryd.prog 19 [.code (bodyOf Tryd.f19)] (envOf [vL 60 1 N, vL 61 1 N] Tryd.f19.ntmps) (Sx.look ((rB 60 M C ++ rB 61 N B) ++ ([]))) 80 (YES) (Sx.look []) 160 := by
  refine keStart N M C B hN hM _ _ ?_
  suffices q : ∀ (k i : Nat), i + k = N + 5 → RunsTo Tryd.prog 19 (headOf Tryd.f19 0) (envAt Tryd.f19.ntmps ([(1, vL 61 1 N), (16, vL 60 1 (N + 5)), (17, vN ((N + 5 : Nat) : Int)), (18, vN (i : Nat))])) (Sx.look ((rB 60 M C ++ rB 61 N B) ++ ([]))) 80 (YES) (Sx.look []) 160 from q (N + 5) 0 (by omega)
  intro k
  induction k with
  | zero => intro i hi; exact keEnd N M C B i (by omega)
  | succ k ih =>
    intro i hi
    have q := ih (i + 1) (by omega)
    have hc := h i (by omega)
    rw [inG_at] at hc
    by_cases hn : i < N
    · rw [if_pos hn] at hc; exact keA N M C B i hn hN hM hc _ _ q
    · rw [if_neg hn, if_pos (by omega)] at hc; exact keB N M C B i (by omega) (by omega) hN hM hc _ _ q
def keP : PC := { args := [.v (.vl 60 1 0), .v (.vl 61 1 0)], heap := [⟨60, false, 1, .ta 3 (.vi .u8 1)⟩, ⟨61, false, 1, .ta 0 (.vi .u8 2)⟩], gs := [], G := 19, tp := 144, n := 80, n' := 160, cond := fun e => (decide (eN e 0 ≤ 1000) && decide (eN e 0 + 5 ≤ eN e 3)) && allEq (eI e 1) (inG (eI e 2) (eN e 0) 5) (eN e 0 + 5), v := fun e => YES, post := fun e => [] }
theorem keP_pc : PC.Runs Tryd.prog 19 Tryd.f19 (bodyOf Tryd.f19) keP := ⟨Tryd.func19, by kernel_rfl, (fun g hg => by first | (cases hg; done) | (revert g; show ∀ g ∈ ([] : List Nat), g < 19; decide)), fun e H hc => by
  have hc : ((decide (eN e 0 ≤ 1000) && decide (eN e 0 + 5 ≤ eN e 3)) && allEq (eI e 1) (inG (eI e 2) (eN e 0) 5) (eN e 0 + 5)) = true := hc
  try simp only [Bool.and_eq_true, decide_eq_true_eq, Nat.beq_eq] at hc
  exact keI (eN e 0) (eN e 3) (eI e 1) (eI e 2) hc.1.1 hc.1.2 (fun i hi => allEq_iff.1 hc.2 i hi)⟩
theorem ddStart_p0 (s : List UInt8) :
    isMore (evTill Tryd.prog [] 300 (behind Tryd.f24 0) 900 24 [.code (bodyOf Tryd.f24)] (envOf [vS s] Tryd.f24.ntmps) ([] ++ ([])) ⟨[], 80⟩) (moreP (headOf Tryd.f24 0) ([]) Tryd.f24.ntmps ([(0, vS s), (3, vS (([] : List UInt8))), (4, vN (0 : Nat))]) ([]) 140) =
    (OkL [] ∧ headOf Tryd.f24 (0 : Nat) = headOf Tryd.f24 (0 : Nat) ∧ (s = s ∧ ([] : List UInt8) = [] ∧ (↑(0 : Nat) : Int) = (0 : Int)) ∧ True) := by kernel_rfl

set_option maxHeartbeats 4000000 in
theorem ddStart (s : List UInt8)  (v : SV) (L' : HF) (next : RunsTo Tryd.prog 24 (headOf Tryd.f24 0) (envAt Tryd.f24.ntmps ([(0, vS s), (3, vS (([] : List UInt8))), (4, vN (0 : Nat))])) (Sx.look ([] ++ ([]))) 80 (v) (L') 140) :
    RunsTo Tryd.prog 24 [.code (bodyOf Tryd.f24)] (envOf [vS s] Tryd.f24.ntmps) (Sx.look ([] ++ ([]))) 80 (v) (L') 140 := by
  refine runs_more baseO (More.of (ddStart_p0 s) ⟨?oo, rfl, ?rr⟩) (by kernel_rfl) (by kernel_rfl) rfl (gtL (by decide)) (by decide) next
  case oo =>
    clear next
    refine okn
    all_goals ((try simp (disch := omega) only [SS]); first | done | omega | assumption | (simp (disch := omega) only [SS] at *; first | done | omega | assumption) | (simp_all; done))
  case rr =>
    clear next
    try simp (disch := omega) only [SS]
    repeat' apply And.intro
    all_goals first | exact True.intro | with_reducible rfl | omega | (intros; first | exact True.intro | with_reducible rfl | omega | (simp_all; done)) | (simp_all; done) | rfl

theorem rdN_p0 (s : List UInt8) (o : List UInt8) (i : Nat) :
    isMore (evTill Tryd.prog [] 300 (behind Tryd.f24 0) 900 24 (headOf Tryd.f24 0) (envAt Tryd.f24.ntmps ([(0, vS s), (3, vS (o)), (4, vN (i : Nat))])) ([] ++ ([])) ⟨[.s true, .s true, .s true, .s true, .s true, .s false], 120⟩) (moreP (headOf Tryd.f24 0) ([]) Tryd.f24.ntmps ([(0, vS s), (3, vS (o ++ [s.getD i 0])), (4, vN (i + 1 : Nat))]) ([]) 140) =
    (OkL [(decide ((↑i : Int) < (↑s.length : Int)), true), (decide ((0 : Int) ≤ IntKind.i64.wrap ((↑i : Int) + (1 : Int)) ∧ IntKind.i64.wrap ((↑i : Int) + (1 : Int)) ≤ (↑s.length : Int)), true), (decide ((0 : Int) ≤ (↑i : Int) ∧ (↑i : Int) ≤ IntKind.i64.wrap ((↑i : Int) + (1 : Int))), true), (decide (o.length + (List.drop (↑i : Int).toNat (List.take (IntKind.i64.wrap ((↑i : Int) + (1 : Int))).toNat s)).length ≤ (9223372036854775807 : Nat)), true), (decide ((0 : Int) ≤ (↑i : Int) ∧ (↑i : Int) < (↑s.length : Int)), true), ((↑(s.getD (↑i : Int).toNat (0 : UInt8)).toNat : Int) == (255 : Int), false)] ∧ headOf Tryd.f24 (0 : Nat) = headOf Tryd.f24 (0 : Nat) ∧ (s = s ∧ o ++ [s.getD i (0 : UInt8)] = o ++ List.drop (↑i : Int).toNat (List.take (IntKind.i64.wrap ((↑i : Int) + (1 : Int))).toNat s) ∧ (↑(i + (1 : Nat)) : Int) = IntKind.i64.wrap ((↑i : Int) + (1 : Int))) ∧ True) := by kernel_rfl

set_option maxHeartbeats 4000000 in
theorem rdN (s : List UInt8) (o : List UInt8) (i : Nat) (hi : i < s.length) (hs : s.length ≤ 100000) (ho : o.length ≤ 2 * i) (h : (s.getD i 0).toNat ≠ 255)  (v : SV) (L' : HF) (next : RunsTo Tryd.prog 24 (headOf Tryd.f24 0) (envAt Tryd.f24.ntmps ([(0, vS s), (3, vS (o ++ [s.getD i 0])), (4, vN (i + 1 : Nat))])) (Sx.look ([] ++ ([]))) 80 (v) (L') 140) :
    RunsTo Tryd.prog 24 (headOf Tryd.f24 0) (envAt Tryd.f24.ntmps ([(0, vS s), (3, vS (o)), (4, vN (i : Nat))])) (Sx.look ([] ++ ([]))) 80 (v) (L') 140 := by
  have hw : IntKind.i64.wrap ((i : Int) + 1) = ((i + 1 : Nat) : Int) := by rw [wr64 (by omega)]; rfl
  have hs1 := slice1' s hi
  refine runs_more baseO (More.of (rdN_p0 s o i) ⟨?oo, rfl, ?rr⟩) (by kernel_rfl) (by kernel_rfl) rfl (gtL (by decide)) (by decide) next
  case oo =>
    clear next
    refine (okc ?_ (okc ?_ (okc ?_ (okc ?_ (okc ?_ (okc ?_ okn))))))
    all_goals first | omega | (simp_all; done) | (simp_all; omega)
  case rr =>
    clear next
    try simp (disch := omega) only [SS, hw, hs1]
    repeat' apply And.intro
    all_goals first | exact True.intro | with_reducible rfl | omega | (simp_all; done)

theorem rdQ_p0 (s : List UInt8) (o : List UInt8) (i : Nat) :
    isMore (evTill Tryd.prog [] 300 (behind Tryd.f24 0) 900 24 (headOf Tryd.f24 0) (envAt Tryd.f24.ntmps ([(0, vS s), (3, vS (o)), (4, vN (i : Nat))])) ([] ++ ([])) ⟨[.s true, .s true, .s true, .s true, .s true, .s true, .s true], 120⟩) (moreP (headOf Tryd.f24 0) ([]) Tryd.f24.ntmps ([(0, vS s), (3, vS (o ++ [s.getD i 0] ++ [255])), (4, vN (i + 1 : Nat))]) ([]) 140) =
    (OkL [(decide ((↑i : Int) < (↑s.length : Int)), true), (decide ((0 : Int) ≤ IntKind.i64.wrap ((↑i : Int) + (1 : Int)) ∧ IntKind.i64.wrap ((↑i : Int) + (1 : Int)) ≤ (↑s.length : Int)), true), (decide ((0 : Int) ≤ (↑i : Int) ∧ (↑i : Int) ≤ IntKind.i64.wrap ((↑i : Int) + (1 : Int))), true), (decide (o.length + (List.drop (↑i : Int).toNat (List.take (IntKind.i64.wrap ((↑i : Int) + (1 : Int))).toNat s)).length ≤ (9223372036854775807 : Nat)), true), (decide ((0 : Int) ≤ (↑i : Int) ∧ (↑i : Int) < (↑s.length : Int)), true), ((↑(s.getD (↑i : Int).toNat (0 : UInt8)).toNat : Int) == (255 : Int), true), (decide ((o ++ List.drop (↑i : Int).toNat (List.take (IntKind.i64.wrap ((↑i : Int) + (1 : Int))).toNat s)).length + (1 : Nat) ≤ (9223372036854775807 : Nat)), true)] ∧ headOf Tryd.f24 (0 : Nat) = headOf Tryd.f24 (0 : Nat) ∧ (s = s ∧ o ++ [s.getD i (0 : UInt8)] ++ [(255 : UInt8)] = o ++ List.drop (↑i : Int).toNat (List.take (IntKind.i64.wrap ((↑i : Int) + (1 : Int))).toNat s) ++ [(255 : UInt8)] ∧ (↑(i + (1 : Nat)) : Int) = IntKind.i64.wrap ((↑i : Int) + (1 : Int))) ∧ True) := by kernel_rfl

set_option maxHeartbeats 4000000 in
theorem rdQ (s : List UInt8) (o : List UInt8) (i : Nat) (hi : i < s.length) (hs : s.length ≤ 100000) (ho : o.length ≤ 2 * i) (h : (s.getD i 0).toNat = 255)  (v : SV) (L' : HF) (next : RunsTo Tryd.prog 24 (headOf Tryd.f24 0) (envAt Tryd.f24.ntmps ([(0, vS s), (3, vS (o ++ [s.getD i 0] ++ [255])), (4, vN (i + 1 : Nat))])) (Sx.look ([] ++ ([]))) 80 (v) (L') 140) :
    RunsTo Tryd.prog 24 (headOf Tryd.f24 0) (envAt Tryd.f24.ntmps ([(0, vS s), (3, vS (o)), (4, vN (i : Nat))])) (Sx.look ([] ++ ([]))) 80 (v) (L') 140 := by
  have hw : IntKind.i64.wrap ((i : Int) + 1) = ((i + 1 : Nat) : Int) := by rw [wr64 (by omega)]; rfl
  have hs1 := slice1' s hi
  refine runs_more baseO (More.of (rdQ_p0 s o i) ⟨?oo, rfl, ?rr⟩) (by kernel_rfl) (by kernel_rfl) rfl (gtL (by decide)) (by decide) next
  case oo =>
    clear next
    refine (okc ?_ (okc ?_ (okc ?_ (okc ?_ (okc ?_ (okc ?_ (okc ?_ okn)))))))
    all_goals first | omega | (simp_all; done) | (simp_all; omega)
  case rr =>
    clear next
    try simp (disch := omega) only [SS, hw, hs1]
    repeat' apply And.intro
    all_goals first | exact True.intro | with_reducible rfl | omega | (simp_all; done)

theorem rdEnd_p0 (s : List UInt8) (o : List UInt8) (i : Nat) :
    isEnd (evTill Tryd.prog [] 300 (99) 900 24 (headOf Tryd.f24 0) (envAt Tryd.f24.ntmps ([(0, vS s), (3, vS (o)), (4, vN (i : Nat))])) ([] ++ ([])) ⟨[.s false], 120⟩) (endP ([]) (vS o) ([]) 140) =
    (OkL [(decide ((↑i : Int) < (↑s.length : Int)), false)] ∧ o = o ∧ True) := by kernel_rfl

set_option maxHeartbeats 4000000 in
theorem rdEnd (s : List UInt8) (o : List UInt8) (i : Nat) (hi : i = s.length)  :
    RunsTo Tryd.prog 24 (headOf Tryd.f24 0) (envAt Tryd.f24.ntmps ([(0, vS s), (3, vS (o)), (4, vN (i : Nat))])) (Sx.look ([] ++ ([]))) 80 (vS o) (Sx.look ([])) 140 := by
  refine runs_last baseO (Sx.Ends.of (rdEnd_p0 s o i) ⟨?oo, ?rr⟩) (by kernel_rfl) rfl (gtL (by decide)) (by decide)
  case oo =>
    refine (okc ?_ okn)
    all_goals ((try simp (disch := omega) only [SS]); first | done | omega | assumption | (simp (disch := omega) only [SS] at *; first | done | omega | assumption) | (simp_all; done))
  case rr =>
    try simp (disch := omega) only [SS]
    repeat' apply And.intro
    all_goals first | exact True.intro | with_reducible rfl | omega | (intros; first | exact True.intro | with_reducible rfl | omega | (simp_all; done)) | (simp_all; done) | rfl

theorem rdI (s : List UInt8) (hs : s.length ≤ 100000) : RunsTo Tryd.prog 24 [.code (bodyOf Tryd.f24)] (envOf [vS s] Tryd.f24.ntmps) (Sx.look ([] ++ ([]))) 80 (vS (dbl s)) (Sx.look []) 140 := by
  refine ddStart s _ _ ?_
  suffices q : ∀ (k i : Nat), i + k = s.length → RunsTo Tryd.prog 24 (headOf Tryd.f24 0) (envAt Tryd.f24.ntmps ([(0, vS s), (3, vS (dbl (s.take i))), (4, vN (i : Nat))])) (Sx.look ([] ++ ([]))) 80 (vS (dbl s)) (Sx.look []) 140 from q s.length 0 (by omega)
  intro k
  induction k with
  | zero =>
    intro i hi
    rw [show s.take i = s from List.take_of_length_le (by omega)]
    exact rdEnd s _ i (by omega)
  | succ k ih =>
    intro i hi
    have q := ih (i + 1) (by omega)
    have e := dbl_take s (i := i) (by omega)
    have hol : (dbl (s.take i)).length ≤ 2 * i := by have a := dbl_len (s.take i); have b := cnt5_le (s.take i); have c : (s.take i).length ≤ i := by simp; omega
                                                     omega
    by_cases h : (s.getD i 0).toNat = 255
    · have h2 : s.getD i 0 = 255 := UInt8.toNat_inj.1 h
      rw [if_pos h2] at e
      rw [e, show ([255, 255] : List UInt8) = [s.getD i 0] ++ [255] by rw [h2]; rfl] at q
      rw [← List.append_assoc] at q; exact rdQ s _ i (by omega) hs hol h _ _ q
    · rw [if_neg (fun e => h (by rw [e]; rfl))] at e
      rw [e] at q
      exact rdN s _ i (by omega) hs hol h _ _ q
def rdP : PC := { args := [.v (.vs 0)], heap := [], gs := [], G := 19, tp := 144, n := 80, n' := 140, cond := fun e => decide ((eS e 0 []).length ≤ 100000), v := fun e => vS (dbl (eS e 0 [])), post := fun e => [] }
theorem rdP_pc : PC.Runs Tryd.prog 24 Tryd.f24 (bodyOf Tryd.f24) rdP := ⟨Tryd.func24, by kernel_rfl, (fun g hg => by first | (cases hg; done) | (revert g; show ∀ g ∈ ([] : List Nat), g < 19; decide)), fun e H hc => by
  have hc : (decide ((eS e 0 []).length ≤ 100000)) = true := hc
  try simp only [Bool.and_eq_true, decide_eq_true_eq, Nat.beq_eq] at hc
  exact rdI (eS e 0 []) hc⟩
def sumsRT : List (FuncId × Summ) := [(24, rdP.summ 38)]
theorem baseRT : Base0 Tryd.prog sumsRT := (baseO.cons Tryd.func24 (by kernel_rfl) (PC.summ_ok rdP_pc gtopG))
theorem rt1r_p0 (k c o : Int) (b : List UInt8) (cut : Bool) :
    isEnd (evTill Tryd.prog sumsRT 300 (99) 900 28 [.code (bodyOf Tryd.f28)] (envOf [.agg (.tc (.vi .i64 fun _ => k) (.tc (.vi .i64 fun _ => c) (.tc (.vi .i64 fun _ => o) (.tc (.vs fun _ => b) (.tc (.vb fun _ => cut) .t0)))))] Tryd.f28.ntmps) ([] ++ ([])) ⟨[.s true, .s false, .s true], 80⟩) (endP ([]) (.tup [(false, .vs fun _ => []), (false, .vi .i64 fun _ => 1)]) ([]) 170) =
    (OkL [(k == (1 : Int), true), (decide (c < (0 : Int)), false), (decide (c > (255 : Int)), true)] ∧ (([] : List UInt8) = [] ∧ (1 : Int) = (1 : Int) ∧ True) ∧ True) := by kernel_rfl
theorem rt1r_p1 (k c o : Int) (b : List UInt8) (cut : Bool) :
    isEnd (evTill Tryd.prog sumsRT 300 (99) 900 28 [.code (bodyOf Tryd.f28)] (envOf [.agg (.tc (.vi .i64 fun _ => k) (.tc (.vi .i64 fun _ => c) (.tc (.vi .i64 fun _ => o) (.tc (.vs fun _ => b) (.tc (.vb fun _ => cut) .t0)))))] Tryd.f28.ntmps) ([] ++ ([])) ⟨[.s true, .s true], 80⟩) (endP ([]) (.tup [(false, .vs fun _ => []), (false, .vi .i64 fun _ => 1)]) ([]) 170) =
    (OkL [(k == (1 : Int), true), (decide (c < (0 : Int)), true)] ∧ (([] : List UInt8) = [] ∧ (1 : Int) = (1 : Int) ∧ True) ∧ True) := by kernel_rfl

set_option maxHeartbeats 4000000 in
theorem rt1r (k c o : Int) (b : List UInt8) (cut : Bool) (hb : b.length ≤ 10000) (h : k = 1) (hc : byN c = false)  :
    RunsTo Tryd.prog 28 [.code (bodyOf Tryd.f28)] (envOf [.agg (.tc (.vi .i64 fun _ => k) (.tc (.vi .i64 fun _ => c) (.tc (.vi .i64 fun _ => o) (.tc (.vs fun _ => b) (.tc (.vb fun _ => cut) .t0)))))] Tryd.f28.ntmps) (Sx.look ([] ++ ([]))) 80 (.tup [(false, .vs fun _ => []), (false, .vi .i64 fun _ => 1)]) (Sx.look ([])) 170 := by
  rw [byN_F] at hc
  refine bcase (c := (decide (c < (0 : Int)))) (fun gg0 => ?_) (fun gg0 => ?_)
  · refine runs_last baseRT (Sx.Ends.of (rt1r_p0 k c o b cut) ⟨?oo, ?rr⟩) (by kernel_rfl) rfl (gtL (by decide)) (by decide)
    case oo =>
      refine (okc ?_ (okc gg0 (okc ?_ okn)))
      all_goals ((try simp (disch := omega) only [SS]); first | done | omega | assumption | (simp (disch := omega) only [SS] at *; first | done | omega | assumption) | (simp_all; done))
    case rr =>
      try simp (disch := omega) only [SS]
      repeat' apply And.intro
      all_goals first | exact True.intro | with_reducible rfl | omega | (intros; first | exact True.intro | with_reducible rfl | omega | (simp_all; done)) | (simp_all; done) | rfl
  · refine runs_last baseRT (Sx.Ends.of (rt1r_p1 k c o b cut) ⟨?oo, ?rr⟩) (by kernel_rfl) rfl (gtL (by decide)) (by decide)
    case oo =>
      refine (okc ?_ (okc gg0 okn))
      all_goals ((try simp (disch := omega) only [SS]); first | done | omega | assumption | (simp (disch := omega) only [SS] at *; first | done | omega | assumption) | (simp_all; done))
    case rr =>
      try simp (disch := omega) only [SS]
      repeat' apply And.intro
      all_goals first | exact True.intro | with_reducible rfl | omega | (intros; first | exact True.intro | with_reducible rfl | omega | (simp_all; done)) | (simp_all; done) | rfl

theorem rt1o_p0 (k c o : Int) (b : List UInt8) (cut : Bool) :
    isEnd (evTill Tryd.prog sumsRT 300 (99) 900 28 [.code (bodyOf Tryd.f28)] (envOf [.agg (.tc (.vi .i64 fun _ => k) (.tc (.vi .i64 fun _ => c) (.tc (.vi .i64 fun _ => o) (.tc (.vs fun _ => b) (.tc (.vb fun _ => cut) .t0)))))] Tryd.f28.ntmps) ([] ++ ([])) ⟨[.s true, .s false, .s false, .s true, .t, .t], 80⟩) (endP ([]) (.tup [(false, .vs fun _ => dbl [u8o c]), (false, .vi .i64 fun _ => 0)]) ([]) 170) =
    (OkL [(k == (1 : Int), true), (decide (c < (0 : Int)), false), (decide (c > (255 : Int)), false), (k == (1 : Int), true)] ∧ (dbl [u8o c] = dbl (bytesOf (fun is => IntKind.u8.wrap c) [] (0 : Nat) (1 : Nat)) ∧ (0 : Int) = (0 : Int) ∧ True) ∧ True) := by kernel_rfl

set_option maxHeartbeats 4000000 in
theorem rt1o (k c o : Int) (b : List UInt8) (cut : Bool) (hb : b.length ≤ 10000) (h : k = 1) (hc : byN c = true)  :
    RunsTo Tryd.prog 28 [.code (bodyOf Tryd.f28)] (envOf [.agg (.tc (.vi .i64 fun _ => k) (.tc (.vi .i64 fun _ => c) (.tc (.vi .i64 fun _ => o) (.tc (.vs fun _ => b) (.tc (.vb fun _ => cut) .t0)))))] Tryd.f28.ntmps) (Sx.look ([] ++ ([]))) 80 (.tup [(false, .vs fun _ => dbl [u8o c]), (false, .vi .i64 fun _ => 0)]) (Sx.look ([])) 170 := by
  rw [byN_T] at hc
  have hu : IntKind.u8.wrap c = ((u8o c).toNat : Int) := u8o_wr (by rw [byN_T]; omega)
  have hu2 : UInt8.ofNat (IntKind.u8.wrap c).toNat = u8o c := by rw [hu, Int.toNat_natCast, UInt8.ofNat_toNat]
  have hq1 : bytesOf (fun is => IntKind.u8.wrap c) [] 0 1 = [u8o c] := by rw [← hu2]; rfl
  refine runs_last baseRT (Sx.Ends.of (rt1o_p0 k c o b cut) ⟨?oo, ?rr⟩) (by kernel_rfl) rfl (gtL (by decide)) (by decide)
  case oo =>
    refine (okc ?_ (okc ?_ (okc ?_ (okc ?_ okn))))
    all_goals ((try simp (disch := omega) only [SS, hq1]); first | done | omega | assumption | (simp (disch := omega) only [SS, hq1] at *; first | done | omega | assumption) | (simp_all; done))
  case rr =>
    try simp (disch := omega) only [SS, hq1]
    repeat' apply And.intro
    all_goals first | exact True.intro | with_reducible rfl | omega | (intros; first | exact True.intro | with_reducible rfl | omega | (simp_all; done)) | (simp_all; done) | rfl

theorem rt2o_p0 (k c o : Int) (b : List UInt8) (cut : Bool) :
    isEnd (evTill Tryd.prog sumsRT 300 (99) 900 28 [.code (bodyOf Tryd.f28)] (envOf [.agg (.tc (.vi .i64 fun _ => k) (.tc (.vi .i64 fun _ => c) (.tc (.vi .i64 fun _ => o) (.tc (.vs fun _ => b) (.tc (.vb fun _ => cut) .t0)))))] Tryd.f28.ntmps) ([] ++ ([])) ⟨[.s false, .s false, .s true, .s true, .s true, .t], 80⟩) (endP ([]) (.tup [(false, .vs fun _ => [255, u8o c]), (false, .vi .i64 fun _ => 0)]) ([]) 170) =
    (OkL [(k == (1 : Int), false), (k == (1 : Int), false), (k == (2 : Int), true), (decide (c > (240 : Int)), true), (decide (c < (250 : Int)), true)] ∧ ([(255 : UInt8), u8o c] = bytesOf (upd (upd (fun is => (0 : Int)) [(0 : Nat)] (255 : Int)) [(1 : Nat)] (IntKind.u8.wrap c)) [] (0 : Nat) (2 : Nat) ∧ (0 : Int) = (0 : Int) ∧ True) ∧ True) := by kernel_rfl

set_option maxHeartbeats 4000000 in
theorem rt2o (k c o : Int) (b : List UInt8) (cut : Bool) (hb : b.length ≤ 10000) (h : k = 2) (h2 : 241 ≤ c ∧ c ≤ 249)  :
    RunsTo Tryd.prog 28 [.code (bodyOf Tryd.f28)] (envOf [.agg (.tc (.vi .i64 fun _ => k) (.tc (.vi .i64 fun _ => c) (.tc (.vi .i64 fun _ => o) (.tc (.vs fun _ => b) (.tc (.vb fun _ => cut) .t0)))))] Tryd.f28.ntmps) (Sx.look ([] ++ ([]))) 80 (.tup [(false, .vs fun _ => [255, u8o c]), (false, .vi .i64 fun _ => 0)]) (Sx.look ([])) 170 := by
  have hu : IntKind.u8.wrap c = ((u8o c).toNat : Int) := u8o_wr (by rw [byN_T]; omega)
  have hu2 : UInt8.ofNat (IntKind.u8.wrap c).toNat = u8o c := by rw [hu, Int.toNat_natCast, UInt8.ofNat_toNat]
  have hq2 : bytesOf (upd (upd (fun is => 0) [0] 255) [1] (IntKind.u8.wrap c)) [] 0 2 = [255, u8o c] := by rw [← hu2]; rfl
  refine runs_last baseRT (Sx.Ends.of (rt2o_p0 k c o b cut) ⟨?oo, ?rr⟩) (by kernel_rfl) rfl (gtL (by decide)) (by decide)
  case oo =>
    refine (okc ?_ (okc ?_ (okc ?_ (okc ?_ (okc ?_ okn)))))
    all_goals ((try simp (disch := omega) only [SS, hq2]); first | done | omega | assumption | (simp (disch := omega) only [SS, hq2] at *; first | done | omega | assumption) | (simp_all; done))
  case rr =>
    try simp (disch := omega) only [SS, hq2]
    repeat' apply And.intro
    all_goals first | exact True.intro | with_reducible rfl | omega | (intros; first | exact True.intro | with_reducible rfl | omega | (simp_all; done)) | (simp_all; done) | rfl

theorem rt2k_p0 (k c o : Int) (b : List UInt8) (cut : Bool) :
    isEnd (evTill Tryd.prog sumsRT 300 (99) 900 28 [.code (bodyOf Tryd.f28)] (envOf [.agg (.tc (.vi .i64 fun _ => k) (.tc (.vi .i64 fun _ => c) (.tc (.vi .i64 fun _ => o) (.tc (.vs fun _ => b) (.tc (.vb fun _ => cut) .t0)))))] Tryd.f28.ntmps) ([] ++ ([])) ⟨[.s false, .s false, .s true, .s false, .s false, .s false], 80⟩) (endP ([]) (.tup [(false, .vs fun _ => []), (false, .vi .i64 fun _ => 9)]) ([]) 170) =
    (OkL [(k == (1 : Int), false), (k == (1 : Int), false), (k == (2 : Int), true), (decide (c > (240 : Int)), false), (k == (3 : Int), false), (k == (4 : Int), false)] ∧ (([] : List UInt8) = [] ∧ (9 : Int) = (9 : Int) ∧ True) ∧ True) := by kernel_rfl
theorem rt2k_p1 (k c o : Int) (b : List UInt8) (cut : Bool) :
    isEnd (evTill Tryd.prog sumsRT 300 (99) 900 28 [.code (bodyOf Tryd.f28)] (envOf [.agg (.tc (.vi .i64 fun _ => k) (.tc (.vi .i64 fun _ => c) (.tc (.vi .i64 fun _ => o) (.tc (.vs fun _ => b) (.tc (.vb fun _ => cut) .t0)))))] Tryd.f28.ntmps) ([] ++ ([])) ⟨[.s false, .s false, .s true, .s true, .s false, .s false, .s false], 80⟩) (endP ([]) (.tup [(false, .vs fun _ => []), (false, .vi .i64 fun _ => 9)]) ([]) 170) =
    (OkL [(k == (1 : Int), false), (k == (1 : Int), false), (k == (2 : Int), true), (decide (c > (240 : Int)), true), (decide (c < (250 : Int)), false), (k == (3 : Int), false), (k == (4 : Int), false)] ∧ (([] : List UInt8) = [] ∧ (9 : Int) = (9 : Int) ∧ True) ∧ True) := by kernel_rfl

set_option maxHeartbeats 4000000 in
theorem rt2k (k c o : Int) (b : List UInt8) (cut : Bool) (hb : b.length ≤ 10000) (h : k = 2) (h2 : ¬ (241 ≤ c ∧ c ≤ 249))  :
    RunsTo Tryd.prog 28 [.code (bodyOf Tryd.f28)] (envOf [.agg (.tc (.vi .i64 fun _ => k) (.tc (.vi .i64 fun _ => c) (.tc (.vi .i64 fun _ => o) (.tc (.vs fun _ => b) (.tc (.vb fun _ => cut) .t0)))))] Tryd.f28.ntmps) (Sx.look ([] ++ ([]))) 80 (.tup [(false, .vs fun _ => []), (false, .vi .i64 fun _ => 9)]) (Sx.look ([])) 170 := by
  refine bcase (c := (decide (c > (240 : Int)))) (fun gg0 => ?_) (fun gg0 => ?_)
  · refine runs_last baseRT (Sx.Ends.of (rt2k_p0 k c o b cut) ⟨?oo, ?rr⟩) (by kernel_rfl) rfl (gtL (by decide)) (by decide)
    case oo =>
      refine (okc ?_ (okc ?_ (okc ?_ (okc gg0 (okc ?_ (okc ?_ okn))))))
      all_goals ((try simp (disch := omega) only [SS]); first | done | omega | assumption | (simp (disch := omega) only [SS] at *; first | done | omega | assumption) | (simp_all; done))
    case rr =>
      try simp (disch := omega) only [SS]
      repeat' apply And.intro
      all_goals first | exact True.intro | with_reducible rfl | omega | (intros; first | exact True.intro | with_reducible rfl | omega | (simp_all; done)) | (simp_all; done) | rfl
  · refine runs_last baseRT (Sx.Ends.of (rt2k_p1 k c o b cut) ⟨?oo, ?rr⟩) (by kernel_rfl) rfl (gtL (by decide)) (by decide)
    case oo =>
      refine (okc ?_ (okc ?_ (okc ?_ (okc gg0 (okc ?_ (okc ?_ (okc ?_ okn)))))))
      all_goals ((try simp (disch := omega) only [SS]); first | done | omega | assumption | (simp (disch := omega) only [SS] at *; first | done | omega | assumption) | (simp_all; done))
    case rr =>
      try simp (disch := omega) only [SS]
      repeat' apply And.intro
      all_goals first | exact True.intro | with_reducible rfl | omega | (intros; first | exact True.intro | with_reducible rfl | omega | (simp_all; done)) | (simp_all; done) | rfl

theorem rt3r_p0 (k c o : Int) (b : List UInt8) (cut : Bool) :
    isEnd (evTill Tryd.prog sumsRT 300 (99) 900 28 [.code (bodyOf Tryd.f28)] (envOf [.agg (.tc (.vi .i64 fun _ => k) (.tc (.vi .i64 fun _ => c) (.tc (.vi .i64 fun _ => o) (.tc (.vs fun _ => b) (.tc (.vb fun _ => cut) .t0)))))] Tryd.f28.ntmps) ([] ++ ([])) ⟨[.s false, .s false, .s false, .s true, .s true, .s true, .s false, .s true], 80⟩) (endP ([]) (.tup [(false, .vs fun _ => []), (false, .vi .i64 fun _ => 1)]) ([]) 170) =
    (OkL [(k == (1 : Int), false), (k == (1 : Int), false), (k == (2 : Int), false), (k == (3 : Int), true), (decide (c > (250 : Int)), true), (decide (c < (255 : Int)), true), (decide (o < (0 : Int)), false), (decide (o > (255 : Int)), true)] ∧ (([] : List UInt8) = [] ∧ (1 : Int) = (1 : Int) ∧ True) ∧ True) := by kernel_rfl
theorem rt3r_p1 (k c o : Int) (b : List UInt8) (cut : Bool) :
    isEnd (evTill Tryd.prog sumsRT 300 (99) 900 28 [.code (bodyOf Tryd.f28)] (envOf [.agg (.tc (.vi .i64 fun _ => k) (.tc (.vi .i64 fun _ => c) (.tc (.vi .i64 fun _ => o) (.tc (.vs fun _ => b) (.tc (.vb fun _ => cut) .t0)))))] Tryd.f28.ntmps) ([] ++ ([])) ⟨[.s false, .s false, .s false, .s true, .s true, .s true, .s true], 80⟩) (endP ([]) (.tup [(false, .vs fun _ => []), (false, .vi .i64 fun _ => 1)]) ([]) 170) =
    (OkL [(k == (1 : Int), false), (k == (1 : Int), false), (k == (2 : Int), false), (k == (3 : Int), true), (decide (c > (250 : Int)), true), (decide (c < (255 : Int)), true), (decide (o < (0 : Int)), true)] ∧ (([] : List UInt8) = [] ∧ (1 : Int) = (1 : Int) ∧ True) ∧ True) := by kernel_rfl

set_option maxHeartbeats 4000000 in
theorem rt3r (k c o : Int) (b : List UInt8) (cut : Bool) (hb : b.length ≤ 10000) (h : k = 3) (h2 : 251 ≤ c ∧ c ≤ 254) (ho : byN o = false)  :
    RunsTo Tryd.prog 28 [.code (bodyOf Tryd.f28)] (envOf [.agg (.tc (.vi .i64 fun _ => k) (.tc (.vi .i64 fun _ => c) (.tc (.vi .i64 fun _ => o) (.tc (.vs fun _ => b) (.tc (.vb fun _ => cut) .t0)))))] Tryd.f28.ntmps) (Sx.look ([] ++ ([]))) 80 (.tup [(false, .vs fun _ => []), (false, .vi .i64 fun _ => 1)]) (Sx.look ([])) 170 := by
  rw [byN_F] at ho
  refine bcase (c := (decide (o < (0 : Int)))) (fun gg0 => ?_) (fun gg0 => ?_)
  · refine runs_last baseRT (Sx.Ends.of (rt3r_p0 k c o b cut) ⟨?oo, ?rr⟩) (by kernel_rfl) rfl (gtL (by decide)) (by decide)
    case oo =>
      refine (okc ?_ (okc ?_ (okc ?_ (okc ?_ (okc ?_ (okc ?_ (okc gg0 (okc ?_ okn))))))))
      all_goals ((try simp (disch := omega) only [SS]); first | done | omega | assumption | (simp (disch := omega) only [SS] at *; first | done | omega | assumption) | (simp_all; done))
    case rr =>
      try simp (disch := omega) only [SS]
      repeat' apply And.intro
      all_goals first | exact True.intro | with_reducible rfl | omega | (intros; first | exact True.intro | with_reducible rfl | omega | (simp_all; done)) | (simp_all; done) | rfl
  · refine runs_last baseRT (Sx.Ends.of (rt3r_p1 k c o b cut) ⟨?oo, ?rr⟩) (by kernel_rfl) rfl (gtL (by decide)) (by decide)
    case oo =>
      refine (okc ?_ (okc ?_ (okc ?_ (okc ?_ (okc ?_ (okc ?_ (okc gg0 okn)))))))
      all_goals ((try simp (disch := omega) only [SS]); first | done | omega | assumption | (simp (disch := omega) only [SS] at *; first | done | omega | assumption) | (simp_all; done))
    case rr =>
      try simp (disch := omega) only [SS]
      repeat' apply And.intro
      all_goals first | exact True.intro | with_reducible rfl | omega | (intros; first | exact True.intro | with_reducible rfl | omega | (simp_all; done)) | (simp_all; done) | rfl

theorem rt3o_p0 (k c o : Int) (b : List UInt8) (cut : Bool) :
    isEnd (evTill Tryd.prog sumsRT 300 (99) 900 28 [.code (bodyOf Tryd.f28)] (envOf [.agg (.tc (.vi .i64 fun _ => k) (.tc (.vi .i64 fun _ => c) (.tc (.vi .i64 fun _ => o) (.tc (.vs fun _ => b) (.tc (.vb fun _ => cut) .t0)))))] Tryd.f28.ntmps) ([] ++ ([])) ⟨[.s false, .s false, .s false, .s true, .s true, .s true, .s false, .s false, .s true, .t], 80⟩) (endP ([]) (.tup [(false, .vs fun _ => [255, u8o c, u8o o]), (false, .vi .i64 fun _ => 0)]) ([]) 170) =
    (OkL [(k == (1 : Int), false), (k == (1 : Int), false), (k == (2 : Int), false), (k == (3 : Int), true), (decide (c > (250 : Int)), true), (decide (c < (255 : Int)), true), (decide (o < (0 : Int)), false), (decide (o > (255 : Int)), false), (k == (3 : Int), true)] ∧ ([(255 : UInt8), u8o c, u8o o] = bytesOf (upd (upd (upd (fun is => (0 : Int)) [(0 : Nat)] (255 : Int)) [(1 : Nat)] (IntKind.u8.wrap c)) [(2 : Nat)] (IntKind.u8.wrap o)) [] (0 : Nat) (3 : Nat) ∧ (0 : Int) = (0 : Int) ∧ True) ∧ True) := by kernel_rfl

set_option maxHeartbeats 4000000 in
theorem rt3o (k c o : Int) (b : List UInt8) (cut : Bool) (hb : b.length ≤ 10000) (h : k = 3) (h2 : 251 ≤ c ∧ c ≤ 254) (ho : byN o = true)  :
    RunsTo Tryd.prog 28 [.code (bodyOf Tryd.f28)] (envOf [.agg (.tc (.vi .i64 fun _ => k) (.tc (.vi .i64 fun _ => c) (.tc (.vi .i64 fun _ => o) (.tc (.vs fun _ => b) (.tc (.vb fun _ => cut) .t0)))))] Tryd.f28.ntmps) (Sx.look ([] ++ ([]))) 80 (.tup [(false, .vs fun _ => [255, u8o c, u8o o]), (false, .vi .i64 fun _ => 0)]) (Sx.look ([])) 170 := by
  have hu : IntKind.u8.wrap c = ((u8o c).toNat : Int) := u8o_wr (by rw [byN_T]; omega)
  have hu2 : UInt8.ofNat (IntKind.u8.wrap c).toNat = u8o c := by rw [hu, Int.toNat_natCast, UInt8.ofNat_toNat]
  have hv : IntKind.u8.wrap o = ((u8o o).toNat : Int) := u8o_wr ho
  have hv2 : UInt8.ofNat (IntKind.u8.wrap o).toNat = u8o o := by rw [hv, Int.toNat_natCast, UInt8.ofNat_toNat]
  rw [byN_T] at ho
  have hq3 : bytesOf (upd (upd (upd (fun is => 0) [0] 255) [1] (IntKind.u8.wrap c)) [2] (IntKind.u8.wrap o)) [] 0 3 = [255, u8o c, u8o o] := by rw [← hu2, ← hv2]; rfl
  refine runs_last baseRT (Sx.Ends.of (rt3o_p0 k c o b cut) ⟨?oo, ?rr⟩) (by kernel_rfl) rfl (gtL (by decide)) (by decide)
  case oo =>
    refine (okc ?_ (okc ?_ (okc ?_ (okc ?_ (okc ?_ (okc ?_ (okc ?_ (okc ?_ (okc ?_ okn)))))))))
    all_goals ((try simp (disch := omega) only [SS, hq3]); first | done | omega | assumption | (simp (disch := omega) only [SS, hq3] at *; first | done | omega | assumption) | (simp_all; done))
  case rr =>
    try simp (disch := omega) only [SS, hq3]
    repeat' apply And.intro
    all_goals first | exact True.intro | with_reducible rfl | omega | (intros; first | exact True.intro | with_reducible rfl | omega | (simp_all; done)) | (simp_all; done) | rfl

theorem rt3k_p0 (k c o : Int) (b : List UInt8) (cut : Bool) :
    isEnd (evTill Tryd.prog sumsRT 300 (99) 900 28 [.code (bodyOf Tryd.f28)] (envOf [.agg (.tc (.vi .i64 fun _ => k) (.tc (.vi .i64 fun _ => c) (.tc (.vi .i64 fun _ => o) (.tc (.vs fun _ => b) (.tc (.vb fun _ => cut) .t0)))))] Tryd.f28.ntmps) ([] ++ ([])) ⟨[.s false, .s false, .s false, .s true, .s false, .s false], 80⟩) (endP ([]) (.tup [(false, .vs fun _ => []), (false, .vi .i64 fun _ => 9)]) ([]) 170) =
    (OkL [(k == (1 : Int), false), (k == (1 : Int), false), (k == (2 : Int), false), (k == (3 : Int), true), (decide (c > (250 : Int)), false), (k == (4 : Int), false)] ∧ (([] : List UInt8) = [] ∧ (9 : Int) = (9 : Int) ∧ True) ∧ True) := by kernel_rfl
theorem rt3k_p1 (k c o : Int) (b : List UInt8) (cut : Bool) :
    isEnd (evTill Tryd.prog sumsRT 300 (99) 900 28 [.code (bodyOf Tryd.f28)] (envOf [.agg (.tc (.vi .i64 fun _ => k) (.tc (.vi .i64 fun _ => c) (.tc (.vi .i64 fun _ => o) (.tc (.vs fun _ => b) (.tc (.vb fun _ => cut) .t0)))))] Tryd.f28.ntmps) ([] ++ ([])) ⟨[.s false, .s false, .s false, .s true, .s true, .s false, .s false], 80⟩) (endP ([]) (.tup [(false, .vs fun _ => []), (false, .vi .i64 fun _ => 9)]) ([]) 170) =
    (OkL [(k == (1 : Int), false), (k == (1 : Int), false), (k == (2 : Int), false), (k == (3 : Int), true), (decide (c > (250 : Int)), true), (decide (c < (255 : Int)), false), (k == (4 : Int), false)] ∧ (([] : List UInt8) = [] ∧ (9 : Int) = (9 : Int) ∧ True) ∧ True) := by kernel_rfl

set_option maxHeartbeats 4000000 in
theorem rt3k (k c o : Int) (b : List UInt8) (cut : Bool) (hb : b.length ≤ 10000) (h : k = 3) (h2 : ¬ (251 ≤ c ∧ c ≤ 254))  :
    RunsTo Tryd.prog 28 [.code (bodyOf Tryd.f28)] (envOf [.agg (.tc (.vi .i64 fun _ => k) (.tc (.vi .i64 fun _ => c) (.tc (.vi .i64 fun _ => o) (.tc (.vs fun _ => b) (.tc (.vb fun _ => cut) .t0)))))] Tryd.f28.ntmps) (Sx.look ([] ++ ([]))) 80 (.tup [(false, .vs fun _ => []), (false, .vi .i64 fun _ => 9)]) (Sx.look ([])) 170 := by
  refine bcase (c := (decide (c > (250 : Int)))) (fun gg0 => ?_) (fun gg0 => ?_)
  · refine runs_last baseRT (Sx.Ends.of (rt3k_p0 k c o b cut) ⟨?oo, ?rr⟩) (by kernel_rfl) rfl (gtL (by decide)) (by decide)
    case oo =>
      refine (okc ?_ (okc ?_ (okc ?_ (okc ?_ (okc gg0 (okc ?_ okn))))))
      all_goals ((try simp (disch := omega) only [SS]); first | done | omega | assumption | (simp (disch := omega) only [SS] at *; first | done | omega | assumption) | (simp_all; done))
    case rr =>
      try simp (disch := omega) only [SS]
      repeat' apply And.intro
      all_goals first | exact True.intro | with_reducible rfl | omega | (intros; first | exact True.intro | with_reducible rfl | omega | (simp_all; done)) | (simp_all; done) | rfl
  · refine runs_last baseRT (Sx.Ends.of (rt3k_p1 k c o b cut) ⟨?oo, ?rr⟩) (by kernel_rfl) rfl (gtL (by decide)) (by decide)
    case oo =>
      refine (okc ?_ (okc ?_ (okc ?_ (okc ?_ (okc gg0 (okc ?_ (okc ?_ okn)))))))
      all_goals ((try simp (disch := omega) only [SS]); first | done | omega | assumption | (simp (disch := omega) only [SS] at *; first | done | omega | assumption) | (simp_all; done))
    case rr =>
      try simp (disch := omega) only [SS]
      repeat' apply And.intro
      all_goals first | exact True.intro | with_reducible rfl | omega | (intros; first | exact True.intro | with_reducible rfl | omega | (simp_all; done)) | (simp_all; done) | rfl

theorem rt4r_p0 (k c o : Int) (b : List UInt8) (cut : Bool) :
    isEnd (evTill Tryd.prog sumsRT 300 (99) 900 28 [.code (bodyOf Tryd.f28)] (envOf [.agg (.tc (.vi .i64 fun _ => k) (.tc (.vi .i64 fun _ => c) (.tc (.vi .i64 fun _ => o) (.tc (.vs fun _ => b) (.tc (.vb fun _ => cut) .t0)))))] Tryd.f28.ntmps) ([] ++ ([])) ⟨[.s false, .s false, .s false, .s false, .s true, .s false, .s true], 80⟩) (endP ([]) (.tup [(false, .vs fun _ => []), (false, .vi .i64 fun _ => 1)]) ([]) 170) =
    (OkL [(k == (1 : Int), false), (k == (1 : Int), false), (k == (2 : Int), false), (k == (3 : Int), false), (k == (4 : Int), true), (decide (o < (0 : Int)), false), (decide (o > (255 : Int)), true)] ∧ (([] : List UInt8) = [] ∧ (1 : Int) = (1 : Int) ∧ True) ∧ True) := by kernel_rfl
theorem rt4r_p1 (k c o : Int) (b : List UInt8) (cut : Bool) :
    isEnd (evTill Tryd.prog sumsRT 300 (99) 900 28 [.code (bodyOf Tryd.f28)] (envOf [.agg (.tc (.vi .i64 fun _ => k) (.tc (.vi .i64 fun _ => c) (.tc (.vi .i64 fun _ => o) (.tc (.vs fun _ => b) (.tc (.vb fun _ => cut) .t0)))))] Tryd.f28.ntmps) ([] ++ ([])) ⟨[.s false, .s false, .s false, .s false, .s true, .s true], 80⟩) (endP ([]) (.tup [(false, .vs fun _ => []), (false, .vi .i64 fun _ => 1)]) ([]) 170) =
    (OkL [(k == (1 : Int), false), (k == (1 : Int), false), (k == (2 : Int), false), (k == (3 : Int), false), (k == (4 : Int), true), (decide (o < (0 : Int)), true)] ∧ (([] : List UInt8) = [] ∧ (1 : Int) = (1 : Int) ∧ True) ∧ True) := by kernel_rfl

set_option maxHeartbeats 4000000 in
theorem rt4r (k c o : Int) (b : List UInt8) (cut : Bool) (hb : b.length ≤ 10000) (h : k = 4) (ho : byN o = false)  :
    RunsTo Tryd.prog 28 [.code (bodyOf Tryd.f28)] (envOf [.agg (.tc (.vi .i64 fun _ => k) (.tc (.vi .i64 fun _ => c) (.tc (.vi .i64 fun _ => o) (.tc (.vs fun _ => b) (.tc (.vb fun _ => cut) .t0)))))] Tryd.f28.ntmps) (Sx.look ([] ++ ([]))) 80 (.tup [(false, .vs fun _ => []), (false, .vi .i64 fun _ => 1)]) (Sx.look ([])) 170 := by
  rw [byN_F] at ho
  refine bcase (c := (decide (o < (0 : Int)))) (fun gg0 => ?_) (fun gg0 => ?_)
  · refine runs_last baseRT (Sx.Ends.of (rt4r_p0 k c o b cut) ⟨?oo, ?rr⟩) (by kernel_rfl) rfl (gtL (by decide)) (by decide)
    case oo =>
      refine (okc ?_ (okc ?_ (okc ?_ (okc ?_ (okc ?_ (okc gg0 (okc ?_ okn)))))))
      all_goals ((try simp (disch := omega) only [SS]); first | done | omega | assumption | (simp (disch := omega) only [SS] at *; first | done | omega | assumption) | (simp_all; done))
    case rr =>
      try simp (disch := omega) only [SS]
      repeat' apply And.intro
      all_goals first | exact True.intro | with_reducible rfl | omega | (intros; first | exact True.intro | with_reducible rfl | omega | (simp_all; done)) | (simp_all; done) | rfl
  · refine runs_last baseRT (Sx.Ends.of (rt4r_p1 k c o b cut) ⟨?oo, ?rr⟩) (by kernel_rfl) rfl (gtL (by decide)) (by decide)
    case oo =>
      refine (okc ?_ (okc ?_ (okc ?_ (okc ?_ (okc ?_ (okc gg0 okn))))))
      all_goals ((try simp (disch := omega) only [SS]); first | done | omega | assumption | (simp (disch := omega) only [SS] at *; first | done | omega | assumption) | (simp_all; done))
    case rr =>
      try simp (disch := omega) only [SS]
      repeat' apply And.intro
      all_goals first | exact True.intro | with_reducible rfl | omega | (intros; first | exact True.intro | with_reducible rfl | omega | (simp_all; done)) | (simp_all; done) | rfl

theorem rt4l_p0 (k c o : Int) (b : List UInt8) (cut : Bool) :
    isEnd (evTill Tryd.prog sumsRT 300 (99) 900 28 [.code (bodyOf Tryd.f28)] (envOf [.agg (.tc (.vi .i64 fun _ => k) (.tc (.vi .i64 fun _ => c) (.tc (.vi .i64 fun _ => o) (.tc (.vs fun _ => b) (.tc (.vb fun _ => cut) .t0)))))] Tryd.f28.ntmps) ([] ++ ([])) ⟨[.s false, .s false, .s false, .s false, .s true, .s false, .s false, .s false, .s false, .s true], 80⟩) (endP ([]) (.tup [(false, .vs fun _ => []), (false, .vi .i64 fun _ => 4)]) ([]) 170) =
    (OkL [(k == (1 : Int), false), (k == (1 : Int), false), (k == (2 : Int), false), (k == (3 : Int), false), (k == (4 : Int), true), (decide (o < (0 : Int)), false), (decide (o > (255 : Int)), false), (k == (3 : Int), false), (cut, false), (decide ((↑b.length : Int) > (256 : Int)), true)] ∧ (([] : List UInt8) = [] ∧ (4 : Int) = (4 : Int) ∧ True) ∧ True) := by kernel_rfl
theorem rt4l_p1 (k c o : Int) (b : List UInt8) (cut : Bool) :
    isEnd (evTill Tryd.prog sumsRT 300 (99) 900 28 [.code (bodyOf Tryd.f28)] (envOf [.agg (.tc (.vi .i64 fun _ => k) (.tc (.vi .i64 fun _ => c) (.tc (.vi .i64 fun _ => o) (.tc (.vs fun _ => b) (.tc (.vb fun _ => cut) .t0)))))] Tryd.f28.ntmps) ([] ++ ([])) ⟨[.s false, .s false, .s false, .s false, .s true, .s false, .s false, .s false, .s true], 80⟩) (endP ([]) (.tup [(false, .vs fun _ => []), (false, .vi .i64 fun _ => 4)]) ([]) 170) =
    (OkL [(k == (1 : Int), false), (k == (1 : Int), false), (k == (2 : Int), false), (k == (3 : Int), false), (k == (4 : Int), true), (decide (o < (0 : Int)), false), (decide (o > (255 : Int)), false), (k == (3 : Int), false), (cut, true)] ∧ (([] : List UInt8) = [] ∧ (4 : Int) = (4 : Int) ∧ True) ∧ True) := by kernel_rfl

set_option maxHeartbeats 4000000 in
theorem rt4l (k c o : Int) (b : List UInt8) (cut : Bool) (hb : b.length ≤ 10000) (h : k = 4) (ho : byN o = true) (hl : 256 < b.length)  :
    RunsTo Tryd.prog 28 [.code (bodyOf Tryd.f28)] (envOf [.agg (.tc (.vi .i64 fun _ => k) (.tc (.vi .i64 fun _ => c) (.tc (.vi .i64 fun _ => o) (.tc (.vs fun _ => b) (.tc (.vb fun _ => cut) .t0)))))] Tryd.f28.ntmps) (Sx.look ([] ++ ([]))) 80 (.tup [(false, .vs fun _ => []), (false, .vi .i64 fun _ => 4)]) (Sx.look ([])) 170 := by
  rw [byN_T] at ho
  refine bcase (c := (cut)) (fun gg0 => ?_) (fun gg0 => ?_)
  · refine runs_last baseRT (Sx.Ends.of (rt4l_p0 k c o b cut) ⟨?oo, ?rr⟩) (by kernel_rfl) rfl (gtL (by decide)) (by decide)
    case oo =>
      refine (okc ?_ (okc ?_ (okc ?_ (okc ?_ (okc ?_ (okc ?_ (okc ?_ (okc ?_ (okc gg0 (okc ?_ okn))))))))))
      all_goals ((try simp (disch := omega) only [SS]); first | done | omega | assumption | (simp (disch := omega) only [SS] at *; first | done | omega | assumption) | (simp_all; done))
    case rr =>
      try simp (disch := omega) only [SS]
      repeat' apply And.intro
      all_goals first | exact True.intro | with_reducible rfl | omega | (intros; first | exact True.intro | with_reducible rfl | omega | (simp_all; done)) | (simp_all; done) | rfl
  · refine runs_last baseRT (Sx.Ends.of (rt4l_p1 k c o b cut) ⟨?oo, ?rr⟩) (by kernel_rfl) rfl (gtL (by decide)) (by decide)
    case oo =>
      refine (okc ?_ (okc ?_ (okc ?_ (okc ?_ (okc ?_ (okc ?_ (okc ?_ (okc ?_ (okc gg0 okn)))))))))
      all_goals ((try simp (disch := omega) only [SS]); first | done | omega | assumption | (simp (disch := omega) only [SS] at *; first | done | omega | assumption) | (simp_all; done))
    case rr =>
      try simp (disch := omega) only [SS]
      repeat' apply And.intro
      all_goals first | exact True.intro | with_reducible rfl | omega | (intros; first | exact True.intro | with_reducible rfl | omega | (simp_all; done)) | (simp_all; done) | rfl

theorem rt4c_p0 (k c o : Int) (b : List UInt8) (cut : Bool) :
    isEnd (evTill Tryd.prog sumsRT 300 (99) 900 28 [.code (bodyOf Tryd.f28)] (envOf [.agg (.tc (.vi .i64 fun _ => k) (.tc (.vi .i64 fun _ => c) (.tc (.vi .i64 fun _ => o) (.tc (.vs fun _ => b) (.tc (.vb fun _ => cut) .t0)))))] Tryd.f28.ntmps) ([] ++ ([])) ⟨[.s false, .s false, .s false, .s false, .s true, .s false, .s false, .s false, .s true], 80⟩) (endP ([]) (.tup [(false, .vs fun _ => []), (false, .vi .i64 fun _ => 4)]) ([]) 170) =
    (OkL [(k == (1 : Int), false), (k == (1 : Int), false), (k == (2 : Int), false), (k == (3 : Int), false), (k == (4 : Int), true), (decide (o < (0 : Int)), false), (decide (o > (255 : Int)), false), (k == (3 : Int), false), (cut, true)] ∧ (([] : List UInt8) = [] ∧ (4 : Int) = (4 : Int) ∧ True) ∧ True) := by kernel_rfl

set_option maxHeartbeats 4000000 in
theorem rt4c (k c o : Int) (b : List UInt8) (cut : Bool) (hb : b.length ≤ 10000) (h : k = 4) (ho : byN o = true) (hl : b.length ≤ 256) (hc : cut = true)  :
    RunsTo Tryd.prog 28 [.code (bodyOf Tryd.f28)] (envOf [.agg (.tc (.vi .i64 fun _ => k) (.tc (.vi .i64 fun _ => c) (.tc (.vi .i64 fun _ => o) (.tc (.vs fun _ => b) (.tc (.vb fun _ => cut) .t0)))))] Tryd.f28.ntmps) (Sx.look ([] ++ ([]))) 80 (.tup [(false, .vs fun _ => []), (false, .vi .i64 fun _ => 4)]) (Sx.look ([])) 170 := by
  rw [byN_T] at ho
  refine runs_last baseRT (Sx.Ends.of (rt4c_p0 k c o b cut) ⟨?oo, ?rr⟩) (by kernel_rfl) rfl (gtL (by decide)) (by decide)
  case oo =>
    refine (okc ?_ (okc ?_ (okc ?_ (okc ?_ (okc ?_ (okc ?_ (okc ?_ (okc ?_ (okc ?_ okn)))))))))
    all_goals ((try simp (disch := omega) only [SS, hc]); first | done | omega | assumption | (simp (disch := omega) only [SS, hc] at *; first | done | omega | assumption) | (simp_all; done))
  case rr =>
    try simp (disch := omega) only [SS, hc]
    repeat' apply And.intro
    all_goals first | exact True.intro | with_reducible rfl | omega | (intros; first | exact True.intro | with_reducible rfl | omega | (simp_all; done)) | (simp_all; done) | rfl

theorem rt4o_p0 (k c o : Int) (b : List UInt8) (cut : Bool) :
    isEnd (evTill Tryd.prog sumsRT 300 (99) 900 28 [.code (bodyOf Tryd.f28)] (envOf [.agg (.tc (.vi .i64 fun _ => k) (.tc (.vi .i64 fun _ => c) (.tc (.vi .i64 fun _ => o) (.tc (.vs fun _ => b) (.tc (.vb fun _ => cut) .t0)))))] Tryd.f28.ntmps) ([] ++ ([])) ⟨[.s false, .s false, .s false, .s false, .s true, .s false, .s false, .s false, .s false, .s false, .t, .s true, .s true, .s true], 80⟩) (endP ([]) (.tup [(false, .vs fun _ => [255, 250, u8o o] ++ dbl b ++ [255, 240]), (false, .vi .i64 fun _ => 0)]) ([]) 170) =
    (OkL [(k == (1 : Int), false), (k == (1 : Int), false), (k == (2 : Int), false), (k == (3 : Int), false), (k == (4 : Int), true), (decide (o < (0 : Int)), false), (decide (o > (255 : Int)), false), (k == (3 : Int), false), (cut, false), (decide ((↑b.length : Int) > (256 : Int)), false), (decide (b.length ≤ (100000 : Nat)), true), (decide ((bytesOf (upd (upd (upd (fun is => (0 : Int)) [(0 : Nat)] (255 : Int)) [(1 : Nat)] (250 : Int)) [(2 : Nat)] (IntKind.u8.wrap o)) [] (0 : Nat) (3 : Nat)).length + (dbl b).length ≤ (9223372036854775807 : Nat)), true), (decide ((bytesOf (upd (upd (upd (fun is => (0 : Int)) [(0 : Nat)] (255 : Int)) [(1 : Nat)] (250 : Int)) [(2 : Nat)] (IntKind.u8.wrap o)) [] (0 : Nat) (3 : Nat) ++ dbl b).length + (2 : Nat) ≤ (9223372036854775807 : Nat)), true)] ∧ ([(255 : UInt8), (250 : UInt8), u8o o] ++ dbl b ++ [(255 : UInt8), (240 : UInt8)] = bytesOf (upd (upd (upd (fun is => (0 : Int)) [(0 : Nat)] (255 : Int)) [(1 : Nat)] (250 : Int)) [(2 : Nat)] (IntKind.u8.wrap o)) [] (0 : Nat) (3 : Nat) ++ dbl b ++ [(255 : UInt8), (240 : UInt8)] ∧ (0 : Int) = (0 : Int) ∧ True) ∧ True) := by kernel_rfl

set_option maxHeartbeats 4000000 in
theorem rt4o (k c o : Int) (b : List UInt8) (cut : Bool) (hb : b.length ≤ 10000) (h : k = 4) (ho : byN o = true) (hl : b.length ≤ 256) (hc : cut = false)  :
    RunsTo Tryd.prog 28 [.code (bodyOf Tryd.f28)] (envOf [.agg (.tc (.vi .i64 fun _ => k) (.tc (.vi .i64 fun _ => c) (.tc (.vi .i64 fun _ => o) (.tc (.vs fun _ => b) (.tc (.vb fun _ => cut) .t0)))))] Tryd.f28.ntmps) (Sx.look ([] ++ ([]))) 80 (.tup [(false, .vs fun _ => [255, 250, u8o o] ++ dbl b ++ [255, 240]), (false, .vi .i64 fun _ => 0)]) (Sx.look ([])) 170 := by
  have hv : IntKind.u8.wrap o = ((u8o o).toNat : Int) := u8o_wr ho
  have hv2 : UInt8.ofNat (IntKind.u8.wrap o).toNat = u8o o := by rw [hv, Int.toNat_natCast, UInt8.ofNat_toNat]
  rw [byN_T] at ho
  have hdl : (dbl b).length ≤ 512 := by have a := dbl_len b; have c := cnt5_le b; omega
  have hq4 : bytesOf (upd (upd (upd (fun is => 0) [0] 255) [1] 250) [2] (IntKind.u8.wrap o)) [] 0 3 = [255, 250, u8o o] := by rw [← hv2]; rfl
  refine runs_last baseRT (Sx.Ends.of (rt4o_p0 k c o b cut) ⟨?oo, ?rr⟩) (by kernel_rfl) rfl (gtL (by decide)) (by decide)
  case oo =>
    refine (okc ?_ (okc ?_ (okc ?_ (okc ?_ (okc ?_ (okc ?_ (okc ?_ (okc ?_ (okc ?_ (okc ?_ (okc ?_ (okc ?_ (okc ?_ okn)))))))))))))
    all_goals first | omega | (simp_all; done) | (simp_all; omega)
  case rr =>
    try simp (disch := omega) only [SS, hq4, hc]
    repeat' apply And.intro
    all_goals first | exact True.intro | with_reducible rfl | omega | (intros; first | exact True.intro | with_reducible rfl | omega | (simp_all; done)) | (simp_all; done) | rfl

theorem rt5_p0 (k c o : Int) (b : List UInt8) (cut : Bool) :
    isEnd (evTill Tryd.prog sumsRT 300 (99) 900 28 [.code (bodyOf Tryd.f28)] (envOf [.agg (.tc (.vi .i64 fun _ => k) (.tc (.vi .i64 fun _ => c) (.tc (.vi .i64 fun _ => o) (.tc (.vs fun _ => b) (.tc (.vb fun _ => cut) .t0)))))] Tryd.f28.ntmps) ([] ++ ([])) ⟨[.s false, .s false, .s false, .s false, .s false], 80⟩) (endP ([]) (.tup [(false, .vs fun _ => []), (false, .vi .i64 fun _ => 9)]) ([]) 170) =
    (OkL [(k == (1 : Int), false), (k == (1 : Int), false), (k == (2 : Int), false), (k == (3 : Int), false), (k == (4 : Int), false)] ∧ (([] : List UInt8) = [] ∧ (9 : Int) = (9 : Int) ∧ True) ∧ True) := by kernel_rfl

set_option maxHeartbeats 4000000 in
theorem rt5 (k c o : Int) (b : List UInt8) (cut : Bool) (hb : b.length ≤ 10000) (h1 : k ≠ 1) (h2 : k ≠ 2) (h3 : k ≠ 3) (h4 : k ≠ 4)  :
    RunsTo Tryd.prog 28 [.code (bodyOf Tryd.f28)] (envOf [.agg (.tc (.vi .i64 fun _ => k) (.tc (.vi .i64 fun _ => c) (.tc (.vi .i64 fun _ => o) (.tc (.vs fun _ => b) (.tc (.vb fun _ => cut) .t0)))))] Tryd.f28.ntmps) (Sx.look ([] ++ ([]))) 80 (.tup [(false, .vs fun _ => []), (false, .vi .i64 fun _ => 9)]) (Sx.look ([])) 170 := by
  refine runs_last baseRT (Sx.Ends.of (rt5_p0 k c o b cut) ⟨?oo, ?rr⟩) (by kernel_rfl) rfl (gtL (by decide)) (by decide)
  case oo =>
    refine (okc ?_ (okc ?_ (okc ?_ (okc ?_ (okc ?_ okn)))))
    all_goals ((try simp (disch := omega) only [SS]); first | done | omega | assumption | (simp (disch := omega) only [SS] at *; first | done | omega | assumption) | (simp_all; done))
  case rr =>
    try simp (disch := omega) only [SS]
    repeat' apply And.intro
    all_goals first | exact True.intro | with_reducible rfl | omega | (intros; first | exact True.intro | with_reducible rfl | omega | (simp_all; done)) | (simp_all; done) | rfl

theorem rtI (k c o : Int) (b : List UInt8) (cut : Bool) (hb : b.length ≤ 10000) : RunsTo Tryd.prog 28 [.code (bodyOf Tryd.f28)] (envOf [.agg (.tc (.vi .i64 fun _ => k) (.tc (.vi .i64 fun _ => c) (.tc (.vi .i64 fun _ => o) (.tc (.vs fun _ => b) (.tc (.vb fun _ => cut) .t0)))))] Tryd.f28.ntmps) (Sx.look ([] ++ ([]))) 80 (.tup [(false, .vs fun _ => tkrS k c o b cut), (false, .vi .i64 fun _ => tkrN k c o b cut)]) (Sx.look []) 170 := by
  unfold tkrS tkrN tkR
  by_cases h1 : k = 1
  · rw [if_pos h1]
    cases hc : byN c with
    | false => rw [if_pos rfl]; exact rt1r k c o b cut hb h1 hc
    | true => rw [if_neg (by decide)]; exact rt1o k c o b cut hb h1 hc
  rw [if_neg h1]
  by_cases h2 : k = 2
  · rw [if_pos h2]
    unfold plR
    by_cases hc : 241 ≤ c ∧ c ≤ 249
    · rw [if_pos hc]; exact rt2o k c o b cut hb h2 hc
    · rw [if_neg hc]; exact rt2k k c o b cut hb h2 hc
  rw [if_neg h2]
  by_cases h3 : k = 3
  · rw [if_pos h3]
    unfold vbR
    by_cases hc : 251 ≤ c ∧ c ≤ 254
    · rw [if_neg (fun e => e hc)]
      cases ho : byN o with
      | false => rw [if_pos rfl]; exact rt3r k c o b cut hb h3 hc ho
      | true => rw [if_neg (by decide)]; exact rt3o k c o b cut hb h3 hc ho
    · rw [if_pos hc]; exact rt3k k c o b cut hb h3 hc
  rw [if_neg h3]
  by_cases h4 : k = 4
  · rw [if_pos h4]
    unfold sbR
    cases ho : byN o with
    | false => rw [if_pos rfl]; exact rt4r k c o b cut hb h4 ho
    | true =>
      rw [if_neg (by decide)]
      by_cases hN : 256 < b.length
      · rw [if_pos hN]; exact rt4l k c o b cut hb h4 ho hN
      · rw [if_neg hN]
        cases cut with
        | true => exact rt4c k c o b true hb h4 ho (by omega) rfl
        | false => exact rt4o k c o b false hb h4 ho (by omega) rfl
  rw [if_neg h4]; exact rt5 k c o b cut hb h1 h2 h3 h4
def rtP : PC := { args := [.agg (.tc (.vi .i64 0) (.tc (.vi .i64 1) (.tc (.vi .i64 2) (.tc (.vs 3) (.tc (.vb 4) .t0)))))], heap := [], gs := [], G := 19, tp := 144, n := 80, n' := 170, cond := fun e => decide ((eS e 3 []).length ≤ 10000), v := fun e => .tup [(false, .vs fun _ => tkrS (eI e 0 []) (eI e 1 []) (eI e 2 []) (eS e 3 []) (eB e 4 [])), (false, .vi .i64 fun _ => tkrN (eI e 0 []) (eI e 1 []) (eI e 2 []) (eS e 3 []) (eB e 4 []))], post := fun e => [] }
theorem rtP_pc : PC.Runs Tryd.prog 28 Tryd.f28 (bodyOf Tryd.f28) rtP := ⟨Tryd.func28, by kernel_rfl, (fun g hg => by first | (cases hg; done) | (revert g; show ∀ g ∈ ([] : List Nat), g < 19; decide)), fun e H hc => by
  have hc : (decide ((eS e 3 []).length ≤ 10000)) = true := hc
  try simp only [Bool.and_eq_true, decide_eq_true_eq, Nat.beq_eq] at hc
  exact rtI (eI e 0 []) (eI e 1 []) (eI e 2 []) (eS e 3 []) (eB e 4 []) hc⟩
def sumsA6 : List (FuncId × Summ) := [(23, dtP.summ 38)]
theorem baseA6 : Base0 Tryd.prog sumsA6 := (baseO.cons Tryd.func23 (by kernel_rfl) (PC.summ_ok dtP_pc gtopG))
theorem a6I_p0 (t1 t2 : List UInt8) :
    isEnd (evTill Tryd.prog sumsA6 300 (99) 900 22 [.code (bodyOf Tryd.f22)] (envOf [] Tryd.f22.ntmps) (sentEnts 19 144 [(1, t1), (2, t2)] ++ ([])) ⟨[.t, .f, .t, .f, .t, .t, .t, .t, .t], 80⟩) (endP ([]) (YES) ([]) 600) =
    (OkL [] ∧ true = true ∧ True) := by kernel_rfl

set_option maxHeartbeats 4000000 in
theorem a6I (t1 t2 : List UInt8)  :
    RunsTo Tryd.prog 22 [.code (bodyOf Tryd.f22)] (envOf [] Tryd.f22.ntmps) (Sx.look (sentEnts 19 144 [(1, t1), (2, t2)] ++ ([]))) 80 (YES) (Sx.look ([])) 600 := by
  refine runs_last baseA6 (Sx.Ends.of (a6I_p0 t1 t2) ⟨?oo, ?rr⟩) (by kernel_rfl) rfl (gtL (by decide)) (by decide)
  case oo =>
    refine okn
    all_goals first | omega | rfl | (simp [bndB, upd, List.range_succ]; done) | (simp_all; done)
  case rr =>
    try simp (disch := omega) only [SS]
    repeat' apply And.intro
    all_goals first | exact True.intro | with_reducible rfl | omega | (intros; first | exact True.intro | with_reducible rfl | omega | (simp_all; done)) | (simp_all; done) | rfl

def a6P : PC := { args := [], heap := [], gs := [1, 2], G := 19, tp := 144, n := 80, n' := 600, cond := fun e => true, v := fun e => YES, post := fun e => [] }
theorem a6P_pc : PC.Runs Tryd.prog 22 Tryd.f22 (bodyOf Tryd.f22) a6P := ⟨Tryd.func22, by kernel_rfl, (fun g hg => by first | (cases hg; done) | (revert g; show ∀ g ∈ ([1, 2] : List Nat), g < 19; decide)), fun e H hc => by
  have hc : (true) = true := hc
  try simp only [Bool.and_eq_true, decide_eq_true_eq, Nat.beq_eq] at hc
  exact a6I (textAt2 H (19 + 1)) (textAt2 H (19 + 2))⟩
end Go.Proofs.YtcphocfnhekdaaaDoor

