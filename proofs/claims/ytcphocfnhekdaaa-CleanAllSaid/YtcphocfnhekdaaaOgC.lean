/- Cleaning: marks, flags, data, and what is the same. -/
import Derived.Test.YtcphocfnhekdaaaOcC
import Derived.Test.YtcphocfnhekdaaaOfC
set_option linter.unusedSimpArgs false
set_option linter.unusedVariables false
set_option maxRecDepth 100000
namespace Go.Proofs.Ytcphocfnhekdaaa
open Go.Sx

open CleanR
/-- The row of marks behind the first j. -/
def mkS (U : Ix → Int) (n : Nat) : Nat → Ix → Bool
  | 0 => fun _ => false
  | j + 1 => if 0 ≤ U [j] ∧ U [j] < (n : Int) then upd (mkS U n j) [(U [j]).toNat] true else mkS U n j
def dataT (T : List Tok) : Nat → List UInt8
  | 0 => []
  | n + 1 => if (T.getD n z0).kind = 1 then dataT T n ++ [UInt8.ofNat (T.getD n z0).code] else dataT T n
def dataL (K C : Ix → Int) : Nat → List UInt8
  | 0 => []
  | n + 1 => if K [n] = 1 then dataL K C n ++ [UInt8.ofNat (C [n]).toNat] else dataL K C n
def cdB (K C : Ix → Int) (N : Nat) : Bool := (List.range N).all fun i => decide (K [i] ≠ 1 ∨ (0 ≤ C [i] ∧ C [i] < 256))
def inG (B : Ix → Int) (N i : Nat) : Ix → Int := fun is => if is.headD 0 < N then B [is.headD 0] else if is.headD 0 < N + i then 90 else 0
def dR (l N : Nat) (K C O : Ix → Int) (S : Ix → List UInt8) (CU : Ix → Bool) : List Ent := [⟨l, false, none, 5, .ta N (.tc (.vi .i64 K) (.tc (.vi .i64 C) (.tc (.vi .i64 O) (.tc (.vs S) (.tc (.vb CU) .t0)))))⟩]
def pR (l f N : Nat) (K C O : Ix → Int) (m n : Ix → Nat) (CU : Ix → Bool) : List Ent := [⟨l, false, none, 5, .ta N (.tc (.vi .i64 K) (.tc (.vi .i64 C) (.tc (.vi .i64 O) (.tc (.vl f m 1 [] n) (.tc (.vb CU) .t0)))))⟩]
def pF (f R : Nat) (ls : Nat → Nat) (F : Ix → Int) : List Ent := [⟨f, false, some (R, ls), 1, .vi .u8 F⟩]
def eqC (N R : Nat) (K C O : Ix → Int) (m n : Ix → Nat) (CU : Ix → Bool) (ls : Nat → Nat) (F : Ix → Int) (K2 C2 O2 : Ix → Int) (S : Ix → List UInt8) (CU2 : Ix → Bool) (i : Nat) : Prop :=
  K [i] = K2 [i] ∧ C [i] = C2 [i] ∧ O [i] = O2 [i] ∧ bytesOf F [m [i]] 0 (n [i]) = S [i] ∧ CU [i] = CU2 [i] ∧ m [i] < R ∧ n [i] = ls (m [i]) ∧ n [i] ≤ 1000
instance (N R : Nat) (K C O : Ix → Int) (m n : Ix → Nat) (CU : Ix → Bool) (ls : Nat → Nat) (F : Ix → Int) (K2 C2 O2 : Ix → Int) (S : Ix → List UInt8) (CU2 : Ix → Bool) (i : Nat) : Decidable (eqC N R K C O m n CU ls F K2 C2 O2 S CU2 i) := by unfold eqC; infer_instance
def eqB (N R : Nat) (K C O : Ix → Int) (m n : Ix → Nat) (CU : Ix → Bool) (ls : Nat → Nat) (F : Ix → Int) (K2 C2 O2 : Ix → Int) (S : Ix → List UInt8) (CU2 : Ix → Bool) : Bool := (List.range N).all fun i => decide (eqC N R K C O m n CU ls F K2 C2 O2 S CU2 i)
theorem all_ok {N : Nat} {p : Nat → Bool} (h : (List.range N).all p = true) {i : Nat} (hi : i < N) : p i = true := List.all_eq_true.1 h i (List.mem_range.2 hi)
theorem inG_at (B : Ix → Int) (N i k : Nat) : inG B N i [k] = if k < N then B [k] else if k < N + i then 90 else 0 := rfl
theorem inG_0 (B : Ix → Int) (N k : Nat) : inG B N 0 [k] = cpyF N 0 (fun is => 0) (fun js => B (subIx 0 js)) [k] := by
  rw [inG_at]
  simp only [cpyF, subIx, Nat.zero_add, Nat.sub_zero, Nat.add_zero, Nat.zero_le, true_and]
  by_cases h : k < N
  · rw [if_pos h, if_pos h]
  · rw [if_neg h, if_neg h, if_neg h]
theorem inG_step (B : Ix → Int) (N i : Nat) (k : Nat) : inG B N (i + 1) [k] = upd (inG B N i) [N + i] 90 [k] := by
  simp only [upd, List.cons.injEq, and_true]
  rw [inG_at, inG_at]
  by_cases h : k < N
  · rw [if_pos h, if_neg (show ¬ k = N + i by omega), if_pos h]
  · rw [if_neg h]
    by_cases h2 : k = N + i
    · subst h2; rw [if_pos (show N + i < N + (i + 1) by omega), if_pos rfl]
    · rw [if_neg h2, if_neg h]
      by_cases h3 : k < N + i
      · rw [if_pos h3, if_pos (show k < N + (i + 1) by omega)]
      · rw [if_neg h3, if_neg (show ¬ k < N + (i + 1) by omega)]
theorem mkStart_p0 (Q n : Nat) (U : Ix → Int) :
    isMore (evTill Try.prog [] 300 (behind Try.f9 0) 900 9 [.code (bodyOf Try.f9)] (envOf [vN n, vL 61 1 Q] Try.f9.ntmps) (rI 61 Q U ++ ([])) ⟨[.s true, .s true], 80⟩) (moreP (headOf Try.f9 0) ([((101 : Nat), Rn.to (80 : Nat))]) Try.f9.ntmps ([(0, vN n), (5, vL 101 1 n), (10, vL 61 1 Q), (11, vN Q), (12, vN (0 : Nat))]) (wbE 101 n (fun _ => false)) 160) =
    (OkL [(decide ((0 : Int) ≤ (↑n : Int) ∧ (↑n : Int) ≤ (↑n : Int)), true), (decide ((↑(1 : Nat) : Int) * (↑n : Int) ≤ (281474976710656 : Int)), true)] ∧ headOf Try.f9 (0 : Nat) = headOf Try.f9 (0 : Nat) ∧ ((↑n : Int) = (↑n : Int) ∧ ((0 : Nat) = (0 : Nat) ∧ n = (↑n : Int).toNat) ∧ ((0 : Nat) = (0 : Nat) ∧ Q = Q) ∧ (↑Q : Int) = (↑Q : Int) ∧ (↑(0 : Nat) : Int) = (0 : Int)) ∧ n = (↑n : Int).toNat ∧ ∀ (i : Nat), i < n → false = false) := by kernel_rfl

set_option maxHeartbeats 4000000 in
theorem mkStart (Q n : Nat) (U : Ix → Int) (hn : n ≤ 1000)  (v : SV) (L' : HF) (next : RunsTo Try.prog 9 (headOf Try.f9 0) (envAt Try.f9.ntmps ([(0, vN n), (5, vL 101 1 n), (10, vL 61 1 Q), (11, vN Q), (12, vN (0 : Nat))])) (Sx.look (rI 61 Q U ++ (wbE 101 n (fun _ => false)))) 80 (v) (L') 160) :
    RunsTo Try.prog 9 [.code (bodyOf Try.f9)] (envOf [vN n, vL 61 1 Q] Try.f9.ntmps) (Sx.look (rI 61 Q U ++ ([]))) 80 (v) (L') 160 := by
  refine runs_more baseO (More.of (mkStart_p0 Q n U) ⟨?oo, rfl, ?rr⟩) (by kernel_rfl) (by kernel_rfl) rfl (gtL (by decide)) (by decide) next
  case oo =>
    clear next
    refine (okc ?_ (okc ?_ okn))
    all_goals ((try simp (disch := omega) only [SS]); first | done | omega | assumption | (simp (disch := omega) only [SS] at *; first | done | omega | assumption) | (simp_all; done))
  case rr =>
    clear next
    try simp (disch := omega) only [SS]
    repeat' apply And.intro
    all_goals first | exact True.intro | with_reducible rfl | omega | (intros; first | exact True.intro | with_reducible rfl | omega | (simp_all; done)) | (simp_all; done) | rfl

theorem mkIn_p0 (Q n : Nat) (U : Ix → Int) (S : Ix → Bool) (j : Nat) :
    isMore (evTill Try.prog [] 300 (behind Try.f9 0) 900 9 (headOf Try.f9 0) (envAt Try.f9.ntmps ([(0, vN n), (5, vL 101 1 n), (10, vL 61 1 Q), (11, vN Q), (12, vN (j : Nat))])) (rI 61 Q U ++ (wbE 101 n (S))) ⟨[.s true, .s true, .s true, .s true, .s true, .s true, .s true, .s true, .s true], 120⟩) (moreP (headOf Try.f9 0) ([]) Try.f9.ntmps ([(0, vN n), (5, vL 101 1 n), (10, vL 61 1 Q), (11, vN Q), (12, vN (j + 1 : Nat))]) (wbE 101 n (upd S [(U [j]).toNat] true)) 160) =
    (OkL [(decide ((↑j : Int) < (↑Q : Int)), true), (decide ((0 : Int) ≤ (↑j : Int) ∧ (↑j : Int) < (↑Q : Int)), true), (((0 : Nat) + (↑j : Int).toNat).blt Q, true), (((0 : Nat) + (↑j : Int).toNat).blt Q, true), (decide (U [(0 : Nat) + (↑j : Int).toNat] ≥ (0 : Int)), true), (decide (U [(0 : Nat) + (↑j : Int).toNat] < (↑n : Int)), true), (decide ((0 : Int) ≤ U [(0 : Nat) + (↑j : Int).toNat] ∧ U [(0 : Nat) + (↑j : Int).toNat] < (↑n : Int)), true), (((0 : Nat) + (U [(0 : Nat) + (↑j : Int).toNat]).toNat).blt n, true), (((0 : Nat) + (U [(0 : Nat) + (↑j : Int).toNat]).toNat).blt n, true)] ∧ headOf Try.f9 (0 : Nat) = headOf Try.f9 (0 : Nat) ∧ ((↑n : Int) = (↑n : Int) ∧ ((0 : Nat) = (0 : Nat) ∧ n = n) ∧ ((0 : Nat) = (0 : Nat) ∧ Q = Q) ∧ (↑Q : Int) = (↑Q : Int) ∧ (↑(j + (1 : Nat)) : Int) = IntKind.i64.wrap ((↑j : Int) + (1 : Int))) ∧ n = n ∧ ∀ (i : Nat), i < n → upd S [(U [j]).toNat] true [i] = upd S [(0 : Nat) + (U [(0 : Nat) + (↑j : Int).toNat]).toNat] true [i]) := by kernel_rfl

set_option maxHeartbeats 4000000 in
theorem mkIn (Q n : Nat) (U : Ix → Int) (S : Ix → Bool) (j : Nat) (hj : j < Q) (hQ : Q ≤ 1000) (h : 0 ≤ U [j] ∧ U [j] < (n : Int))  (v : SV) (L' : HF) (next : RunsTo Try.prog 9 (headOf Try.f9 0) (envAt Try.f9.ntmps ([(0, vN n), (5, vL 101 1 n), (10, vL 61 1 Q), (11, vN Q), (12, vN (j + 1 : Nat))])) (Sx.look (rI 61 Q U ++ (wbE 101 n (upd S [(U [j]).toNat] true)))) 80 (v) (L') 160) :
    RunsTo Try.prog 9 (headOf Try.f9 0) (envAt Try.f9.ntmps ([(0, vN n), (5, vL 101 1 n), (10, vL 61 1 Q), (11, vN Q), (12, vN (j : Nat))])) (Sx.look (rI 61 Q U ++ (wbE 101 n (S)))) 80 (v) (L') 160 := by
  have hw : IntKind.i64.wrap ((j : Int) + 1) = ((j + 1 : Nat) : Int) := by rw [wr64 (by omega)]; rfl
  refine runs_more baseO (More.of (mkIn_p0 Q n U S j) ⟨?oo, rfl, ?rr⟩) (by kernel_rfl) (by kernel_rfl) rfl (gtL (by decide)) (by decide) next
  case oo =>
    clear next
    refine (okc ?_ (okc ?_ (okc ?_ (okc ?_ (okc ?_ (okc ?_ (okc ?_ (okc ?_ (okc ?_ okn)))))))))
    all_goals ((try simp (disch := omega) only [SS, hw, Go.Sx.sum, Nat.zero_add]); first | done | omega | assumption | (simp (disch := omega) only [SS, hw, Go.Sx.sum, Nat.zero_add] at *; first | done | omega | assumption) | (simp_all; done))
  case rr =>
    clear next
    try simp (disch := omega) only [SS, hw, Go.Sx.sum, Nat.zero_add]
    repeat' apply And.intro
    all_goals first | exact True.intro | with_reducible rfl | omega | (intros; first | exact True.intro | with_reducible rfl | omega | (simp_all; done)) | (simp_all; done) | rfl

theorem mkOut_p0 (Q n : Nat) (U : Ix → Int) (S : Ix → Bool) (j : Nat) :
    isMore (evTill Try.prog [] 300 (behind Try.f9 0) 900 9 (headOf Try.f9 0) (envAt Try.f9.ntmps ([(0, vN n), (5, vL 101 1 n), (10, vL 61 1 Q), (11, vN Q), (12, vN (j : Nat))])) (rI 61 Q U ++ (wbE 101 n (S))) ⟨[.s true, .s true, .s true, .s true, .s false], 120⟩) (moreP (headOf Try.f9 0) ([]) Try.f9.ntmps ([(0, vN n), (5, vL 101 1 n), (10, vL 61 1 Q), (11, vN Q), (12, vN (j + 1 : Nat))]) (wbE 101 n (S)) 160) =
    (OkL [(decide ((↑j : Int) < (↑Q : Int)), true), (decide ((0 : Int) ≤ (↑j : Int) ∧ (↑j : Int) < (↑Q : Int)), true), (((0 : Nat) + (↑j : Int).toNat).blt Q, true), (((0 : Nat) + (↑j : Int).toNat).blt Q, true), (decide (U [(0 : Nat) + (↑j : Int).toNat] ≥ (0 : Int)), false)] ∧ headOf Try.f9 (0 : Nat) = headOf Try.f9 (0 : Nat) ∧ ((↑n : Int) = (↑n : Int) ∧ ((0 : Nat) = (0 : Nat) ∧ n = n) ∧ ((0 : Nat) = (0 : Nat) ∧ Q = Q) ∧ (↑Q : Int) = (↑Q : Int) ∧ (↑(j + (1 : Nat)) : Int) = IntKind.i64.wrap ((↑j : Int) + (1 : Int))) ∧ n = n ∧ ∀ (i : Nat), i < n → S [i] = S [i]) := by kernel_rfl
theorem mkOut_p1 (Q n : Nat) (U : Ix → Int) (S : Ix → Bool) (j : Nat) :
    isMore (evTill Try.prog [] 300 (behind Try.f9 0) 900 9 (headOf Try.f9 0) (envAt Try.f9.ntmps ([(0, vN n), (5, vL 101 1 n), (10, vL 61 1 Q), (11, vN Q), (12, vN (j : Nat))])) (rI 61 Q U ++ (wbE 101 n (S))) ⟨[.s true, .s true, .s true, .s true, .s true, .s false], 120⟩) (moreP (headOf Try.f9 0) ([]) Try.f9.ntmps ([(0, vN n), (5, vL 101 1 n), (10, vL 61 1 Q), (11, vN Q), (12, vN (j + 1 : Nat))]) (wbE 101 n (S)) 160) =
    (OkL [(decide ((↑j : Int) < (↑Q : Int)), true), (decide ((0 : Int) ≤ (↑j : Int) ∧ (↑j : Int) < (↑Q : Int)), true), (((0 : Nat) + (↑j : Int).toNat).blt Q, true), (((0 : Nat) + (↑j : Int).toNat).blt Q, true), (decide (U [(0 : Nat) + (↑j : Int).toNat] ≥ (0 : Int)), true), (decide (U [(0 : Nat) + (↑j : Int).toNat] < (↑n : Int)), false)] ∧ headOf Try.f9 (0 : Nat) = headOf Try.f9 (0 : Nat) ∧ ((↑n : Int) = (↑n : Int) ∧ ((0 : Nat) = (0 : Nat) ∧ n = n) ∧ ((0 : Nat) = (0 : Nat) ∧ Q = Q) ∧ (↑Q : Int) = (↑Q : Int) ∧ (↑(j + (1 : Nat)) : Int) = IntKind.i64.wrap ((↑j : Int) + (1 : Int))) ∧ n = n ∧ ∀ (i : Nat), i < n → S [i] = S [i]) := by kernel_rfl

set_option maxHeartbeats 4000000 in
theorem mkOut (Q n : Nat) (U : Ix → Int) (S : Ix → Bool) (j : Nat) (hj : j < Q) (hQ : Q ≤ 1000) (h : ¬ (0 ≤ U [j] ∧ U [j] < (n : Int)))  (v : SV) (L' : HF) (next : RunsTo Try.prog 9 (headOf Try.f9 0) (envAt Try.f9.ntmps ([(0, vN n), (5, vL 101 1 n), (10, vL 61 1 Q), (11, vN Q), (12, vN (j + 1 : Nat))])) (Sx.look (rI 61 Q U ++ (wbE 101 n (S)))) 80 (v) (L') 160) :
    RunsTo Try.prog 9 (headOf Try.f9 0) (envAt Try.f9.ntmps ([(0, vN n), (5, vL 101 1 n), (10, vL 61 1 Q), (11, vN Q), (12, vN (j : Nat))])) (Sx.look (rI 61 Q U ++ (wbE 101 n (S)))) 80 (v) (L') 160 := by
  have hw : IntKind.i64.wrap ((j : Int) + 1) = ((j + 1 : Nat) : Int) := by rw [wr64 (by omega)]; rfl
  refine bcase (c := (decide (U [(0 : Nat) + (↑j : Int).toNat] ≥ (0 : Int)))) (fun gg0 => ?_) (fun gg0 => ?_)
  · refine runs_more baseO (More.of (mkOut_p0 Q n U S j) ⟨?oo, rfl, ?rr⟩) (by kernel_rfl) (by kernel_rfl) rfl (gtL (by decide)) (by decide) next
    case oo =>
      clear next
      refine (okc ?_ (okc ?_ (okc ?_ (okc ?_ (okc gg0 okn)))))
      all_goals ((try simp (disch := omega) only [SS, hw, Go.Sx.sum, Nat.zero_add]); first | done | omega | assumption | (simp (disch := omega) only [SS, hw, Go.Sx.sum, Nat.zero_add] at *; first | done | omega | assumption) | (simp_all; done))
    case rr =>
      clear next
      try simp (disch := omega) only [SS, hw, Go.Sx.sum, Nat.zero_add]
      repeat' apply And.intro
      all_goals first | exact True.intro | with_reducible rfl | omega | (intros; first | exact True.intro | with_reducible rfl | omega | (simp_all; done)) | (simp_all; done) | rfl
  · refine runs_more baseO (More.of (mkOut_p1 Q n U S j) ⟨?oo, rfl, ?rr⟩) (by kernel_rfl) (by kernel_rfl) rfl (gtL (by decide)) (by decide) next
    case oo =>
      clear next
      refine (okc ?_ (okc ?_ (okc ?_ (okc ?_ (okc gg0 (okc ?_ okn))))))
      all_goals ((try simp (disch := omega) only [SS, hw, Go.Sx.sum, Nat.zero_add]); first | done | omega | assumption | (simp (disch := omega) only [SS, hw, Go.Sx.sum, Nat.zero_add] at *; first | done | omega | assumption) | (simp_all; done))
    case rr =>
      clear next
      try simp (disch := omega) only [SS, hw, Go.Sx.sum, Nat.zero_add]
      repeat' apply And.intro
      all_goals first | exact True.intro | with_reducible rfl | omega | (intros; first | exact True.intro | with_reducible rfl | omega | (simp_all; done)) | (simp_all; done) | rfl

theorem mkEnd_p0 (Q n : Nat) (U : Ix → Int) (S : Ix → Bool) (j : Nat) (F : Ix → Bool) :
    isEnd (evTill Try.prog [] 300 (99) 900 9 (headOf Try.f9 0) (envAt Try.f9.ntmps ([(0, vN n), (5, vL 101 1 n), (10, vL 61 1 Q), (11, vN Q), (12, vN (j : Nat))])) (rI 61 Q U ++ (wbE 101 n (S))) ⟨[.s false], 120⟩) (endP ([]) (vL 101 1 n) (wbE 101 n F) 160) =
    (OkL [(decide ((↑j : Int) < (↑Q : Int)), false)] ∧ ((0 : Nat) = (0 : Nat) ∧ n = n) ∧ n = n ∧ ∀ (i : Nat), i < n → F [i] = S [i]) := by kernel_rfl

set_option maxHeartbeats 4000000 in
theorem mkEnd (Q n : Nat) (U : Ix → Int) (S : Ix → Bool) (j : Nat) (F : Ix → Bool) (hj : j = Q) (hF : ∀ k, k < n → F [k] = S [k])  :
    RunsTo Try.prog 9 (headOf Try.f9 0) (envAt Try.f9.ntmps ([(0, vN n), (5, vL 101 1 n), (10, vL 61 1 Q), (11, vN Q), (12, vN (j : Nat))])) (Sx.look (rI 61 Q U ++ (wbE 101 n (S)))) 80 (vL 101 1 n) (Sx.look (wbE 101 n F)) 160 := by
  refine runs_last baseO (Sx.Ends.of (mkEnd_p0 Q n U S j F) ⟨?oo, ?rr⟩) (by kernel_rfl) rfl (gtL (by decide)) (by decide)
  case oo =>
    refine (okc ?_ okn)
    all_goals ((try simp (disch := omega) only [SS, Go.Sx.sum, Nat.zero_add]); first | done | omega | assumption | (simp (disch := omega) only [SS, Go.Sx.sum, Nat.zero_add] at *; first | done | omega | assumption) | (simp_all; done))
  case rr =>
    simp only [SS]
    repeat' apply And.intro
    all_goals first | exact True.intro | with_reducible rfl | omega | exact hF | (simp_all; done)

theorem idx_ge (U : Ix → Int) (v : Int) : ∀ k i, 0 ≤ idxF U v k i ↔ ∃ j, i ≤ j ∧ j < i + k ∧ U [j] = v
  | 0, i => by simp [idxF]; omega
  | k + 1, i => by
    simp only [idxF]
    by_cases h : U [i] = v
    · rw [if_pos h]; exact ⟨fun _ => ⟨i, by omega, by omega, h⟩, fun _ => by omega⟩
    · rw [if_neg h, idx_ge U v k (i + 1)]
      constructor
      · rintro ⟨j, h1, h2, h3⟩; exact ⟨j, by omega, by omega, h3⟩
      · rintro ⟨j, h1, h2, h3⟩
        refine ⟨j, ?_, by omega, h3⟩
        rcases Nat.eq_or_lt_of_le h1 with e | e
        · subst e; exact absurd h3 h
        · omega
theorem has_iff (U : Ix → Int) (Q : Nat) (v : Int) : hasM U Q v = true ↔ ∃ j, j < Q ∧ U [j] = v := by
  simp only [hasM, decide_eq_true_eq, ge_iff_le, idx_ge]
  constructor
  · rintro ⟨j, _, h2, h3⟩; exact ⟨j, by omega, h3⟩
  · rintro ⟨j, h2, h3⟩; exact ⟨j, by omega, by omega, h3⟩
theorem mkS_iff (U : Ix → Int) (n : Nat) : ∀ j i, i < n → (mkS U n j [i] = true ↔ ∃ k, k < j ∧ U [k] = (i : Int))
  | 0, i, _ => by simp [mkS]
  | j + 1, i, hi => by
    have ih := mkS_iff U n j i hi
    simp only [mkS]
    by_cases h : 0 ≤ U [j] ∧ U [j] < (n : Int)
    · rw [if_pos h]
      simp only [upd, List.cons.injEq, and_true]
      by_cases e : i = (U [j]).toNat
      · rw [if_pos e]; exact ⟨fun _ => ⟨j, by omega, by omega⟩, fun _ => rfl⟩
      · rw [if_neg e, ih]
        constructor
        · rintro ⟨k, a, b⟩; exact ⟨k, by omega, b⟩
        · rintro ⟨k, a, b⟩
          refine ⟨k, ?_, b⟩
          by_cases q : k = j
          · subst q; omega
          · omega
    · rw [if_neg h, ih]
      constructor
      · rintro ⟨k, a, b⟩; exact ⟨k, by omega, b⟩
      · rintro ⟨k, a, b⟩
        refine ⟨k, ?_, b⟩
        by_cases q : k = j
        · subst q; omega
        · omega
theorem mkS_has (U : Ix → Int) (n Q i : Nat) (hi : i < n) : hasM U Q (i : Int) = mkS U n Q [i] := by
  rw [Bool.eq_iff_iff, has_iff, mkS_iff U n Q i hi]
theorem mkI (Q n : Nat) (U : Ix → Int) (hQ : Q ≤ 1000) (hn : n ≤ 1000) : RunsTo Try.prog 9 [.code (bodyOf Try.f9)] (envOf [vN n, vL 61 1 Q] Try.f9.ntmps) (Sx.look (rI 61 Q U ++ ([]))) 80 (vL 101 1 n) (Sx.look (wbE 101 n (fun is => hasM U Q (is.headD 0 : Nat)))) 160 := by
  refine mkStart Q n U hn _ _ ?_
  suffices q : ∀ (k j : Nat), j + k = Q → RunsTo Try.prog 9 (headOf Try.f9 0) (envAt Try.f9.ntmps ([(0, vN n), (5, vL 101 1 n), (10, vL 61 1 Q), (11, vN Q), (12, vN (j : Nat))])) (Sx.look (rI 61 Q U ++ (wbE 101 n (mkS U n j)))) 80 (vL 101 1 n) (Sx.look (wbE 101 n (fun is => hasM U Q (is.headD 0 : Nat)))) 160 from q Q 0 (by omega)
  intro k
  induction k with
  | zero => intro j hj; exact mkEnd Q n U _ j _ (by omega) (fun i hi => by rw [show j = Q by omega]; exact mkS_has U n Q i hi)
  | succ k ih =>
    intro j hj
    have q := ih (j + 1) (by omega)
    by_cases h : 0 ≤ U [j] ∧ U [j] < (n : Int)
    · simp only [mkS, if_pos h] at q; exact mkIn Q n U _ j (by omega) hQ h _ _ q
    · simp only [mkS, if_neg h] at q; exact mkOut Q n U _ j (by omega) hQ h _ _ q
def mkP : PC := { args := [.v (.vi .i64 3), .v (.vl 61 1 0)], heap := [⟨61, false, 1, .ta 0 (.vi .i64 1)⟩], gs := [], G := 0, tp := 999, n := 80, n' := 160, cond := fun e => decide (0 ≤ eI e 3 []) && decide (eN e 0 ≤ 1000 ∧ (eI e 3 []).toNat ≤ 1000), v := fun e => vL 101 1 (eI e 3 []).toNat, post := fun e => wbE 101 (eI e 3 []).toNat (fun is => hasM (eI e 1) (eN e 0) (is.headD 0 : Nat)) }
theorem mkP_pc : PC.Runs Try.prog 9 Try.f9 (bodyOf Try.f9) mkP := ⟨Try.func9, by kernel_rfl, (fun g hg => by first | (cases hg; done) | (revert g; show ∀ g ∈ ([] : List Nat), g < 0; decide)), fun e H hc => by
  have hc : (decide (0 ≤ eI e 3 []) && decide (eN e 0 ≤ 1000 ∧ (eI e 3 []).toNat ≤ 1000)) = true := hc
  try simp only [Bool.and_eq_true, decide_eq_true_eq, Nat.beq_eq] at hc
  exact by have hj : ((eI e 3 []).toNat : Int) = eI e 3 [] := Int.toNat_of_nonneg hc.1; have q := mkI (eN e 0) (eI e 3 []).toNat (eI e 1) hc.2.1 hc.2.2; rw [hj] at q; exact q⟩
theorem flStart_p0 (n : Nat) (raw : Bool) :
    isMore (evTill Try.prog [] 300 (behind Try.f10 0) 900 10 [.code (bodyOf Try.f10)] (envOf [vN n, vB raw] Try.f10.ntmps) ([] ++ ([])) ⟨[.s true, .s true], 80⟩) (moreP (headOf Try.f10 0) ([((101 : Nat), Rn.to (80 : Nat))]) Try.f10.ntmps ([(1, vB raw), (5, vL 101 1 n), (10, vN n), (11, vN (0 : Nat))]) (wbE 101 n (fun _ => false)) 160) =
    (OkL [(decide ((0 : Int) ≤ (↑n : Int) ∧ (↑n : Int) ≤ (↑n : Int)), true), (decide ((↑(1 : Nat) : Int) * (↑n : Int) ≤ (281474976710656 : Int)), true)] ∧ headOf Try.f10 (0 : Nat) = headOf Try.f10 (0 : Nat) ∧ (raw = raw ∧ ((0 : Nat) = (0 : Nat) ∧ n = (↑n : Int).toNat) ∧ (↑n : Int) = (↑(↑n : Int).toNat : Int) ∧ (↑(0 : Nat) : Int) = (0 : Int)) ∧ n = (↑n : Int).toNat ∧ ∀ (i : Nat), i < n → false = false) := by kernel_rfl

set_option maxHeartbeats 4000000 in
theorem flStart (n : Nat) (raw : Bool) (hn : n ≤ 1000)  (v : SV) (L' : HF) (next : RunsTo Try.prog 10 (headOf Try.f10 0) (envAt Try.f10.ntmps ([(1, vB raw), (5, vL 101 1 n), (10, vN n), (11, vN (0 : Nat))])) (Sx.look ([] ++ (wbE 101 n (fun _ => false)))) 80 (v) (L') 160) :
    RunsTo Try.prog 10 [.code (bodyOf Try.f10)] (envOf [vN n, vB raw] Try.f10.ntmps) (Sx.look ([] ++ ([]))) 80 (v) (L') 160 := by
  refine runs_more baseO (More.of (flStart_p0 n raw) ⟨?oo, rfl, ?rr⟩) (by kernel_rfl) (by kernel_rfl) rfl (gtL (by decide)) (by decide) next
  case oo =>
    clear next
    refine (okc ?_ (okc ?_ okn))
    all_goals ((try simp (disch := omega) only [SS]); first | done | omega | assumption | (simp (disch := omega) only [SS] at *; first | done | omega | assumption) | (simp_all; done))
  case rr =>
    clear next
    try simp (disch := omega) only [SS]
    repeat' apply And.intro
    all_goals first | exact True.intro | with_reducible rfl | omega | (intros; first | exact True.intro | with_reducible rfl | omega | (simp_all; done)) | (simp_all; done) | rfl

theorem flR_p0 (n : Nat) (raw : Bool) (S : Ix → Bool) (j : Nat) :
    isMore (evTill Try.prog [] 300 (behind Try.f10 0) 900 10 (headOf Try.f10 0) (envAt Try.f10.ntmps ([(1, vB raw), (5, vL 101 1 n), (10, vN n), (11, vN (j : Nat))])) ([] ++ (wbE 101 n (S))) ⟨[.s true, .s true, .s true, .s true], 120⟩) (moreP (headOf Try.f10 0) ([]) Try.f10.ntmps ([(1, vB raw), (5, vL 101 1 n), (10, vN n), (11, vN (j + 1 : Nat))]) (wbE 101 n (upd S [j] raw)) 160) =
    (OkL [(decide ((↑j : Int) < (↑n : Int)), true), (decide ((0 : Int) ≤ (↑j : Int) ∧ (↑j : Int) < (↑n : Int)), true), (((0 : Nat) + (↑j : Int).toNat).blt n, true), (((0 : Nat) + (↑j : Int).toNat).blt n, true)] ∧ headOf Try.f10 (0 : Nat) = headOf Try.f10 (0 : Nat) ∧ (raw = raw ∧ ((0 : Nat) = (0 : Nat) ∧ n = n) ∧ (↑n : Int) = (↑n : Int) ∧ (↑(j + (1 : Nat)) : Int) = IntKind.i64.wrap ((↑j : Int) + (1 : Int))) ∧ n = n ∧ ∀ (i : Nat), i < n → upd S [j] raw [i] = upd S [(0 : Nat) + (↑j : Int).toNat] raw [i]) := by kernel_rfl

set_option maxHeartbeats 4000000 in
theorem flR (n : Nat) (raw : Bool) (S : Ix → Bool) (j : Nat) (hj : j < n) (hn : n ≤ 1000)  (v : SV) (L' : HF) (next : RunsTo Try.prog 10 (headOf Try.f10 0) (envAt Try.f10.ntmps ([(1, vB raw), (5, vL 101 1 n), (10, vN n), (11, vN (j + 1 : Nat))])) (Sx.look ([] ++ (wbE 101 n (upd S [j] raw)))) 80 (v) (L') 160) :
    RunsTo Try.prog 10 (headOf Try.f10 0) (envAt Try.f10.ntmps ([(1, vB raw), (5, vL 101 1 n), (10, vN n), (11, vN (j : Nat))])) (Sx.look ([] ++ (wbE 101 n (S)))) 80 (v) (L') 160 := by
  have hw : IntKind.i64.wrap ((j : Int) + 1) = ((j + 1 : Nat) : Int) := by rw [wr64 (by omega)]; rfl
  refine runs_more baseO (More.of (flR_p0 n raw S j) ⟨?oo, rfl, ?rr⟩) (by kernel_rfl) (by kernel_rfl) rfl (gtL (by decide)) (by decide) next
  case oo =>
    clear next
    refine (okc ?_ (okc ?_ (okc ?_ (okc ?_ okn))))
    all_goals ((try simp (disch := omega) only [SS, hw, Go.Sx.sum, Nat.zero_add]); first | done | omega | assumption | (simp (disch := omega) only [SS, hw, Go.Sx.sum, Nat.zero_add] at *; first | done | omega | assumption) | (simp_all; done))
  case rr =>
    clear next
    try simp (disch := omega) only [SS, hw, Go.Sx.sum, Nat.zero_add]
    repeat' apply And.intro
    all_goals first | exact True.intro | with_reducible rfl | omega | (intros; first | exact True.intro | with_reducible rfl | omega | (simp_all; done)) | (simp_all; done) | rfl

theorem flEnd_p0 (n : Nat) (raw : Bool) (S : Ix → Bool) (j : Nat) (F : Ix → Bool) :
    isEnd (evTill Try.prog [] 300 (99) 900 10 (headOf Try.f10 0) (envAt Try.f10.ntmps ([(1, vB raw), (5, vL 101 1 n), (10, vN n), (11, vN (j : Nat))])) ([] ++ (wbE 101 n (S))) ⟨[.s false], 120⟩) (endP ([]) (vL 101 1 n) (wbE 101 n F) 160) =
    (OkL [(decide ((↑j : Int) < (↑n : Int)), false)] ∧ ((0 : Nat) = (0 : Nat) ∧ n = n) ∧ n = n ∧ ∀ (i : Nat), i < n → F [i] = S [i]) := by kernel_rfl

set_option maxHeartbeats 4000000 in
theorem flEnd (n : Nat) (raw : Bool) (S : Ix → Bool) (j : Nat) (F : Ix → Bool) (hj : j = n) (hF : ∀ k, k < n → F [k] = S [k])  :
    RunsTo Try.prog 10 (headOf Try.f10 0) (envAt Try.f10.ntmps ([(1, vB raw), (5, vL 101 1 n), (10, vN n), (11, vN (j : Nat))])) (Sx.look ([] ++ (wbE 101 n (S)))) 80 (vL 101 1 n) (Sx.look (wbE 101 n F)) 160 := by
  refine runs_last baseO (Sx.Ends.of (flEnd_p0 n raw S j F) ⟨?oo, ?rr⟩) (by kernel_rfl) rfl (gtL (by decide)) (by decide)
  case oo =>
    refine (okc ?_ okn)
    all_goals ((try simp (disch := omega) only [SS, Go.Sx.sum]); first | done | omega | assumption | (simp (disch := omega) only [SS, Go.Sx.sum] at *; first | done | omega | assumption) | (simp_all; done))
  case rr =>
    simp only [SS]
    repeat' apply And.intro
    all_goals first | exact True.intro | with_reducible rfl | omega | exact hF | (simp_all; done)

theorem flI (n : Nat) (raw : Bool) (hn : n ≤ 1000) : RunsTo Try.prog 10 [.code (bodyOf Try.f10)] (envOf [vN n, vB raw] Try.f10.ntmps) (Sx.look ([] ++ ([]))) 80 (vL 101 1 n) (Sx.look (wbE 101 n (fun _ => raw))) 160 := by
  refine flStart n raw hn _ _ ?_
  suffices q : ∀ (k j : Nat) (S : Ix → Bool), j + k = n → (∀ i, i < j → S [i] = raw) → RunsTo Try.prog 10 (headOf Try.f10 0) (envAt Try.f10.ntmps ([(1, vB raw), (5, vL 101 1 n), (10, vN n), (11, vN (j : Nat))])) (Sx.look ([] ++ (wbE 101 n (S)))) 80 (vL 101 1 n) (Sx.look (wbE 101 n (fun _ => raw))) 160 from q n 0 _ (by omega) (fun i hi => by omega)
  intro k
  induction k with
  | zero => intro j S hj hS; exact flEnd n raw S j _ (by omega) (fun i hi => (hS i (by omega)).symm)
  | succ k ih =>
    intro j S hj hS
    refine flR n raw S j (by omega) hn _ _ (ih (j + 1) _ (by omega) (fun i hi => ?_))
    simp only [upd, List.cons.injEq, and_true]
    by_cases e : i = j
    · rw [if_pos e]
    · rw [if_neg e]; exact hS i (by omega)
def flP : PC := { args := [.v (.vi .i64 3), .v (.vb 4)], heap := [], gs := [], G := 0, tp := 999, n := 80, n' := 160, cond := fun e => decide (0 ≤ eI e 3 []) && decide ((eI e 3 []).toNat ≤ 1000), v := fun e => vL 101 1 (eI e 3 []).toNat, post := fun e => wbE 101 (eI e 3 []).toNat (fun _ => eB e 4 []) }
theorem flP_pc : PC.Runs Try.prog 10 Try.f10 (bodyOf Try.f10) flP := ⟨Try.func10, by kernel_rfl, (fun g hg => by first | (cases hg; done) | (revert g; show ∀ g ∈ ([] : List Nat), g < 0; decide)), fun e H hc => by
  have hc : (decide (0 ≤ eI e 3 []) && decide ((eI e 3 []).toNat ≤ 1000)) = true := hc
  try simp only [Bool.and_eq_true, decide_eq_true_eq, Nat.beq_eq] at hc
  exact by have hj : ((eI e 3 []).toNat : Int) = eI e 3 [] := Int.toNat_of_nonneg hc.1; have q := flI (eI e 3 []).toNat (eB e 4 []) hc.2; rw [hj] at q; exact q⟩
theorem dlStart_p0 (N : Nat) (K C O : Ix → Int) (S : Ix → List UInt8) (CU : Ix → Bool) :
    isMore (evTill Try.prog [] 300 (behind Try.f14 0) 900 14 [.code (bodyOf Try.f14)] (envOf [vL 61 5 N] Try.f14.ntmps) (dR 61 N K C O S CU ++ ([])) ⟨[], 80⟩) (moreP (headOf Try.f14 0) ([((101 : Nat), Rn.to (80 : Nat))]) Try.f14.ntmps ([(3, vL 101 1 (([] : List UInt8)).length), (7, vL 61 5 N), (8, vN N), (9, vN (0 : Nat))]) (bW 101 (([] : List UInt8))) 160) =
    (OkL [] ∧ headOf Try.f14 (0 : Nat) = headOf Try.f14 (0 : Nat) ∧ (((0 : Nat) = (0 : Nat) ∧ (0 : Nat) = (0 : Nat)) ∧ ((0 : Nat) = (0 : Nat) ∧ N = N) ∧ (↑N : Int) = (↑N : Int) ∧ (↑(0 : Nat) : Int) = (0 : Int)) ∧ (0 : Nat) = (0 : Nat) ∧ ∀ (i : Nat), i < (0 : Nat) → (↑([].getD i (0 : UInt8)).toNat : Int) = (0 : Int)) := by kernel_rfl

set_option maxHeartbeats 4000000 in
theorem dlStart (N : Nat) (K C O : Ix → Int) (S : Ix → List UInt8) (CU : Ix → Bool)  (v : SV) (L' : HF) (next : RunsTo Try.prog 14 (headOf Try.f14 0) (envAt Try.f14.ntmps ([(3, vL 101 1 (([] : List UInt8)).length), (7, vL 61 5 N), (8, vN N), (9, vN (0 : Nat))])) (Sx.look (dR 61 N K C O S CU ++ (bW 101 (([] : List UInt8))))) 80 (v) (L') 160) :
    RunsTo Try.prog 14 [.code (bodyOf Try.f14)] (envOf [vL 61 5 N] Try.f14.ntmps) (Sx.look (dR 61 N K C O S CU ++ ([]))) 80 (v) (L') 160 := by
  refine runs_more baseO (More.of (dlStart_p0 N K C O S CU) ⟨?oo, rfl, ?rr⟩) (by kernel_rfl) (by kernel_rfl) rfl (gtL (by decide)) (by decide) next
  case oo =>
    clear next
    refine okn
    all_goals ((try simp (disch := omega) only [SS]); first | done | omega | assumption | (simp (disch := omega) only [SS] at *; first | done | omega | assumption) | (simp_all; done))
  case rr =>
    clear next
    try simp (disch := omega) only [SS]
    repeat' apply And.intro
    all_goals first | exact True.intro | with_reducible rfl | omega | (intros; first | exact True.intro | with_reducible rfl | omega | (simp_all; done)) | (simp_all; done) | rfl

theorem dlY_p0 (N : Nat) (K C O : Ix → Int) (S : Ix → List UInt8) (CU : Ix → Bool) (o : List UInt8) (i : Nat) :
    isMore (evTill Try.prog [] 300 (behind Try.f14 0) 900 14 (headOf Try.f14 0) (envAt Try.f14.ntmps ([(3, vL 101 1 (o).length), (7, vL 61 5 N), (8, vN N), (9, vN (i : Nat))])) (dR 61 N K C O S CU ++ (bW 101 (o))) ⟨[.s true, .s true, .s true, .s true, .s true, .t, .s true, .s true], 120⟩) (moreP (headOf Try.f14 0) ([((101 : Nat), Rn.to (122 : Nat))]) Try.f14.ntmps ([(3, vL 101 1 (o ++ [UInt8.ofNat (C [i]).toNat]).length), (7, vL 61 5 N), (8, vN N), (9, vN (i + 1 : Nat))]) (bW 101 (o ++ [UInt8.ofNat (C [i]).toNat])) 160) =
    (OkL [(decide ((↑i : Int) < (↑N : Int)), true), (decide ((0 : Int) ≤ (↑i : Int) ∧ (↑i : Int) < (↑N : Int)), true), (((0 : Nat) + (↑i : Int).toNat).blt N, true), (((0 : Nat) + (↑i : Int).toNat).blt N, true), (K [(0 : Nat) + (↑i : Int).toNat] == (1 : Int), true), (((0 : Nat) + o.length).ble o.length, true), (decide (((2 : Nat) * (o.length + (1 : Nat)) + (192 : Nat)) * (1 : Nat) ≤ (281474976710656 : Nat)), true)] ∧ headOf Try.f14 (0 : Nat) = headOf Try.f14 (0 : Nat) ∧ (((0 : Nat) = (0 : Nat) ∧ (o ++ [UInt8.ofNat (C [i]).toNat]).length = o.length + (1 : Nat)) ∧ ((0 : Nat) = (0 : Nat) ∧ N = N) ∧ (↑N : Int) = (↑N : Int) ∧ (↑(i + (1 : Nat)) : Int) = IntKind.i64.wrap ((↑i : Int) + (1 : Int))) ∧ (o ++ [UInt8.ofNat (C [i]).toNat]).length = o.length + (1 : Nat) ∧ ∀ (i_1 : Nat), i_1 < (o ++ [UInt8.ofNat (C [i]).toNat]).length → (↑((o ++ [UInt8.ofNat (C [i]).toNat]).getD i_1 (0 : UInt8)).toNat : Int) = appF o.length (0 : Nat) (fun is => (↑(o.getD (List.headD is (0 : Nat)) (0 : UInt8)).toNat : Int)) (fun js => IntKind.u8.wrap (C [(0 : Nat) + (↑i : Int).toNat])) [i_1]) := by kernel_rfl

set_option maxHeartbeats 4000000 in
theorem dlY (N : Nat) (K C O : Ix → Int) (S : Ix → List UInt8) (CU : Ix → Bool) (o : List UInt8) (i : Nat) (hi : i < N) (hN : N ≤ 1000) (ho : o.length ≤ 1000) (h : K [i] = 1) (h2 : 0 ≤ C [i] ∧ C [i] < 256)  (v : SV) (L' : HF) (next : RunsTo Try.prog 14 (headOf Try.f14 0) (envAt Try.f14.ntmps ([(3, vL 101 1 (o ++ [UInt8.ofNat (C [i]).toNat]).length), (7, vL 61 5 N), (8, vN N), (9, vN (i + 1 : Nat))])) (Sx.look (dR 61 N K C O S CU ++ (bW 101 (o ++ [UInt8.ofNat (C [i]).toNat])))) 80 (v) (L') 160) :
    RunsTo Try.prog 14 (headOf Try.f14 0) (envAt Try.f14.ntmps ([(3, vL 101 1 (o).length), (7, vL 61 5 N), (8, vN N), (9, vN (i : Nat))])) (Sx.look (dR 61 N K C O S CU ++ (bW 101 (o)))) 80 (v) (L') 160 := by
  have hw : IntKind.i64.wrap ((i : Int) + 1) = ((i + 1 : Nat) : Int) := by rw [wr64 (by omega)]; rfl
  have hu : IntKind.u8.wrap (C [i]) = ((UInt8.ofNat (C [i]).toNat).toNat : Int) := by rw [u8id h2, u8of h2]
  refine runs_more baseO (More.of (dlY_p0 N K C O S CU o i) ⟨?oo, rfl, ?rr⟩) (by kernel_rfl) (by kernel_rfl) rfl (gtL (by decide)) (by decide) next
  case oo =>
    clear next
    refine (okc ?_ (okc ?_ (okc ?_ (okc ?_ (okc ?_ (okc ?_ (okc ?_ okn)))))))
    all_goals ((try simp (disch := omega) only [SS, hw, Go.Sx.sum, Nat.zero_add, h]); first | done | omega | assumption | (simp (disch := omega) only [SS, hw, Go.Sx.sum, Nat.zero_add, h] at *; first | done | omega | assumption) | (simp_all; done))
  case rr =>
    clear next
    simp (disch := omega) only [SS, hw, hu, Go.Sx.sum, List.length_append, List.length_cons, List.length_nil, Nat.zero_add]
    repeat' apply And.intro
    all_goals first | exact True.intro | with_reducible rfl | omega | exact app_byte1 o _ _ hu | exact app_byte1 o _ _ (by first | rfl | (simp_all; done)) | (simp_all; done)

theorem dlN_p0 (N : Nat) (K C O : Ix → Int) (S : Ix → List UInt8) (CU : Ix → Bool) (o : List UInt8) (i : Nat) :
    isMore (evTill Try.prog [] 300 (behind Try.f14 0) 900 14 (headOf Try.f14 0) (envAt Try.f14.ntmps ([(3, vL 101 1 (o).length), (7, vL 61 5 N), (8, vN N), (9, vN (i : Nat))])) (dR 61 N K C O S CU ++ (bW 101 (o))) ⟨[.s true, .s true, .s true, .s true, .s false], 120⟩) (moreP (headOf Try.f14 0) ([]) Try.f14.ntmps ([(3, vL 101 1 (o).length), (7, vL 61 5 N), (8, vN N), (9, vN (i + 1 : Nat))]) (bW 101 (o)) 160) =
    (OkL [(decide ((↑i : Int) < (↑N : Int)), true), (decide ((0 : Int) ≤ (↑i : Int) ∧ (↑i : Int) < (↑N : Int)), true), (((0 : Nat) + (↑i : Int).toNat).blt N, true), (((0 : Nat) + (↑i : Int).toNat).blt N, true), (K [(0 : Nat) + (↑i : Int).toNat] == (1 : Int), false)] ∧ headOf Try.f14 (0 : Nat) = headOf Try.f14 (0 : Nat) ∧ (((0 : Nat) = (0 : Nat) ∧ o.length = o.length) ∧ ((0 : Nat) = (0 : Nat) ∧ N = N) ∧ (↑N : Int) = (↑N : Int) ∧ (↑(i + (1 : Nat)) : Int) = IntKind.i64.wrap ((↑i : Int) + (1 : Int))) ∧ o.length = o.length ∧ ∀ (i : Nat), i < o.length → (↑(o.getD i (0 : UInt8)).toNat : Int) = (↑(o.getD i (0 : UInt8)).toNat : Int)) := by kernel_rfl

set_option maxHeartbeats 4000000 in
theorem dlN (N : Nat) (K C O : Ix → Int) (S : Ix → List UInt8) (CU : Ix → Bool) (o : List UInt8) (i : Nat) (hi : i < N) (hN : N ≤ 1000) (ho : o.length ≤ 1000) (h : K [i] ≠ 1)  (v : SV) (L' : HF) (next : RunsTo Try.prog 14 (headOf Try.f14 0) (envAt Try.f14.ntmps ([(3, vL 101 1 (o).length), (7, vL 61 5 N), (8, vN N), (9, vN (i + 1 : Nat))])) (Sx.look (dR 61 N K C O S CU ++ (bW 101 (o)))) 80 (v) (L') 160) :
    RunsTo Try.prog 14 (headOf Try.f14 0) (envAt Try.f14.ntmps ([(3, vL 101 1 (o).length), (7, vL 61 5 N), (8, vN N), (9, vN (i : Nat))])) (Sx.look (dR 61 N K C O S CU ++ (bW 101 (o)))) 80 (v) (L') 160 := by
  have hw : IntKind.i64.wrap ((i : Int) + 1) = ((i + 1 : Nat) : Int) := by rw [wr64 (by omega)]; rfl
  refine runs_more baseO (More.of (dlN_p0 N K C O S CU o i) ⟨?oo, rfl, ?rr⟩) (by kernel_rfl) (by kernel_rfl) rfl (gtL (by decide)) (by decide) next
  case oo =>
    clear next
    refine (okc ?_ (okc ?_ (okc ?_ (okc ?_ (okc ?_ okn)))))
    all_goals ((try simp (disch := omega) only [SS, hw, Go.Sx.sum, Nat.zero_add]); first | done | omega | assumption | (simp (disch := omega) only [SS, hw, Go.Sx.sum, Nat.zero_add] at *; first | done | omega | assumption) | (simp_all; done))
  case rr =>
    clear next
    try simp (disch := omega) only [SS, hw, Go.Sx.sum, Nat.zero_add]
    repeat' apply And.intro
    all_goals first | exact True.intro | with_reducible rfl | omega | (intros; first | exact True.intro | with_reducible rfl | omega | (simp_all; done)) | (simp_all; done) | rfl

theorem dlEnd_p0 (N : Nat) (K C O : Ix → Int) (S : Ix → List UInt8) (CU : Ix → Bool) (o : List UInt8) (i : Nat) :
    isEnd (evTill Try.prog [] 300 (99) 900 14 (headOf Try.f14 0) (envAt Try.f14.ntmps ([(3, vL 101 1 (o).length), (7, vL 61 5 N), (8, vN N), (9, vN (i : Nat))])) (dR 61 N K C O S CU ++ (bW 101 (o))) ⟨[.s false, .s true], 120⟩) (endP ([]) (vS o) ([]) 160) =
    (OkL [(decide ((↑i : Int) < (↑N : Int)), false), (((0 : Nat) + o.length).ble o.length, true)] ∧ o = bytesOf (fun is => (↑(o.getD (List.headD is (0 : Nat)) (0 : UInt8)).toNat : Int)) [] (0 : Nat) o.length ∧ True) := by kernel_rfl

set_option maxHeartbeats 4000000 in
theorem dlEnd (N : Nat) (K C O : Ix → Int) (S : Ix → List UInt8) (CU : Ix → Bool) (o : List UInt8) (i : Nat) (hi : i = N)  :
    RunsTo Try.prog 14 (headOf Try.f14 0) (envAt Try.f14.ntmps ([(3, vL 101 1 (o).length), (7, vL 61 5 N), (8, vN N), (9, vN (i : Nat))])) (Sx.look (dR 61 N K C O S CU ++ (bW 101 (o)))) 80 (vS o) (Sx.look ([])) 160 := by
  have hb := bytesOf_full o
  refine runs_last baseO (Sx.Ends.of (dlEnd_p0 N K C O S CU o i) ⟨?oo, ?rr⟩) (by kernel_rfl) rfl (gtL (by decide)) (by decide)
  case oo =>
    refine (okc ?_ (okc ?_ okn))
    all_goals ((try simp (disch := omega) only [SS, hb]); first | done | omega | assumption | (simp (disch := omega) only [SS, hb] at *; first | done | omega | assumption) | (simp_all; done))
  case rr =>
    simp only [SS, hb]
    repeat' apply And.intro
    all_goals first | exact True.intro | with_reducible rfl | exact hb.symm | exact hb | (simp_all; done)

theorem dataL_len (K C : Ix → Int) : ∀ n, (dataL K C n).length ≤ n
  | 0 => by simp [dataL]
  | n + 1 => by
    have := dataL_len K C n
    simp only [dataL]; split <;> simp <;> omega
theorem dlI (N : Nat) (K C O : Ix → Int) (S : Ix → List UInt8) (CU : Ix → Bool) (hN : N ≤ 1000) (hc : cdB K C N = true) : RunsTo Try.prog 14 [.code (bodyOf Try.f14)] (envOf [vL 61 5 N] Try.f14.ntmps) (Sx.look (dR 61 N K C O S CU ++ ([]))) 80 (vS (dataL K C N)) (Sx.look []) 160 := by
  refine dlStart N K C O S CU _ _ ?_
  suffices q : ∀ (k i : Nat), i + k = N → RunsTo Try.prog 14 (headOf Try.f14 0) (envAt Try.f14.ntmps ([(3, vL 101 1 (dataL K C i).length), (7, vL 61 5 N), (8, vN N), (9, vN (i : Nat))])) (Sx.look (dR 61 N K C O S CU ++ (bW 101 (dataL K C i)))) 80 (vS (dataL K C N)) (Sx.look []) 160 from q N 0 (by omega)
  intro k
  induction k with
  | zero => intro i hi; rw [show i = N by omega]; exact dlEnd N K C O S CU _ N rfl
  | succ k ih =>
    intro i hi
    have q := ih (i + 1) (by omega)
    have hl := dataL_len K C i
    have h0 := all_ok hc (i := i) (by omega)
    simp only [decide_eq_true_eq] at h0
    by_cases h : K [i] = 1
    · simp only [dataL, if_pos h] at q; exact dlY N K C O S CU _ i (by omega) hN (by omega) h (h0.resolve_left (fun e => e h)) _ _ q
    · simp only [dataL, if_neg h] at q; exact dlN N K C O S CU _ i (by omega) hN (by omega) h _ _ q
def dlP : PC := { args := [.v (.vl 61 5 0)], heap := [⟨61, false, 5, .ta 0 (.tc (.vi .i64 1) (.tc (.vi .i64 2) (.tc (.vi .i64 3) (.tc (.vs 4) (.tc (.vb 5) .t0)))))⟩], gs := [], G := 0, tp := 999, n := 80, n' := 160, cond := fun e => decide (eN e 0 ≤ 1000) && cdB (eI e 1) (eI e 2) (eN e 0), v := fun e => vS (dataL (eI e 1) (eI e 2) (eN e 0)), post := fun e => [] }
theorem dlP_pc : PC.Runs Try.prog 14 Try.f14 (bodyOf Try.f14) dlP := ⟨Try.func14, by kernel_rfl, (fun g hg => by first | (cases hg; done) | (revert g; show ∀ g ∈ ([] : List Nat), g < 0; decide)), fun e H hc => by
  have hc : (decide (eN e 0 ≤ 1000) && cdB (eI e 1) (eI e 2) (eN e 0)) = true := hc
  try simp only [Bool.and_eq_true, decide_eq_true_eq, Nat.beq_eq] at hc
  exact dlI (eN e 0) (eI e 1) (eI e 2) (eI e 3) (eS e 4) (eB e 5) hc.1 hc.2⟩
theorem sqStart_p0 (N R M : Nat) (K C O : Ix → Int) (m n : Ix → Nat) (CU : Ix → Bool) (ls : Nat → Nat) (F : Ix → Int) (K2 C2 O2 : Ix → Int) (S : Ix → List UInt8) (CU2 : Ix → Bool) :
    isMore (evTill Try.prog [] 300 (behind Try.f11 0) 900 11 [.code (bodyOf Try.f11)] (envOf [vL 61 5 N, vL 63 5 M] Try.f11.ntmps) ((pR 61 62 N K C O m n CU ++ (dR 63 M K2 C2 O2 S CU2 ++ pF 62 R ls F)) ++ ([])) ⟨[.s false], 80⟩) (moreP (headOf Try.f11 0) ([]) Try.f11.ntmps ([(1, vL 63 5 M), (12, vL 61 5 N), (13, vN N), (14, vN (0 : Nat))]) ([]) 160) =
    (OkL [((↑N : Int) != (↑M : Int), false)] ∧ headOf Try.f11 (0 : Nat) = headOf Try.f11 (0 : Nat) ∧ (((0 : Nat) = (0 : Nat) ∧ M = M) ∧ ((0 : Nat) = (0 : Nat) ∧ N = N) ∧ (↑N : Int) = (↑N : Int) ∧ (↑(0 : Nat) : Int) = (0 : Int)) ∧ True) := by kernel_rfl

set_option maxHeartbeats 4000000 in
theorem sqStart (N R M : Nat) (K C O : Ix → Int) (m n : Ix → Nat) (CU : Ix → Bool) (ls : Nat → Nat) (F : Ix → Int) (K2 C2 O2 : Ix → Int) (S : Ix → List UInt8) (CU2 : Ix → Bool) (h : N = M)  (v : SV) (L' : HF) (next : RunsTo Try.prog 11 (headOf Try.f11 0) (envAt Try.f11.ntmps ([(1, vL 63 5 M), (12, vL 61 5 N), (13, vN N), (14, vN (0 : Nat))])) (Sx.look ((pR 61 62 N K C O m n CU ++ (dR 63 M K2 C2 O2 S CU2 ++ pF 62 R ls F)) ++ ([]))) 80 (v) (L') 160) :
    RunsTo Try.prog 11 [.code (bodyOf Try.f11)] (envOf [vL 61 5 N, vL 63 5 M] Try.f11.ntmps) (Sx.look ((pR 61 62 N K C O m n CU ++ (dR 63 M K2 C2 O2 S CU2 ++ pF 62 R ls F)) ++ ([]))) 80 (v) (L') 160 := by
  refine runs_more baseO (More.of (sqStart_p0 N R M K C O m n CU ls F K2 C2 O2 S CU2) ⟨?oo, rfl, ?rr⟩) (by kernel_rfl) (by kernel_rfl) rfl (gtL (by decide)) (by decide) next
  case oo =>
    clear next
    refine (okc ?_ okn)
    all_goals ((try simp (disch := omega) only [SS, h]); first | done | omega | assumption | (simp (disch := omega) only [SS, h] at *; first | done | omega | assumption) | (simp_all; done))
  case rr =>
    clear next
    try simp (disch := omega) only [SS, h]
    repeat' apply And.intro
    all_goals first | exact True.intro | with_reducible rfl | omega | (intros; first | exact True.intro | with_reducible rfl | omega | (simp_all; done)) | (simp_all; done) | rfl

theorem sqR_p0 (N R M : Nat) (K C O : Ix → Int) (m n : Ix → Nat) (CU : Ix → Bool) (ls : Nat → Nat) (F : Ix → Int) (K2 C2 O2 : Ix → Int) (S : Ix → List UInt8) (CU2 : Ix → Bool) (i : Nat) :
    isMore (evTill Try.prog [] 300 (behind Try.f11 0) 900 11 (headOf Try.f11 0) (envAt Try.f11.ntmps ([(1, vL 63 5 M), (12, vL 61 5 N), (13, vN N), (14, vN (i : Nat))])) ((pR 61 62 N K C O m n CU ++ (dR 63 M K2 C2 O2 S CU2 ++ pF 62 R ls F)) ++ ([])) ⟨[.s true, .s true, .s true, .s true, .s true, .s true, .s true, .s true, .s true, .s false], 120⟩) (moreP (headOf Try.f11 0) ([]) Try.f11.ntmps ([(1, vL 63 5 M), (12, vL 61 5 N), (13, vN N), (14, vN (i + 1 : Nat))]) ([]) 160) =
    (OkL [(decide ((↑i : Int) < (↑N : Int)), true), (decide ((0 : Int) ≤ (↑i : Int) ∧ (↑i : Int) < (↑N : Int)), true), (((0 : Nat) + (↑i : Int).toNat).blt N, true), (((0 : Nat) + (↑i : Int).toNat).blt N, true), ((m [(0 : Nat) + (↑i : Int).toNat]).blt R, true), (((0 : Nat) + n [(0 : Nat) + (↑i : Int).toNat]).ble (ls (m [(0 : Nat) + (↑i : Int).toNat])), true), (decide ((0 : Int) ≤ (↑i : Int) ∧ (↑i : Int) < (↑M : Int)), true), (((0 : Nat) + (↑i : Int).toNat).blt M, true), (((0 : Nat) + (↑i : Int).toNat).blt M, true), (!(K [(0 : Nat) + (↑i : Int).toNat] == K2 [(0 : Nat) + (↑i : Int).toNat] && (C [(0 : Nat) + (↑i : Int).toNat] == C2 [(0 : Nat) + (↑i : Int).toNat] && (O [(0 : Nat) + (↑i : Int).toNat] == O2 [(0 : Nat) + (↑i : Int).toNat] && (bytesOf F [m [(0 : Nat) + (↑i : Int).toNat]] (0 : Nat) (n [(0 : Nat) + (↑i : Int).toNat]) == S [(0 : Nat) + (↑i : Int).toNat] && (CU [(0 : Nat) + (↑i : Int).toNat] == CU2 [(0 : Nat) + (↑i : Int).toNat] && true))))), false)] ∧ headOf Try.f11 (0 : Nat) = headOf Try.f11 (0 : Nat) ∧ (((0 : Nat) = (0 : Nat) ∧ M = M) ∧ ((0 : Nat) = (0 : Nat) ∧ N = N) ∧ (↑N : Int) = (↑N : Int) ∧ (↑(i + (1 : Nat)) : Int) = IntKind.i64.wrap ((↑i : Int) + (1 : Int))) ∧ True) := by kernel_rfl

set_option maxHeartbeats 4000000 in
theorem sqR (N R M : Nat) (K C O : Ix → Int) (m n : Ix → Nat) (CU : Ix → Bool) (ls : Nat → Nat) (F : Ix → Int) (K2 C2 O2 : Ix → Int) (S : Ix → List UInt8) (CU2 : Ix → Bool) (i : Nat) (hi : i < N) (hN : N ≤ 1000) (h : N = M) (q1 : K [i] = K2 [i]) (q2 : C [i] = C2 [i]) (q3 : O [i] = O2 [i]) (q4 : bytesOf F [m [i]] 0 (n [i]) = S [i]) (q5 : CU [i] = CU2 [i]) (q6 : m [i] < R) (q7 : n [i] = ls (m [i])) (q8 : n [i] ≤ 1000)  (v : SV) (L' : HF) (next : RunsTo Try.prog 11 (headOf Try.f11 0) (envAt Try.f11.ntmps ([(1, vL 63 5 M), (12, vL 61 5 N), (13, vN N), (14, vN (i + 1 : Nat))])) (Sx.look ((pR 61 62 N K C O m n CU ++ (dR 63 M K2 C2 O2 S CU2 ++ pF 62 R ls F)) ++ ([]))) 80 (v) (L') 160) :
    RunsTo Try.prog 11 (headOf Try.f11 0) (envAt Try.f11.ntmps ([(1, vL 63 5 M), (12, vL 61 5 N), (13, vN N), (14, vN (i : Nat))])) (Sx.look ((pR 61 62 N K C O m n CU ++ (dR 63 M K2 C2 O2 S CU2 ++ pF 62 R ls F)) ++ ([]))) 80 (v) (L') 160 := by
  have hw : IntKind.i64.wrap ((i : Int) + 1) = ((i + 1 : Nat) : Int) := by rw [wr64 (by omega)]; rfl
  refine runs_more baseO (More.of (sqR_p0 N R M K C O m n CU ls F K2 C2 O2 S CU2 i) ⟨?oo, rfl, ?rr⟩) (by kernel_rfl) (by kernel_rfl) rfl (gtL (by decide)) (by decide) next
  case oo =>
    clear next
    refine (okc ?_ (okc ?_ (okc ?_ (okc ?_ (okc ?_ (okc ?_ (okc ?_ (okc ?_ (okc ?_ (okc ?_ okn))))))))))
    all_goals ((try simp (disch := omega) only [SS, hw, Go.Sx.sum, Nat.zero_add, q1, q2, q3, q4, q5]); first | done | omega | assumption | (simp (disch := omega) only [SS, hw, Go.Sx.sum, Nat.zero_add, q1, q2, q3, q4, q5] at *; first | done | omega | assumption) | (simp_all; done))
  case rr =>
    clear next
    try simp (disch := omega) only [SS, hw, Go.Sx.sum, Nat.zero_add, q1, q2, q3, q4, q5]
    repeat' apply And.intro
    all_goals first | exact True.intro | with_reducible rfl | omega | (intros; first | exact True.intro | with_reducible rfl | omega | (simp_all; done)) | (simp_all; done) | rfl

theorem sqEnd_p0 (N R M : Nat) (K C O : Ix → Int) (m n : Ix → Nat) (CU : Ix → Bool) (ls : Nat → Nat) (F : Ix → Int) (K2 C2 O2 : Ix → Int) (S : Ix → List UInt8) (CU2 : Ix → Bool) (i : Nat) :
    isEnd (evTill Try.prog [] 300 (99) 900 11 (headOf Try.f11 0) (envAt Try.f11.ntmps ([(1, vL 63 5 M), (12, vL 61 5 N), (13, vN N), (14, vN (i : Nat))])) ((pR 61 62 N K C O m n CU ++ (dR 63 M K2 C2 O2 S CU2 ++ pF 62 R ls F)) ++ ([])) ⟨[.s false], 120⟩) (endP ([]) (YES) ([]) 160) =
    (OkL [(decide ((↑i : Int) < (↑N : Int)), false)] ∧ true = true ∧ True) := by kernel_rfl

set_option maxHeartbeats 4000000 in
theorem sqEnd (N R M : Nat) (K C O : Ix → Int) (m n : Ix → Nat) (CU : Ix → Bool) (ls : Nat → Nat) (F : Ix → Int) (K2 C2 O2 : Ix → Int) (S : Ix → List UInt8) (CU2 : Ix → Bool) (i : Nat) (hi : i = N)  :
    RunsTo Try.prog 11 (headOf Try.f11 0) (envAt Try.f11.ntmps ([(1, vL 63 5 M), (12, vL 61 5 N), (13, vN N), (14, vN (i : Nat))])) (Sx.look ((pR 61 62 N K C O m n CU ++ (dR 63 M K2 C2 O2 S CU2 ++ pF 62 R ls F)) ++ ([]))) 80 (YES) (Sx.look ([])) 160 := by
  refine runs_last baseO (Sx.Ends.of (sqEnd_p0 N R M K C O m n CU ls F K2 C2 O2 S CU2 i) ⟨?oo, ?rr⟩) (by kernel_rfl) rfl (gtL (by decide)) (by decide)
  case oo =>
    refine (okc ?_ okn)
    all_goals ((try simp (disch := omega) only [SS]); first | done | omega | assumption | (simp (disch := omega) only [SS] at *; first | done | omega | assumption) | (simp_all; done))
  case rr =>
    try simp (disch := omega) only [SS]
    repeat' apply And.intro
    all_goals first | exact True.intro | with_reducible rfl | omega | (intros; first | exact True.intro | with_reducible rfl | omega | (simp_all; done)) | (simp_all; done) | rfl

theorem sqI (N R M : Nat) (K C O : Ix → Int) (m n : Ix → Nat) (CU : Ix → Bool) (ls : Nat → Nat) (F : Ix → Int) (K2 C2 O2 : Ix → Int) (S : Ix → List UInt8) (CU2 : Ix → Bool) (h : N = M) (hN : N ≤ 1000) (hq : ∀ i, i < N → eqC N R K C O m n CU ls F K2 C2 O2 S CU2 i) : RunsTo Try.prog 11 [.code (bodyOf Try.f11)] (envOf [vL 61 5 N, vL 63 5 M] Try.f11.ntmps) (Sx.look ((pR 61 62 N K C O m n CU ++ (dR 63 M K2 C2 O2 S CU2 ++ pF 62 R ls F)) ++ ([]))) 80 (YES) (Sx.look []) 160 := by
  refine sqStart N R M K C O m n CU ls F K2 C2 O2 S CU2 h _ _ ?_
  suffices q : ∀ (k i : Nat), i + k = N → RunsTo Try.prog 11 (headOf Try.f11 0) (envAt Try.f11.ntmps ([(1, vL 63 5 M), (12, vL 61 5 N), (13, vN N), (14, vN (i : Nat))])) (Sx.look ((pR 61 62 N K C O m n CU ++ (dR 63 M K2 C2 O2 S CU2 ++ pF 62 R ls F)) ++ ([]))) 80 (YES) (Sx.look []) 160 from q N 0 (by omega)
  intro k
  induction k with
  | zero => intro i hi; exact sqEnd N R M K C O m n CU ls F K2 C2 O2 S CU2 i (by omega)
  | succ k ih =>
    intro i hi
    obtain ⟨q1, q2, q3, q4, q5, q6, q7, q8⟩ := hq i (by omega)
    exact sqR N R M K C O m n CU ls F K2 C2 O2 S CU2 i (by omega) hN h q1 q2 q3 q4 q5 q6 q7 q8 _ _ (ih (i + 1) (by omega))
def sqP : PC := { args := [.v (.vl 61 5 0), .v (.vl 63 5 10)], heap := [⟨61, false, 5, .ta 0 (.tc (.vi .i64 1) (.tc (.vi .i64 2) (.tc (.vi .i64 3) (.tc (.vf 62 1 4 5) (.tc (.vb 6) .t0)))))⟩, ⟨63, false, 5, .ta 10 (.tc (.vi .i64 11) (.tc (.vi .i64 12) (.tc (.vi .i64 13) (.tc (.vs 14) (.tc (.vb 15) .t0)))))⟩], fams := [⟨62, false, 1, 9, 7, .vi .u8 8⟩], gs := [], G := 0, tp := 999, n := 80, n' := 160, cond := fun e => (decide (eN e 0 = eN e 10) && decide (eN e 0 ≤ 1000)) && eqB (eN e 0) (eN e 9) (eI e 1) (eI e 2) (eI e 3) (eM e 4) (eM e 5) (eB e 6) (eL e 7) (eI e 8) (eI e 11) (eI e 12) (eI e 13) (eS e 14) (eB e 15), v := fun e => YES, post := fun e => [] }
theorem sqP_pc : PC.Runs Try.prog 11 Try.f11 (bodyOf Try.f11) sqP := ⟨Try.func11, by kernel_rfl, (fun g hg => by first | (cases hg; done) | (revert g; show ∀ g ∈ ([] : List Nat), g < 0; decide)), fun e H hc => by
  have hc : ((decide (eN e 0 = eN e 10) && decide (eN e 0 ≤ 1000)) && eqB (eN e 0) (eN e 9) (eI e 1) (eI e 2) (eI e 3) (eM e 4) (eM e 5) (eB e 6) (eL e 7) (eI e 8) (eI e 11) (eI e 12) (eI e 13) (eS e 14) (eB e 15)) = true := hc
  try simp only [Bool.and_eq_true, decide_eq_true_eq, Nat.beq_eq] at hc
  exact sqI (eN e 0) (eN e 9) (eN e 10) (eI e 1) (eI e 2) (eI e 3) (eM e 4) (eM e 5) (eB e 6) (eL e 7) (eI e 8) (eI e 11) (eI e 12) (eI e 13) (eS e 14) (eB e 15) hc.1.1 hc.1.2 (fun i hi => by have := all_ok hc.2 hi; simpa only [decide_eq_true_eq] using this)⟩
theorem byStart_p0 (N : Nat) (B : Ix → Int) :
    isMore (evTill Try.prog [] 300 (behind Try.f7 0) 900 7 [.code (bodyOf Try.f7)] (envOf [vL 60 1 N] Try.f7.ntmps) (rB 60 N B ++ ([])) ⟨[.s true, .s true, .s true, .s true, .s true, .s true, .s true, .s true], 80⟩) (moreP (headOf Try.f7 0) ([((101 : Nat), Rn.to (80 : Nat))]) Try.f7.ntmps ([(0, vL 60 1 N), (3, vL 101 1 N), (21, vN 5), (22, vN (0 : Nat))]) ([⟨101, true, none, 1, .ta (N + 5) (.vi .u8 (inG B N (0)))⟩]) 160) =
    (OkL [(decide ((0 : Int) ≤ (↑N : Int) ∧ (↑N : Int) ≤ IntKind.i64.wrap ((↑N : Int) + (5 : Int))), true), (decide ((↑(1 : Nat) : Int) * IntKind.i64.wrap ((↑N : Int) + (5 : Int)) ≤ (281474976710656 : Int)), true), (((0 : Nat) + N).ble N, true), (N.ble (↑N : Int).toNat, true), (((0 : Nat) + (↑N : Int).toNat).ble (IntKind.i64.wrap ((↑N : Int) + (5 : Int))).toNat, true), (((0 : Nat) + (↑N : Int).toNat).ble (IntKind.i64.wrap ((↑N : Int) + (5 : Int))).toNat, true), (decide ((0 : Int) ≤ IntKind.i64.wrap ((↑N : Int) + (5 : Int)) ∧ IntKind.i64.wrap ((↑N : Int) + (5 : Int)) + (↑(0 : Nat) : Int) ≤ (↑(IntKind.i64.wrap ((↑N : Int) + (5 : Int))).toNat : Int)), true), (decide ((0 : Int) ≤ (↑N : Int) ∧ (↑N : Int) ≤ IntKind.i64.wrap ((↑N : Int) + (5 : Int))), true)] ∧ headOf Try.f7 (0 : Nat) = headOf Try.f7 (0 : Nat) ∧ (((0 : Nat) = (0 : Nat) ∧ N = N) ∧ ((0 : Nat) = (0 : Nat) ∧ N = (↑N : Int).toNat) ∧ (5 : Int) = (↑((IntKind.i64.wrap ((↑N : Int) + (5 : Int))).toNat - (↑N : Int).toNat) : Int) ∧ (↑(0 : Nat) : Int) = (0 : Int)) ∧ N + (5 : Nat) = (IntKind.i64.wrap ((↑N : Int) + (5 : Int))).toNat ∧ ∀ (i : Nat), i < N + (5 : Nat) → inG B N (0 : Nat) [i] = cpyF N (0 : Nat) (fun is => (0 : Int)) (fun js => B (subIx (0 : Nat) js)) [i]) := by kernel_rfl

set_option maxHeartbeats 4000000 in
theorem byStart (N : Nat) (B : Ix → Int) (hN : N ≤ 1000)  (v : SV) (L' : HF) (next : RunsTo Try.prog 7 (headOf Try.f7 0) (envAt Try.f7.ntmps ([(0, vL 60 1 N), (3, vL 101 1 N), (21, vN 5), (22, vN (0 : Nat))])) (Sx.look (rB 60 N B ++ ([⟨101, true, none, 1, .ta (N + 5) (.vi .u8 (inG B N (0)))⟩]))) 80 (v) (L') 160) :
    RunsTo Try.prog 7 [.code (bodyOf Try.f7)] (envOf [vL 60 1 N] Try.f7.ntmps) (Sx.look (rB 60 N B ++ ([]))) 80 (v) (L') 160 := by
  have hw5 : IntKind.i64.wrap ((N : Int) + 5) = ((N + 5 : Nat) : Int) := by rw [wr64 (by omega)]; rfl
  refine runs_more baseO (More.of (byStart_p0 N B) ⟨?oo, rfl, ?rr⟩) (by kernel_rfl) (by kernel_rfl) rfl (gtL (by decide)) (by decide) next
  case oo =>
    clear next
    refine (okc ?_ (okc ?_ (okc ?_ (okc ?_ (okc ?_ (okc ?_ (okc ?_ (okc ?_ okn))))))))
    all_goals ((try simp (disch := omega) only [SS, hw5, Int.toNat_natCast, Go.Sx.sum]); first | done | omega | assumption | (simp (disch := omega) only [SS, hw5, Int.toNat_natCast, Go.Sx.sum] at *; first | done | omega | assumption) | (simp_all; done))
  case rr =>
    clear next
    try simp (disch := omega) only [SS, hw5, Int.toNat_natCast, Go.Sx.sum]
    repeat' apply And.intro
    all_goals first | exact True.intro | with_reducible rfl | omega | (intro k hk; exact inG_0 B N k) | (intro k hk; simp [inG, cpyF]; done) | (intro k hk; simp [inG, cpyF]; split <;> simp_all; done) | (simp_all; done)

theorem byR_p0 (N : Nat) (B : Ix → Int) (i : Nat) :
    isMore (evTill Try.prog [] 300 (behind Try.f7 0) 900 7 (headOf Try.f7 0) (envAt Try.f7.ntmps ([(0, vL 60 1 N), (3, vL 101 1 N), (21, vN 5), (22, vN (i : Nat))])) (rB 60 N B ++ ([⟨101, true, none, 1, .ta (N + 5) (.vi .u8 (inG B N (i)))⟩])) ⟨[.s true, .s true, .s true, .s true, .s true, .s true], 120⟩) (moreP (headOf Try.f7 0) ([]) Try.f7.ntmps ([(0, vL 60 1 N), (3, vL 101 1 N), (21, vN 5), (22, vN (i + 1 : Nat))]) ([⟨101, true, none, 1, .ta (N + 5) (.vi .u8 (inG B N (i + 1)))⟩]) 160) =
    (OkL [(decide ((↑i : Int) < (5 : Int)), true), (((0 : Nat) + N).ble (N + (5 : Nat)), true), (decide ((0 : Int) ≤ IntKind.i64.wrap ((↑N : Int) + (5 : Int)) ∧ IntKind.i64.wrap ((↑N : Int) + (5 : Int)) + (↑(0 : Nat) : Int) ≤ (↑(N + (5 : Nat)) : Int)), true), (decide ((0 : Int) ≤ IntKind.i64.wrap ((↑N : Int) + (↑i : Int)) ∧ IntKind.i64.wrap ((↑N : Int) + (↑i : Int)) < (↑(IntKind.i64.wrap ((↑N : Int) + (5 : Int))).toNat : Int)), true), (((0 : Nat) + (IntKind.i64.wrap ((↑N : Int) + (↑i : Int))).toNat).blt (N + (5 : Nat)), true), (((0 : Nat) + (IntKind.i64.wrap ((↑N : Int) + (↑i : Int))).toNat).blt (N + (5 : Nat)), true)] ∧ headOf Try.f7 (0 : Nat) = headOf Try.f7 (0 : Nat) ∧ (((0 : Nat) = (0 : Nat) ∧ N = N) ∧ ((0 : Nat) = (0 : Nat) ∧ N = N) ∧ (5 : Int) = (5 : Int) ∧ (↑(i + (1 : Nat)) : Int) = IntKind.i64.wrap ((↑i : Int) + (1 : Int))) ∧ N + (5 : Nat) = N + (5 : Nat) ∧ ∀ (i_1 : Nat), i_1 < N + (5 : Nat) → inG B N (i + (1 : Nat)) [i_1] = upd (inG B N i) [(0 : Nat) + (IntKind.i64.wrap ((↑N : Int) + (↑i : Int))).toNat] (90 : Int) [i_1]) := by kernel_rfl

set_option maxHeartbeats 4000000 in
theorem byR (N : Nat) (B : Ix → Int) (i : Nat) (hi : i < 5) (hN : N ≤ 1000)  (v : SV) (L' : HF) (next : RunsTo Try.prog 7 (headOf Try.f7 0) (envAt Try.f7.ntmps ([(0, vL 60 1 N), (3, vL 101 1 N), (21, vN 5), (22, vN (i + 1 : Nat))])) (Sx.look (rB 60 N B ++ ([⟨101, true, none, 1, .ta (N + 5) (.vi .u8 (inG B N (i + 1)))⟩]))) 80 (v) (L') 160) :
    RunsTo Try.prog 7 (headOf Try.f7 0) (envAt Try.f7.ntmps ([(0, vL 60 1 N), (3, vL 101 1 N), (21, vN 5), (22, vN (i : Nat))])) (Sx.look (rB 60 N B ++ ([⟨101, true, none, 1, .ta (N + 5) (.vi .u8 (inG B N (i)))⟩]))) 80 (v) (L') 160 := by
  have hw : IntKind.i64.wrap ((i : Int) + 1) = ((i + 1 : Nat) : Int) := by rw [wr64 (by omega)]; rfl
  have hw5 : IntKind.i64.wrap ((N : Int) + 5) = ((N + 5 : Nat) : Int) := by rw [wr64 (by omega)]; rfl
  have hwi : IntKind.i64.wrap ((N : Int) + (i : Int)) = ((N + i : Nat) : Int) := by rw [wr64 (by omega)]; rfl
  refine runs_more baseO (More.of (byR_p0 N B i) ⟨?oo, rfl, ?rr⟩) (by kernel_rfl) (by kernel_rfl) rfl (gtL (by decide)) (by decide) next
  case oo =>
    clear next
    refine (okc ?_ (okc ?_ (okc ?_ (okc ?_ (okc ?_ (okc ?_ okn))))))
    all_goals ((try simp (disch := omega) only [SS, hw, hw5, hwi, Int.toNat_natCast, Go.Sx.sum, Nat.zero_add]); first | done | omega | assumption | (simp (disch := omega) only [SS, hw, hw5, hwi, Int.toNat_natCast, Go.Sx.sum, Nat.zero_add] at *; first | done | omega | assumption) | (simp_all; done))
  case rr =>
    clear next
    try simp (disch := omega) only [SS, hw, hw5, hwi, Int.toNat_natCast, Go.Sx.sum, Nat.zero_add]
    repeat' apply And.intro
    all_goals first | exact True.intro | with_reducible rfl | omega | (intro k hk; exact inG_step B N i k) | (simp_all; done)

theorem byEnd_p0 (N : Nat) (B : Ix → Int) (i : Nat) :
    isEnd (evTill Try.prog [] 300 (99) 900 7 (headOf Try.f7 0) (envAt Try.f7.ntmps ([(0, vL 60 1 N), (3, vL 101 1 N), (21, vN 5), (22, vN (i : Nat))])) (rB 60 N B ++ ([⟨101, true, none, 1, .ta (N + 5) (.vi .u8 (inG B N (i)))⟩])) ⟨[.s false], 120⟩) (endP ([]) (vL 101 1 N) ([⟨101, true, none, 1, .ta (N + 5) (.vi .u8 (inG B N 5))⟩]) 160) =
    (OkL [(decide ((↑i : Int) < (5 : Int)), false)] ∧ ((0 : Nat) = (0 : Nat) ∧ N = N) ∧ N + (5 : Nat) = N + (5 : Nat) ∧ ∀ (i_1 : Nat), i_1 < N + (5 : Nat) → inG B N (5 : Nat) [i_1] = inG B N i [i_1]) := by kernel_rfl

set_option maxHeartbeats 4000000 in
theorem byEnd (N : Nat) (B : Ix → Int) (i : Nat) (hi : i = 5)  :
    RunsTo Try.prog 7 (headOf Try.f7 0) (envAt Try.f7.ntmps ([(0, vL 60 1 N), (3, vL 101 1 N), (21, vN 5), (22, vN (i : Nat))])) (Sx.look (rB 60 N B ++ ([⟨101, true, none, 1, .ta (N + 5) (.vi .u8 (inG B N (i)))⟩]))) 80 (vL 101 1 N) (Sx.look ([⟨101, true, none, 1, .ta (N + 5) (.vi .u8 (inG B N 5))⟩])) 160 := by
  refine runs_last baseO (Sx.Ends.of (byEnd_p0 N B i) ⟨?oo, ?rr⟩) (by kernel_rfl) rfl (gtL (by decide)) (by decide)
  case oo =>
    refine (okc ?_ okn)
    all_goals ((try simp (disch := omega) only [SS, hi]); first | done | omega | assumption | (simp (disch := omega) only [SS, hi] at *; first | done | omega | assumption) | (simp_all; done))
  case rr =>
    try simp (disch := omega) only [SS, hi]
    repeat' apply And.intro
    all_goals first | exact True.intro | with_reducible rfl | omega | (intros; first | exact True.intro | with_reducible rfl | omega | (simp_all; done)) | (simp_all; done) | rfl

theorem byI (N : Nat) (B : Ix → Int) (hN : N ≤ 1000) : RunsTo Try.prog 7 [.code (bodyOf Try.f7)] (envOf [vL 60 1 N] Try.f7.ntmps) (Sx.look (rB 60 N B ++ ([]))) 80 (vL 101 1 N) (Sx.look [⟨101, true, none, 1, .ta (N + 5) (.vi .u8 (inG B N 5))⟩]) 160 :=
  byStart N B hN _ _ (byR N B 0 (by omega) hN _ _ (byR N B 1 (by omega) hN _ _ (byR N B 2 (by omega) hN _ _ (byR N B 3 (by omega) hN _ _ (byR N B 4 (by omega) hN _ _ (byEnd N B 5 rfl))))))
def byP : PC := { args := [.v (.vl 60 1 0)], heap := [⟨60, false, 1, .ta 0 (.vi .u8 1)⟩], gs := [], G := 0, tp := 999, n := 80, n' := 160, cond := fun e => decide (eN e 0 ≤ 1000), v := fun e => vL 101 1 (eN e 0), post := fun e => [⟨101, true, none, 1, .ta (eN e 0 + 5) (.vi .u8 (inG (eI e 1) (eN e 0) 5))⟩] }
theorem byP_pc : PC.Runs Try.prog 7 Try.f7 (bodyOf Try.f7) byP := ⟨Try.func7, by kernel_rfl, (fun g hg => by first | (cases hg; done) | (revert g; show ∀ g ∈ ([] : List Nat), g < 0; decide)), fun e H hc => by
  have hc : (decide (eN e 0 ≤ 1000)) = true := hc
  try simp only [Bool.and_eq_true, decide_eq_true_eq, Nat.beq_eq] at hc
  exact byI (eN e 0) (eI e 1) hc⟩
theorem keStart_p0 (N M : Nat) (C B : Ix → Int) :
    isMore (evTill Try.prog [] 300 (behind Try.f15 0) 900 15 [.code (bodyOf Try.f15)] (envOf [vL 60 1 N, vL 61 1 N] Try.f15.ntmps) ((rB 60 M C ++ rB 61 N B) ++ ([])) ⟨[.s false, .s true, .s true], 80⟩) (moreP (headOf Try.f15 0) ([]) Try.f15.ntmps ([(1, vL 61 1 N), (16, vL 60 1 (N + 5)), (17, vN ((N + 5 : Nat) : Int)), (18, vN (0 : Nat))]) ([]) 160) =
    (OkL [((↑N : Int) != (↑N : Int), false), (((0 : Nat) + N).ble M, true), (decide ((0 : Int) ≤ IntKind.i64.wrap ((↑N : Int) + (5 : Int)) ∧ IntKind.i64.wrap ((↑N : Int) + (5 : Int)) + (↑(0 : Nat) : Int) ≤ (↑M : Int)), true)] ∧ headOf Try.f15 (0 : Nat) = headOf Try.f15 (0 : Nat) ∧ (((0 : Nat) = (0 : Nat) ∧ N = N) ∧ ((0 : Nat) = (0 : Nat) ∧ N + (5 : Nat) = (IntKind.i64.wrap ((↑N : Int) + (5 : Int))).toNat) ∧ (↑(N + (5 : Nat)) : Int) = (↑(IntKind.i64.wrap ((↑N : Int) + (5 : Int))).toNat : Int) ∧ (↑(0 : Nat) : Int) = (0 : Int)) ∧ True) := by kernel_rfl

set_option maxHeartbeats 4000000 in
theorem keStart (N M : Nat) (C B : Ix → Int) (hN : N ≤ 1000) (hM : N + 5 ≤ M)  (v : SV) (L' : HF) (next : RunsTo Try.prog 15 (headOf Try.f15 0) (envAt Try.f15.ntmps ([(1, vL 61 1 N), (16, vL 60 1 (N + 5)), (17, vN ((N + 5 : Nat) : Int)), (18, vN (0 : Nat))])) (Sx.look ((rB 60 M C ++ rB 61 N B) ++ ([]))) 80 (v) (L') 160) :
    RunsTo Try.prog 15 [.code (bodyOf Try.f15)] (envOf [vL 60 1 N, vL 61 1 N] Try.f15.ntmps) (Sx.look ((rB 60 M C ++ rB 61 N B) ++ ([]))) 80 (v) (L') 160 := by
  have hw5 : IntKind.i64.wrap ((N : Int) + 5) = ((N + 5 : Nat) : Int) := by rw [wr64 (by omega)]; rfl
  refine runs_more baseO (More.of (keStart_p0 N M C B) ⟨?oo, rfl, ?rr⟩) (by kernel_rfl) (by kernel_rfl) rfl (gtL (by decide)) (by decide) next
  case oo =>
    clear next
    refine (okc ?_ (okc ?_ (okc ?_ okn)))
    all_goals ((try simp (disch := omega) only [SS, hw5, Int.toNat_natCast, Go.Sx.sum]); first | done | omega | assumption | (simp (disch := omega) only [SS, hw5, Int.toNat_natCast, Go.Sx.sum] at *; first | done | omega | assumption) | (simp_all; done))
  case rr =>
    clear next
    try simp (disch := omega) only [SS, hw5, Int.toNat_natCast, Go.Sx.sum]
    repeat' apply And.intro
    all_goals first | exact True.intro | with_reducible rfl | omega | (intros; first | exact True.intro | with_reducible rfl | omega | (simp_all; done)) | (simp_all; done) | rfl

theorem keA_p0 (N M : Nat) (C B : Ix → Int) (i : Nat) :
    isMore (evTill Try.prog [] 300 (behind Try.f15 0) 900 15 (headOf Try.f15 0) (envAt Try.f15.ntmps ([(1, vL 61 1 N), (16, vL 60 1 (N + 5)), (17, vN ((N + 5 : Nat) : Int)), (18, vN (i : Nat))])) ((rB 60 M C ++ rB 61 N B) ++ ([])) ⟨[.s true, .s true, .s true, .s true, .s true, .s true, .s true, .s true, .s false, .s false], 120⟩) (moreP (headOf Try.f15 0) ([]) Try.f15.ntmps ([(1, vL 61 1 N), (16, vL 60 1 (N + 5)), (17, vN ((N + 5 : Nat) : Int)), (18, vN (i + 1 : Nat))]) ([]) 160) =
    (OkL [(decide ((↑i : Int) < (↑(N + (5 : Nat)) : Int)), true), (decide ((0 : Int) ≤ (↑i : Int) ∧ (↑i : Int) < (↑(N + (5 : Nat)) : Int)), true), (((0 : Nat) + (↑i : Int).toNat).blt M, true), (((0 : Nat) + (↑i : Int).toNat).blt M, true), (decide ((↑i : Int) < (↑N : Int)), true), (decide ((0 : Int) ≤ (↑i : Int) ∧ (↑i : Int) < (↑N : Int)), true), (((0 : Nat) + (↑i : Int).toNat).blt N, true), (((0 : Nat) + (↑i : Int).toNat).blt N, true), (C [(0 : Nat) + (↑i : Int).toNat] != B [(0 : Nat) + (↑i : Int).toNat], false), (decide ((↑i : Int) ≥ (↑N : Int)), false)] ∧ headOf Try.f15 (0 : Nat) = headOf Try.f15 (0 : Nat) ∧ (((0 : Nat) = (0 : Nat) ∧ N = N) ∧ ((0 : Nat) = (0 : Nat) ∧ N + (5 : Nat) = N + (5 : Nat)) ∧ (↑(N + (5 : Nat)) : Int) = (↑(N + (5 : Nat)) : Int) ∧ (↑(i + (1 : Nat)) : Int) = IntKind.i64.wrap ((↑i : Int) + (1 : Int))) ∧ True) := by kernel_rfl

set_option maxHeartbeats 4000000 in
theorem keA (N M : Nat) (C B : Ix → Int) (i : Nat) (hi : i < N) (hN : N ≤ 1000) (hM : N + 5 ≤ M) (h : C [i] = B [i])  (v : SV) (L' : HF) (next : RunsTo Try.prog 15 (headOf Try.f15 0) (envAt Try.f15.ntmps ([(1, vL 61 1 N), (16, vL 60 1 (N + 5)), (17, vN ((N + 5 : Nat) : Int)), (18, vN (i + 1 : Nat))])) (Sx.look ((rB 60 M C ++ rB 61 N B) ++ ([]))) 80 (v) (L') 160) :
    RunsTo Try.prog 15 (headOf Try.f15 0) (envAt Try.f15.ntmps ([(1, vL 61 1 N), (16, vL 60 1 (N + 5)), (17, vN ((N + 5 : Nat) : Int)), (18, vN (i : Nat))])) (Sx.look ((rB 60 M C ++ rB 61 N B) ++ ([]))) 80 (v) (L') 160 := by
  have hw : IntKind.i64.wrap ((i : Int) + 1) = ((i + 1 : Nat) : Int) := by rw [wr64 (by omega)]; rfl
  refine runs_more baseO (More.of (keA_p0 N M C B i) ⟨?oo, rfl, ?rr⟩) (by kernel_rfl) (by kernel_rfl) rfl (gtL (by decide)) (by decide) next
  case oo =>
    clear next
    refine (okc ?_ (okc ?_ (okc ?_ (okc ?_ (okc ?_ (okc ?_ (okc ?_ (okc ?_ (okc ?_ (okc ?_ okn))))))))))
    all_goals ((try simp (disch := omega) only [SS, hw, Go.Sx.sum, Nat.zero_add, h]); first | done | omega | assumption | (simp (disch := omega) only [SS, hw, Go.Sx.sum, Nat.zero_add, h] at *; first | done | omega | assumption) | (simp_all; done))
  case rr =>
    clear next
    try simp (disch := omega) only [SS, hw, Go.Sx.sum, Nat.zero_add, h]
    repeat' apply And.intro
    all_goals first | exact True.intro | with_reducible rfl | omega | (intros; first | exact True.intro | with_reducible rfl | omega | (simp_all; done)) | (simp_all; done) | rfl

theorem keB_p0 (N M : Nat) (C B : Ix → Int) (i : Nat) :
    isMore (evTill Try.prog [] 300 (behind Try.f15 0) 900 15 (headOf Try.f15 0) (envAt Try.f15.ntmps ([(1, vL 61 1 N), (16, vL 60 1 (N + 5)), (17, vN ((N + 5 : Nat) : Int)), (18, vN (i : Nat))])) ((rB 60 M C ++ rB 61 N B) ++ ([])) ⟨[.s true, .s true, .s true, .s true, .s false, .s true, .s false], 120⟩) (moreP (headOf Try.f15 0) ([]) Try.f15.ntmps ([(1, vL 61 1 N), (16, vL 60 1 (N + 5)), (17, vN ((N + 5 : Nat) : Int)), (18, vN (i + 1 : Nat))]) ([]) 160) =
    (OkL [(decide ((↑i : Int) < (↑(N + (5 : Nat)) : Int)), true), (decide ((0 : Int) ≤ (↑i : Int) ∧ (↑i : Int) < (↑(N + (5 : Nat)) : Int)), true), (((0 : Nat) + (↑i : Int).toNat).blt M, true), (((0 : Nat) + (↑i : Int).toNat).blt M, true), (decide ((↑i : Int) < (↑N : Int)), false), (decide ((↑i : Int) ≥ (↑N : Int)), true), (C [(0 : Nat) + (↑i : Int).toNat] != (90 : Int), false)] ∧ headOf Try.f15 (0 : Nat) = headOf Try.f15 (0 : Nat) ∧ (((0 : Nat) = (0 : Nat) ∧ N = N) ∧ ((0 : Nat) = (0 : Nat) ∧ N + (5 : Nat) = N + (5 : Nat)) ∧ (↑(N + (5 : Nat)) : Int) = (↑(N + (5 : Nat)) : Int) ∧ (↑(i + (1 : Nat)) : Int) = IntKind.i64.wrap ((↑i : Int) + (1 : Int))) ∧ True) := by kernel_rfl

set_option maxHeartbeats 4000000 in
theorem keB (N M : Nat) (C B : Ix → Int) (i : Nat) (hi : N ≤ i) (hi2 : i < N + 5) (hN : N ≤ 1000) (hM : N + 5 ≤ M) (h : C [i] = 90)  (v : SV) (L' : HF) (next : RunsTo Try.prog 15 (headOf Try.f15 0) (envAt Try.f15.ntmps ([(1, vL 61 1 N), (16, vL 60 1 (N + 5)), (17, vN ((N + 5 : Nat) : Int)), (18, vN (i + 1 : Nat))])) (Sx.look ((rB 60 M C ++ rB 61 N B) ++ ([]))) 80 (v) (L') 160) :
    RunsTo Try.prog 15 (headOf Try.f15 0) (envAt Try.f15.ntmps ([(1, vL 61 1 N), (16, vL 60 1 (N + 5)), (17, vN ((N + 5 : Nat) : Int)), (18, vN (i : Nat))])) (Sx.look ((rB 60 M C ++ rB 61 N B) ++ ([]))) 80 (v) (L') 160 := by
  have hw : IntKind.i64.wrap ((i : Int) + 1) = ((i + 1 : Nat) : Int) := by rw [wr64 (by omega)]; rfl
  refine runs_more baseO (More.of (keB_p0 N M C B i) ⟨?oo, rfl, ?rr⟩) (by kernel_rfl) (by kernel_rfl) rfl (gtL (by decide)) (by decide) next
  case oo =>
    clear next
    refine (okc ?_ (okc ?_ (okc ?_ (okc ?_ (okc ?_ (okc ?_ (okc ?_ okn)))))))
    all_goals ((try simp (disch := omega) only [SS, hw, Go.Sx.sum, Nat.zero_add, h]); first | done | omega | assumption | (simp (disch := omega) only [SS, hw, Go.Sx.sum, Nat.zero_add, h] at *; first | done | omega | assumption) | (simp_all; done))
  case rr =>
    clear next
    try simp (disch := omega) only [SS, hw, Go.Sx.sum, Nat.zero_add, h]
    repeat' apply And.intro
    all_goals first | exact True.intro | with_reducible rfl | omega | (intros; first | exact True.intro | with_reducible rfl | omega | (simp_all; done)) | (simp_all; done) | rfl

theorem keEnd_p0 (N M : Nat) (C B : Ix → Int) (i : Nat) :
    isEnd (evTill Try.prog [] 300 (99) 900 15 (headOf Try.f15 0) (envAt Try.f15.ntmps ([(1, vL 61 1 N), (16, vL 60 1 (N + 5)), (17, vN ((N + 5 : Nat) : Int)), (18, vN (i : Nat))])) ((rB 60 M C ++ rB 61 N B) ++ ([])) ⟨[.s false], 120⟩) (endP ([]) (YES) ([]) 160) =
    (OkL [(decide ((↑i : Int) < (↑(N + (5 : Nat)) : Int)), false)] ∧ true = true ∧ True) := by kernel_rfl

set_option maxHeartbeats 4000000 in
theorem keEnd (N M : Nat) (C B : Ix → Int) (i : Nat) (hi : i = N + 5)  :
    RunsTo Try.prog 15 (headOf Try.f15 0) (envAt Try.f15.ntmps ([(1, vL 61 1 N), (16, vL 60 1 (N + 5)), (17, vN ((N + 5 : Nat) : Int)), (18, vN (i : Nat))])) (Sx.look ((rB 60 M C ++ rB 61 N B) ++ ([]))) 80 (YES) (Sx.look ([])) 160 := by
  refine runs_last baseO (Sx.Ends.of (keEnd_p0 N M C B i) ⟨?oo, ?rr⟩) (by kernel_rfl) rfl (gtL (by decide)) (by decide)
  case oo =>
    refine (okc ?_ okn)
    all_goals ((try simp (disch := omega) only [SS]); first | done | omega | assumption | (simp (disch := omega) only [SS] at *; first | done | omega | assumption) | (simp_all; done))
  case rr =>
    try simp (disch := omega) only [SS]
    repeat' apply And.intro
    all_goals first | exact True.intro | with_reducible rfl | omega | (intros; first | exact True.intro | with_reducible rfl | omega | (simp_all; done)) | (simp_all; done) | rfl

theorem keI (N M : Nat) (C B : Ix → Int) (hN : N ≤ 1000) (hM : N + 5 ≤ M) (h : ∀ i, i < N + 5 → C [i] = inG B N 5 [i]) : RunsTo Try.prog 15 [.code (bodyOf Try.f15)] (envOf [vL 60 1 N, vL 61 1 N] Try.f15.ntmps) (Sx.look ((rB 60 M C ++ rB 61 N B) ++ ([]))) 80 (YES) (Sx.look []) 160 := by
  refine keStart N M C B hN hM _ _ ?_
  suffices q : ∀ (k i : Nat), i + k = N + 5 → RunsTo Try.prog 15 (headOf Try.f15 0) (envAt Try.f15.ntmps ([(1, vL 61 1 N), (16, vL 60 1 (N + 5)), (17, vN ((N + 5 : Nat) : Int)), (18, vN (i : Nat))])) (Sx.look ((rB 60 M C ++ rB 61 N B) ++ ([]))) 80 (YES) (Sx.look []) 160 from q (N + 5) 0 (by omega)
  intro k
  induction k with
  | zero => intro i hi; exact keEnd N M C B i (by omega)
  | succ k ih =>
    intro i hi
    have q := ih (i + 1) (by omega)
    have hc := h i (by omega)
    rw [inG_at] at hc
    by_cases hn : i < N
    · rw [if_pos hn] at hc; exact keA N M C B i hn hN hM hc _ _ q
    · rw [if_neg hn, if_pos (by omega)] at hc; exact keB N M C B i (by omega) (by omega) hN hM hc _ _ q
def keP : PC := { args := [.v (.vl 60 1 0), .v (.vl 61 1 0)], heap := [⟨60, false, 1, .ta 3 (.vi .u8 1)⟩, ⟨61, false, 1, .ta 0 (.vi .u8 2)⟩], gs := [], G := 0, tp := 999, n := 80, n' := 160, cond := fun e => (decide (eN e 0 ≤ 1000) && decide (eN e 0 + 5 ≤ eN e 3)) && allEq (eI e 1) (inG (eI e 2) (eN e 0) 5) (eN e 0 + 5), v := fun e => YES, post := fun e => [] }
theorem keP_pc : PC.Runs Try.prog 15 Try.f15 (bodyOf Try.f15) keP := ⟨Try.func15, by kernel_rfl, (fun g hg => by first | (cases hg; done) | (revert g; show ∀ g ∈ ([] : List Nat), g < 0; decide)), fun e H hc => by
  have hc : ((decide (eN e 0 ≤ 1000) && decide (eN e 0 + 5 ≤ eN e 3)) && allEq (eI e 1) (inG (eI e 2) (eN e 0) 5) (eN e 0 + 5)) = true := hc
  try simp only [Bool.and_eq_true, decide_eq_true_eq, Nat.beq_eq] at hc
  exact keI (eN e 0) (eN e 3) (eI e 1) (eI e 2) hc.1.1 hc.1.2 (fun i hi => allEq_iff.1 hc.2 i hi)⟩
def sumsD : List (FuncId × Summ) := [(12, alP.summ 0)]
theorem baseD : Base0 Try.prog sumsD := (baseO.cons Try.func12 (by kernel_rfl) (PC.summ_ok alP_pc gtopG))
theorem daStart_p0 (N M Q : Nat) (B U : Ix → Int) (raw : Bool) :
    isMore (evTill Try.prog sumsD 300 (behind Try.f13 0) 900 13 [.code (bodyOf Try.f13)] (envOf [vL 60 1 N, vL 61 1 Q, vB raw] Try.f13.ntmps) ((rB 60 M B ++ rI 61 Q U) ++ ([])) ⟨[.s true, .s true], 80⟩) (moreP (headOf Try.f13 0) ([((104 : Nat), Rn.nil (1 : Nat))]) Try.f13.ntmps ([(7, vL 104 1 (([] : List UInt8)).length), (13, vL 102 5 ((alF N Q B U raw)).length), (14, vN ((alF N Q B U raw)).length), (15, vN (0 : Nat))]) (toE 102 103 ((alF N Q B U raw)) ++ bW 104 (([] : List UInt8))) 480) =
    (OkL [(Q.beq Q, true), (decide (N ≤ (200 : Nat)) && decide (Q ≤ (100 : Nat)) && (decide (N ≤ M) && bndB B N), true)] ∧ headOf Try.f13 (0 : Nat) = headOf Try.f13 (0 : Nat) ∧ ((0 : Nat) = (0 : Nat) ∧ ((0 : Nat) = (0 : Nat) ∧ (alF N Q B U raw).length = (alF N Q B U raw).length) ∧ (↑(alF N Q B U raw).length : Int) = (↑(alF N Q B U raw).length : Int) ∧ (↑(0 : Nat) : Int) = (0 : Int)) ∧ ((alF N Q B U raw).length = (alF N Q B U raw).length ∧ (∀ (i : Nat), i < (alF N Q B U raw).length → tK (alF N Q B U raw) [i] = tK (alF N Q B U raw) [i]) ∧ (∀ (i : Nat), i < (alF N Q B U raw).length → tC (alF N Q B U raw) [i] = tC (alF N Q B U raw) [i]) ∧ (∀ (i : Nat), i < (alF N Q B U raw).length → tO (alF N Q B U raw) [i] = tO (alF N Q B U raw) [i]) ∧ ((∀ (i : Nat), i < (alF N Q B U raw).length → tM (alF N Q B U raw) [i] = tM (alF N Q B U raw) [i]) ∧ ∀ (i : Nat), i < (alF N Q B U raw).length → tL (alF N Q B U raw) [i] = tL (alF N Q B U raw) [i]) ∧ ∀ (i : Nat), i < (alF N Q B U raw).length → tU [i] = tU [i]) ∧ ((alF N Q B U raw).length = (alF N Q B U raw).length ∧ ∀ (m : Nat), m < (alF N Q B U raw).length → fL (alF N Q B U raw) m = fL (alF N Q B U raw) m ∧ ∀ (i : Nat), i < fL (alF N Q B U raw) m → fB (alF N Q B U raw) [m, i] = fB (alF N Q B U raw) [m, i]) ∧ (0 : Nat) = (0 : Nat)) := by kernel_rfl

set_option maxHeartbeats 4000000 in
theorem daStart (N M Q : Nat) (B U : Ix → Int) (raw : Bool) (hN : N ≤ 200) (hQ : Q ≤ 100) (hM : N ≤ M) (hB : bndB B N = true)  (v : SV) (L' : HF) (next : RunsTo Try.prog 13 (headOf Try.f13 0) (envAt Try.f13.ntmps ([(7, vL 104 1 (([] : List UInt8)).length), (13, vL 102 5 ((alF N Q B U raw)).length), (14, vN ((alF N Q B U raw)).length), (15, vN (0 : Nat))])) (Sx.look ((rB 60 M B ++ rI 61 Q U) ++ (toE 102 103 ((alF N Q B U raw)) ++ bW 104 (([] : List UInt8))))) 80 (v) (L') 480) :
    RunsTo Try.prog 13 [.code (bodyOf Try.f13)] (envOf [vL 60 1 N, vL 61 1 Q, vB raw] Try.f13.ntmps) (Sx.look ((rB 60 M B ++ rI 61 Q U) ++ ([]))) 80 (v) (L') 480 := by
  refine runs_more baseD (More.of (daStart_p0 N M Q B U raw) ⟨?oo, rfl, ?rr⟩) (by kernel_rfl) (by kernel_rfl) rfl (gtL (by decide)) (by decide) next
  case oo =>
    clear next
    refine (okc ?_ (okc ?_ okn))
    all_goals ((try simp (disch := omega) only [SS]); first | done | omega | assumption | (simp (disch := omega) only [SS] at *; first | done | omega | assumption) | (simp_all; done))
  case rr =>
    clear next
    try simp (disch := omega) only [SS]
    repeat' apply And.intro
    all_goals first | exact True.intro | with_reducible rfl | omega | (intros; first | exact True.intro | with_reducible rfl | omega | (simp_all; done)) | (simp_all; done) | rfl

theorem daY_p0 (N M Q : Nat) (B U : Ix → Int) (raw : Bool) (T : List Tok) (o : List UInt8) (i : Nat) :
    isMore (evTill Try.prog sumsD 300 (behind Try.f13 0) 900 13 (headOf Try.f13 0) (envAt Try.f13.ntmps ([(7, vL 104 1 (o).length), (13, vL 102 5 (T).length), (14, vN (T).length), (15, vN (i : Nat))])) ((rB 60 M B ++ rI 61 Q U) ++ (toE 102 103 (T) ++ bW 104 (o))) ⟨[.s true, .s true, .s true, .s true, .s true, .t, .s true, .s true], 130⟩) (moreP (headOf Try.f13 0) ([((104 : Nat), Rn.to (132 : Nat))]) Try.f13.ntmps ([(7, vL 104 1 (o ++ [UInt8.ofNat (T.getD i z0).code]).length), (13, vL 102 5 (T).length), (14, vN (T).length), (15, vN (i + 1 : Nat))]) (toE 102 103 (T) ++ bW 104 (o ++ [UInt8.ofNat (T.getD i z0).code])) 480) =
    (OkL [(decide ((↑i : Int) < (↑T.length : Int)), true), (decide ((0 : Int) ≤ (↑i : Int) ∧ (↑i : Int) < (↑T.length : Int)), true), (((0 : Nat) + (↑i : Int).toNat).blt T.length, true), (((0 : Nat) + (↑i : Int).toNat).blt T.length, true), (tK T [(0 : Nat) + (↑i : Int).toNat] == (1 : Int), true), (((0 : Nat) + o.length).ble o.length, true), (decide (((2 : Nat) * (o.length + (1 : Nat)) + (192 : Nat)) * (1 : Nat) ≤ (281474976710656 : Nat)), true)] ∧ headOf Try.f13 (0 : Nat) = headOf Try.f13 (0 : Nat) ∧ (((0 : Nat) = (0 : Nat) ∧ (o ++ [UInt8.ofNat (T.getD i z0).2]).length = o.length + (1 : Nat)) ∧ ((0 : Nat) = (0 : Nat) ∧ T.length = T.length) ∧ (↑T.length : Int) = (↑T.length : Int) ∧ (↑(i + (1 : Nat)) : Int) = IntKind.i64.wrap ((↑i : Int) + (1 : Int))) ∧ (T.length = T.length ∧ (∀ (i : Nat), i < T.length → tK T [i] = tK T [i]) ∧ (∀ (i : Nat), i < T.length → tC T [i] = tC T [i]) ∧ (∀ (i : Nat), i < T.length → tO T [i] = tO T [i]) ∧ ((∀ (i : Nat), i < T.length → tM T [i] = tM T [i]) ∧ ∀ (i : Nat), i < T.length → tL T [i] = tL T [i]) ∧ ∀ (i : Nat), i < T.length → tU [i] = tU [i]) ∧ (T.length = T.length ∧ ∀ (m : Nat), m < T.length → fL T m = fL T m ∧ ∀ (i : Nat), i < fL T m → fB T [m, i] = fB T [m, i]) ∧ (o ++ [UInt8.ofNat (T.getD i z0).2]).length = o.length + (1 : Nat) ∧ ∀ (i_1 : Nat), i_1 < (o ++ [UInt8.ofNat (T.getD i z0).2]).length → (↑((o ++ [UInt8.ofNat (T.getD i z0).2]).getD i_1 (0 : UInt8)).toNat : Int) = appF o.length (0 : Nat) (fun is => (↑(o.getD (List.headD is (0 : Nat)) (0 : UInt8)).toNat : Int)) (fun js => IntKind.u8.wrap (tC T [(0 : Nat) + (↑i : Int).toNat])) [i_1]) := by kernel_rfl

set_option maxHeartbeats 4000000 in
theorem daY (N M Q : Nat) (B U : Ix → Int) (raw : Bool) (T : List Tok) (o : List UInt8) (i : Nat) (hi : i < T.length) (hT : T.length ≤ 1000) (ho : o.length ≤ 1000) (h : (T.getD i z0).kind = 1) (h2 : (T.getD i z0).code < 256)  (v : SV) (L' : HF) (next : RunsTo Try.prog 13 (headOf Try.f13 0) (envAt Try.f13.ntmps ([(7, vL 104 1 (o ++ [UInt8.ofNat (T.getD i z0).code]).length), (13, vL 102 5 (T).length), (14, vN (T).length), (15, vN (i + 1 : Nat))])) (Sx.look ((rB 60 M B ++ rI 61 Q U) ++ (toE 102 103 (T) ++ bW 104 (o ++ [UInt8.ofNat (T.getD i z0).code])))) 80 (v) (L') 480) :
    RunsTo Try.prog 13 (headOf Try.f13 0) (envAt Try.f13.ntmps ([(7, vL 104 1 (o).length), (13, vL 102 5 (T).length), (14, vN (T).length), (15, vN (i : Nat))])) (Sx.look ((rB 60 M B ++ rI 61 Q U) ++ (toE 102 103 (T) ++ bW 104 (o)))) 80 (v) (L') 480 := by
  have hw : IntKind.i64.wrap ((i : Int) + 1) = ((i + 1 : Nat) : Int) := by rw [wr64 (by omega)]; rfl
  have kt : tK T [i] = ((T.getD i z0).kind : Int) := rfl
  have ct : tC T [i] = ((T.getD i z0).code : Int) := rfl
  have hu : IntKind.u8.wrap (tC T [i]) = ((UInt8.ofNat (T.getD i z0).code).toNat : Int) := by rw [ct]; exact u8w h2
  refine runs_more baseD (More.of (daY_p0 N M Q B U raw T o i) ⟨?oo, rfl, ?rr⟩) (by kernel_rfl) (by kernel_rfl) rfl (gtL (by decide)) (by decide) next
  case oo =>
    clear next
    refine (okc ?_ (okc ?_ (okc ?_ (okc ?_ (okc ?_ (okc ?_ (okc ?_ okn)))))))
    all_goals ((try simp (disch := omega) only [SS, hw, Go.Sx.sum, Nat.zero_add, kt, h]); first | done | omega | assumption | (simp (disch := omega) only [SS, hw, Go.Sx.sum, Nat.zero_add, kt, h] at *; first | done | omega | assumption) | (simp_all; done))
  case rr =>
    clear next
    simp (disch := omega) only [SS, hw, hu, Go.Sx.sum, List.length_append, List.length_cons, List.length_nil, Nat.zero_add]
    repeat' apply And.intro
    all_goals first | exact True.intro | with_reducible rfl | omega | exact app_byte1 o _ _ hu | exact app_byte1 o _ _ (by first | rfl | (simp_all; done)) | (simp_all; done)

theorem daN_p0 (N M Q : Nat) (B U : Ix → Int) (raw : Bool) (T : List Tok) (o : List UInt8) (i : Nat) :
    isMore (evTill Try.prog sumsD 300 (behind Try.f13 0) 900 13 (headOf Try.f13 0) (envAt Try.f13.ntmps ([(7, vL 104 1 (o).length), (13, vL 102 5 (T).length), (14, vN (T).length), (15, vN (i : Nat))])) ((rB 60 M B ++ rI 61 Q U) ++ (toE 102 103 (T) ++ bW 104 (o))) ⟨[.s true, .s true, .s true, .s true, .s false], 130⟩) (moreP (headOf Try.f13 0) ([]) Try.f13.ntmps ([(7, vL 104 1 (o).length), (13, vL 102 5 (T).length), (14, vN (T).length), (15, vN (i + 1 : Nat))]) (toE 102 103 (T) ++ bW 104 (o)) 480) =
    (OkL [(decide ((↑i : Int) < (↑T.length : Int)), true), (decide ((0 : Int) ≤ (↑i : Int) ∧ (↑i : Int) < (↑T.length : Int)), true), (((0 : Nat) + (↑i : Int).toNat).blt T.length, true), (((0 : Nat) + (↑i : Int).toNat).blt T.length, true), (tK T [(0 : Nat) + (↑i : Int).toNat] == (1 : Int), false)] ∧ headOf Try.f13 (0 : Nat) = headOf Try.f13 (0 : Nat) ∧ (((0 : Nat) = (0 : Nat) ∧ o.length = o.length) ∧ ((0 : Nat) = (0 : Nat) ∧ T.length = T.length) ∧ (↑T.length : Int) = (↑T.length : Int) ∧ (↑(i + (1 : Nat)) : Int) = IntKind.i64.wrap ((↑i : Int) + (1 : Int))) ∧ (T.length = T.length ∧ (∀ (i : Nat), i < T.length → tK T [i] = tK T [i]) ∧ (∀ (i : Nat), i < T.length → tC T [i] = tC T [i]) ∧ (∀ (i : Nat), i < T.length → tO T [i] = tO T [i]) ∧ ((∀ (i : Nat), i < T.length → tM T [i] = tM T [i]) ∧ ∀ (i : Nat), i < T.length → tL T [i] = tL T [i]) ∧ ∀ (i : Nat), i < T.length → tU [i] = tU [i]) ∧ (T.length = T.length ∧ ∀ (m : Nat), m < T.length → fL T m = fL T m ∧ ∀ (i : Nat), i < fL T m → fB T [m, i] = fB T [m, i]) ∧ o.length = o.length ∧ ∀ (i : Nat), i < o.length → (↑(o.getD i (0 : UInt8)).toNat : Int) = (↑(o.getD i (0 : UInt8)).toNat : Int)) := by kernel_rfl

set_option maxHeartbeats 4000000 in
theorem daN (N M Q : Nat) (B U : Ix → Int) (raw : Bool) (T : List Tok) (o : List UInt8) (i : Nat) (hi : i < T.length) (hT : T.length ≤ 1000) (ho : o.length ≤ 1000) (h : (T.getD i z0).kind ≠ 1)  (v : SV) (L' : HF) (next : RunsTo Try.prog 13 (headOf Try.f13 0) (envAt Try.f13.ntmps ([(7, vL 104 1 (o).length), (13, vL 102 5 (T).length), (14, vN (T).length), (15, vN (i + 1 : Nat))])) (Sx.look ((rB 60 M B ++ rI 61 Q U) ++ (toE 102 103 (T) ++ bW 104 (o)))) 80 (v) (L') 480) :
    RunsTo Try.prog 13 (headOf Try.f13 0) (envAt Try.f13.ntmps ([(7, vL 104 1 (o).length), (13, vL 102 5 (T).length), (14, vN (T).length), (15, vN (i : Nat))])) (Sx.look ((rB 60 M B ++ rI 61 Q U) ++ (toE 102 103 (T) ++ bW 104 (o)))) 80 (v) (L') 480 := by
  have hw : IntKind.i64.wrap ((i : Int) + 1) = ((i + 1 : Nat) : Int) := by rw [wr64 (by omega)]; rfl
  have kt : tK T [i] = ((T.getD i z0).kind : Int) := rfl
  have ct : tC T [i] = ((T.getD i z0).code : Int) := rfl
  refine runs_more baseD (More.of (daN_p0 N M Q B U raw T o i) ⟨?oo, rfl, ?rr⟩) (by kernel_rfl) (by kernel_rfl) rfl (gtL (by decide)) (by decide) next
  case oo =>
    clear next
    refine (okc ?_ (okc ?_ (okc ?_ (okc ?_ (okc ?_ okn)))))
    all_goals ((try simp (disch := omega) only [SS, hw, Go.Sx.sum, Nat.zero_add, kt]); first | done | omega | assumption | (simp (disch := omega) only [SS, hw, Go.Sx.sum, Nat.zero_add, kt] at *; first | done | omega | assumption) | (simp_all; done))
  case rr =>
    clear next
    try simp (disch := omega) only [SS, hw, Go.Sx.sum, Nat.zero_add, kt]
    repeat' apply And.intro
    all_goals first | exact True.intro | with_reducible rfl | omega | (intros; first | exact True.intro | with_reducible rfl | omega | (simp_all; done)) | (simp_all; done) | rfl

theorem daEnd_p0 (N M Q : Nat) (B U : Ix → Int) (raw : Bool) (T : List Tok) (o : List UInt8) (i : Nat) :
    isEnd (evTill Try.prog sumsD 300 (99) 900 13 (headOf Try.f13 0) (envAt Try.f13.ntmps ([(7, vL 104 1 (o).length), (13, vL 102 5 (T).length), (14, vN (T).length), (15, vN (i : Nat))])) ((rB 60 M B ++ rI 61 Q U) ++ (toE 102 103 (T) ++ bW 104 (o))) ⟨[.s false], 130⟩) (endP ([((141 : Nat), Rn.to (104 : Nat))]) (vL 141 1 o.length) (bW 141 o) 480) =
    (OkL [(decide ((↑i : Int) < (↑T.length : Int)), false)] ∧ ((0 : Nat) = (0 : Nat) ∧ o.length = o.length) ∧ o.length = o.length ∧ ∀ (i : Nat), i < o.length → (↑(o.getD i (0 : UInt8)).toNat : Int) = (↑(o.getD i (0 : UInt8)).toNat : Int)) := by kernel_rfl

set_option maxHeartbeats 4000000 in
theorem daEnd (N M Q : Nat) (B U : Ix → Int) (raw : Bool) (T : List Tok) (o : List UInt8) (i : Nat) (hi : i = T.length)  :
    RunsTo Try.prog 13 (headOf Try.f13 0) (envAt Try.f13.ntmps ([(7, vL 104 1 (o).length), (13, vL 102 5 (T).length), (14, vN (T).length), (15, vN (i : Nat))])) (Sx.look ((rB 60 M B ++ rI 61 Q U) ++ (toE 102 103 (T) ++ bW 104 (o)))) 80 (vL 141 1 o.length) (Sx.look (bW 141 o)) 480 := by
  refine runs_last baseD (Sx.Ends.of (daEnd_p0 N M Q B U raw T o i) ⟨?oo, ?rr⟩) (by kernel_rfl) rfl (gtL (by decide)) (by decide)
  case oo =>
    refine (okc ?_ okn)
    all_goals ((try simp (disch := omega) only [SS]); first | done | omega | assumption | (simp (disch := omega) only [SS] at *; first | done | omega | assumption) | (simp_all; done))
  case rr =>
    try simp (disch := omega) only [SS]
    repeat' apply And.intro
    all_goals first | exact True.intro | with_reducible rfl | omega | (intros; first | exact True.intro | with_reducible rfl | omega | (simp_all; done)) | (simp_all; done) | rfl

end Go.Proofs.Ytcphocfnhekdaaa
