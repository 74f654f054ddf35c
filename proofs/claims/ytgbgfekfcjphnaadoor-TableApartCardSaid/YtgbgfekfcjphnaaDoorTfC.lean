/- Tables: apart: the law. -/
import Derived.Test.YtgbgfekfcjphnaaDoorTeC
set_option linter.unusedSimpArgs false
set_option linter.unusedVariables false
namespace Go.Proofs.YtgbgfekfcjphnaaDoor
open Go.Sx

structure ApI (op : Int) (i : Nat) (K : Ix → Int) (O : Ix → Bool) (h a s : Int) (K2 : Ix → Int) (O2 : Ix → Bool) (h2 a2 s2 : Int) : Prop where
  b1 : 0 ≤ h ∧ h ≤ i
  b2 : 0 ≤ a ∧ a ≤ i
  b3 : 0 ≤ s ∧ s ≤ h + a
  d1 : 0 ≤ h2 ∧ h2 ≤ i
  d2 : 0 ≤ a2 ∧ a2 ≤ i
  d3 : 0 ≤ s2 ∧ s2 ≤ h2 + a2
  r1 : ∀ p n, rtB (K [p, n]) (O [p, n]) = true
  r2 : ∀ p n, rtB (K2 [p, n]) (O2 [p, n]) = true
  q : inO op = true → ∀ p, K [p, op.toNat] = K2 [p, op.toNat] ∧ O [p, op.toNat] = O2 [p, op.toNat]

theorem cnt_of {i : Nat} {h a s : Int} (hi : i ≤ 60) (b1 : 0 ≤ h ∧ h ≤ i) (b2 : 0 ≤ a ∧ a ≤ i) (b3 : 0 ≤ s ∧ s ≤ h + a) : cntC h a s = true := by
  simp only [cntC, Bool.and_eq_true, decide_eq_true_eq]; omega

section
variable (t0 t1 t2 t3 : List UInt8) (N M L : Nat) (U V KD CD OP : Ix → Int) (op : Int)

theorem ap_loop (hL : L ≤ 60) : ∀ (k i : Nat) K O h a s K2 O2 h2 a2 s2, i + k = L → ApI op i K O h a s K2 O2 h2 a2 s2 →
    RunsTo Tryd.prog 6 (headOf Tryd.f6 0) (envAt Tryd.f6.ntmps (apE op L i)) (Sx.look (XA t0 t1 t2 t3 N M L U V KD CD OP ++ two K O h a s K2 O2 h2 a2 s2 (agF U V N M))) 110 YES (Sx.look []) 900 := by
  intro k
  induction k with
  | zero =>
    intro i K O h a s K2 O2 h2 a2 s2 hi I
    exact tdone t0 t1 t2 t3 N M L U V KD CD OP op i K O h a s K2 O2 h2 a2 s2 (by omega)
  | succ k ih =>
    intro i K O h a s K2 O2 h2 a2 s2 hi I
    have hc := cnt_of (by omega) I.b1 I.b2 I.b3
    have hc2 := cnt_of (by omega) I.d1 I.d2 I.d3
    have c1 := uH_le (KD [i]) (CD [i]) (OP [i])
    have c2 := uA_le K O (agF U V N M) (KD [i]) (CD [i]) (OP [i])
    have c3 := uS_le K O (agF U V N M) (KD [i]) (CD [i]) (OP [i])
    have e2 := uA_le K2 O2 (agF U V N M) (KD [i]) (CD [i]) (OP [i])
    have e3 := uS_le K2 O2 (agF U V N M) (KD [i]) (CD [i]) (OP [i])
    obtain ⟨b1, b2, b3, d1, d2, d3, r1, r2, q⟩ := I
    by_cases ho : OP [i] = op
    · refine tsame t0 t1 t2 t3 N M L U V KD CD OP op i K O h a s K2 O2 h2 a2 s2 (by omega) hL hc hc2 b3.2 r1 r2 q ho (ih (i + 1) _ _ _ _ _ _ _ _ _ _ (by omega) ?_)
      refine ⟨by omega, by omega, by omega, by omega, by omega, by omega, fun p n => uK_right r1 p n, fun p n => uK_right r2 p n, fun hp p => ?_⟩
      rw [ho]
      exact uK_same (q hp) p
    · refine tother t0 t1 t2 t3 N M L U V KD CD OP op i K O h a s K2 O2 h2 a2 s2 (by omega) hL hc hc2 b3.2 r1 r2 q ho (ih (i + 1) _ _ _ _ _ _ _ _ _ _ (by omega) ?_)
      refine ⟨by omega, by omega, by omega, by omega, by omega, by omega, fun p n => uK_right r1 p n, r2, fun hp p => ?_⟩
      have h1 := uK_other (A := agF U V N M) (K := K) (O := O) (kd := KD [i]) (cd := CD [i]) ho hp p
      exact ⟨h1.1.trans (q hp p).1, h1.2.trans (q hp p).2⟩

theorem apart_law : RunsTo Tryd.prog 6 [.code (bodyOf Tryd.f6)] (envOf [.agg (polT 100 N M), vL 102 3 L, vN op] Tryd.f6.ntmps) (Sx.look (XA t0 t1 t2 t3 N M L U V KD CD OP ++ [])) 110 YES (Sx.look []) 900 := by
  by_cases hb : 60 < L ∨ 40 < N ∨ 40 < M
  · exact tlong t0 t1 t2 t3 N M L U V KD CD OP op hb
  · exact tgo t0 t1 t2 t3 N M L U V KD CD OP op (by omega) (by omega) (by omega) (ap_loop t0 t1 t2 t3 N M L U V KD CD OP op (by omega) L 0 _ _ _ _ _ _ _ _ _ _ (by omega)
      ⟨by omega, by omega, by omega, by omega, by omega, by omega, fun p n => by simp [rtB, zI, zB], fun p n => by simp [rtB, zI, zB], fun _ p => ⟨rfl, rfl⟩⟩)
end
end Go.Proofs.YtgbgfekfcjphnaaDoor
