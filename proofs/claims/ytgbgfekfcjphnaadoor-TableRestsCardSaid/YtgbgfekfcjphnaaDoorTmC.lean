/- Tables: two tables come to rest: the law. -/
import Derived.Test.YtgbgfekfcjphnaaDoorTqC
import Derived.Test.YtgbgfekfcjphnaaDoorTpC
set_option linter.unusedSimpArgs false
set_option linter.unusedVariables false
namespace Go.Proofs.YtgbgfekfcjphnaaDoor
open Go.Sx

structure WI (c : Nat) (A : Ix → Bool) (K : Ix → Int) (O : Ix → Bool) (h a s : Int) (n1 : Nat) (Q1 : Ix → Int) (A2 : Ix → Bool) (K2 : Ix → Int) (O2 : Ix → Bool) (h2 a2 s2 : Int) (n2 : Nat) (Q2 : Ix → Int) (T : Nat) : Prop where
  ti : TI A A2 K O (qL n1 Q1) K2 O2 (qL n2 Q2) T
  b : 0 ≤ h ∧ h ≤ c ∧ 0 ≤ a ∧ a ≤ c ∧ 0 ≤ s ∧ s ≤ c ∧ n1 ≤ c
  b2 : 0 ≤ h2 ∧ h2 ≤ c ∧ 0 ≤ a2 ∧ a2 ≤ c ∧ 0 ≤ s2 ∧ s2 ≤ c ∧ n2 ≤ c

section
variable {c : Nat} {A : Ix → Bool} {K : Ix → Int} {O : Ix → Bool} {h a s : Int} {n1 : Nat} {Q1 : Ix → Int} {A2 : Ix → Bool} {K2 : Ix → Int} {O2 : Ix → Bool} {h2 a2 s2 : Int} {n2 : Nat} {Q2 : Ix → Int} {T : Nat}

theorem TI.mono {q1 q2 : List (Int × Int)} {T' : Nat} (I : TI A A2 K O q1 K2 O2 q2 T) (hT : T ≤ T') : TI A A2 K O q1 K2 O2 q2 T' := ⟨I.re, I.v1, I.v2, Nat.le_trans I.tot hT⟩
theorem WI.mono (I : WI c A K O h a s n1 Q1 A2 K2 O2 h2 a2 s2 n2 Q2 T) {c' T' : Nat} (hc : c ≤ c') (hT : T ≤ T') : WI c' A K O h a s n1 Q1 A2 K2 O2 h2 a2 s2 n2 Q2 T' := by
  have b := I.b
  have b2 := I.b2
  exact ⟨I.ti.mono hT, by omega, by omega⟩
theorem WI.swap (I : WI c A K O h a s n1 Q1 A2 K2 O2 h2 a2 s2 n2 Q2 T) : WI c A2 K2 O2 h2 a2 s2 n2 Q2 A K O h a s n1 Q1 T := ⟨I.ti.swap, I.b2, I.b⟩

theorem tz_le (z : Int) : 0 ≤ tz z ∧ tz z ≤ 1 := by unfold tz; split <;> omega
theorem sN_le (vb : Int) (n : Nat) : sN vb n ≤ n + 1 := by unfold sN; split <;> omega
theorem cntC_of {h a s : Int} (b : 0 ≤ h ∧ h ≤ 90000 ∧ 0 ≤ a ∧ a ≤ 90000 ∧ 0 ≤ s ∧ s ≤ 90000) : cntC h a s = true := by
  simp only [cntC, Bool.and_eq_true, decide_eq_true_eq]; omega

theorem WI.hear (I : WI c A K O h a s n1 Q1 A2 K2 O2 h2 a2 s2 n2 Q2 T) (hn : 0 < n2) (hc : c ≤ 90000) :
    sideC K O h a s (Q2 [0, 0]) (Q2 [0, 1]) n1 n2 = true ∧ 1 ≤ T ∧
      WI (c + 1) A (uP K (sdN (Q2 [0, 0])) (Q2 [0, 1]) (hK K O A (Q2 [0, 0]) (Q2 [0, 1]))) (uP O (sdN (Q2 [0, 0])) (Q2 [0, 1]) false) (h + 1) a (s + tz (hS K O A (Q2 [0, 0]) (Q2 [0, 1]))) (sN (hV K O A (Q2 [0, 0]) (Q2 [0, 1])) n1) (sQ (hV K O A (Q2 [0, 0]) (Q2 [0, 1])) (Q2 [0, 1]) n1 Q1) A2 K2 O2 h2 a2 s2 (n2 - 1) (shQ Q2) (T - 1) := by
  have J := I.ti
  have b := I.b
  have b2 := I.b2
  rw [qL_sh n2 Q2 hn] at J
  obtain ⟨h1, h3, h4, h5, h6, h7⟩ := J.hear
  have z := tz_le (hS K O A (Q2 [0, 0]) (Q2 [0, 1]))
  have z2 := sN_le (hV K O A (Q2 [0, 0]) (Q2 [0, 1])) n1
  have hc := cntC_of (h := h) (a := a) (s := s) (by omega)
  refine ⟨?_, h1, ⟨?_, by omega, by omega⟩⟩
  · simp only [sideC, hrC, hc, h5, h3, h4, h6, Bool.true_and, Bool.not_false, Bool.and_eq_true, decide_eq_true_eq]
    omega
  · rw [qL_snd]; exact h7

theorem WI.ask (I : WI c A K O h a s n1 Q1 A2 K2 O2 h2 a2 s2 n2 Q2 T) {p on : Int} (hp : p = 0 ∨ p = 1) (hon : inO on = true) (hc : c ≤ 90000) (b : Bool) :
    akC K O h a s p on = true ∧
      WI (c + 1) A (uP K p.toNat on (askK (K [p.toNat, on.toNat]) (O [p.toNat, on.toNat]) b)) (uP O p.toNat on (askO (K [p.toNat, on.toNat]) (O [p.toNat, on.toNat]) b)) h (a + 1) (s + tz (askS (K [p.toNat, on.toNat]) (O [p.toNat, on.toNat]) b)) (sN (verbV p.toNat (askS (K [p.toNat, on.toNat]) (O [p.toNat, on.toNat]) b)) n1) (sQ (verbV p.toNat (askS (K [p.toNat, on.toNat]) (O [p.toNat, on.toNat]) b)) on n1 Q1) A2 K2 O2 h2 a2 s2 n2 Q2 (T + 2) := by
  have bb := I.b
  have b2 := I.b2
  have hpn : p.toNat < 2 := by omega
  have z := tz_le (askS (K [p.toNat, on.toNat]) (O [p.toNat, on.toNat]) b)
  have z2 := sN_le (verbV p.toNat (askS (K [p.toNat, on.toNat]) (O [p.toNat, on.toNat]) b)) n1
  have hc := cntC_of (h := h) (a := a) (s := s) (by omega)
  have hr := I.ti.right hpn (inO_lt hon)
  refine ⟨?_, ⟨?_, by omega, by omega⟩⟩
  · simp only [akC, hc, hr, hon, Bool.true_and, Bool.and_true, Bool.or_eq_true, decide_eq_true_eq]
    exact hp
  · rw [qL_snd]; exact I.ti.ask hpn hon b
end

section
variable (t0 t1 t2 t3 : List UInt8) (N M N2 M2 L : Nat) (U V U2 V2 KD CD OP : Ix → Int)

theorem fin_loop {K : Ix → Int} {O A : Ix → Bool} {h a s : Int} {n1 : Nat} {Q1 K2 : Ix → Int} {O2 A2 : Ix → Bool} {h2 a2 s2 : Int} {n2 : Nat} {Q2 : Ix → Int} {T : Nat} (I : TI A A2 K O [] K2 O2 [] T) : ∀ k m, m + k = 256 →
    RunsTo Tryd.prog 7 (headOf Tryd.f7 3) (envAt Tryd.f7.ntmps (fiE m)) (Sx.look (XR t0 t1 t2 t3 N M N2 M2 L U V U2 V2 KD CD OP ++ botE 123 124 K O A h a s n1 Q1 K2 O2 A2 h2 a2 s2 n2 Q2)) 110 YES (Sx.look []) 900 := by
  intro k
  induction k with
  | zero =>
    intro m hm
    obtain rfl : m = 256 := (by omega)
    have J := I.swap
    exact rend t0 t1 t2 t3 N M N2 M2 L U V U2 V2 KD CD OP K O A h a s n1 Q1 K2 O2 A2 h2 a2 s2 n2 Q2 (calm_all.2 fun p hp n hn => (I.rest hp hn).2.2.2) (calm_all.2 fun p hp n hn => (J.rest hp hn).2.2.2)
  | succ k ih =>
    intro m hm
    have e0 := I.rest (d := 0) (m := m) (by omega) (by omega)
    have e1 := I.rest (d := 1) (m := m) (by omega) (by omega)
    exact rfin t0 t1 t2 t3 N M N2 M2 L U V U2 V2 KD CD OP m K O A h a s n1 Q1 K2 O2 A2 h2 a2 s2 n2 Q2 (by omega) ⟨e0.1, e0.2.1.trans e0.2.2.1.symm⟩ ⟨e1.1, e1.2.1.trans e1.2.2.1.symm⟩ (ih (m + 1) (by omega))

theorem turn_loop (hL : L ≤ 60) : ∀ (T c : Nat) (t : Int) A K O h a s n1 Q1 A2 K2 O2 h2 a2 s2 n2 Q2, WI c A K O h a s n1 Q1 A2 K2 O2 h2 a2 s2 n2 Q2 T → 0 ≤ t → t + T ≤ 8 * L + 8 → c + 2 * T ≤ 5000 →
    RunsTo Tryd.prog 7 (headOf Tryd.f7 1) (envAt Tryd.f7.ntmps (tuE L t)) (Sx.look (XR t0 t1 t2 t3 N M N2 M2 L U V U2 V2 KD CD OP ++ botE 123 124 K O A h a s n1 Q1 K2 O2 A2 h2 a2 s2 n2 Q2)) 110 YES (Sx.look []) 900 := by
  intro T
  induction T using Nat.strongRecOn with
  | ind T ih =>
    intro c t A K O h a s n1 Q1 A2 K2 O2 h2 a2 s2 n2 Q2 I ht1 ht2 hc
    have b := I.b
    have b2 := I.b2
    by_cases hn2 : 0 < n2
    · obtain ⟨c1, c2, I2⟩ := I.hear hn2 (by omega)
      by_cases hn3 : 0 < sN (hV K O A (Q2 [0, 0]) (Q2 [0, 1])) n1
      · obtain ⟨c3, c4, I3⟩ := I2.swap.hear hn3 (by omega)
        exact rtAB t0 t1 t2 t3 N M N2 M2 L U V U2 V2 KD CD OP t K O A h a s n1 Q1 K2 O2 A2 h2 a2 s2 n2 Q2 hL (by omega) (by omega) (by omega) hn2 c1 hn3 c3
          (ih (T - 1 - 1) (by omega) (c + 1 + 1) (t + 1) _ _ _ _ _ _ _ _ _ _ _ _ _ _ _ _ I3.swap (by omega) (by omega) (by omega))
      · exact rtAx t0 t1 t2 t3 N M N2 M2 L U V U2 V2 KD CD OP t K O A h a s n1 Q1 K2 O2 A2 h2 a2 s2 n2 Q2 hL (by omega) (by omega) (by omega) hn2 c1 (by omega)
          (ih (T - 1) (by omega) (c + 1) (t + 1) _ _ _ _ _ _ _ _ _ _ _ _ _ _ _ _ I2 (by omega) (by omega) (by omega))
    · have hn2 : n2 = 0 := by omega
      by_cases hn1 : 0 < n1
      · obtain ⟨c3, c4, I3⟩ := I.swap.hear hn1 (by omega)
        exact rtBy t0 t1 t2 t3 N M N2 M2 L U V U2 V2 KD CD OP t K O A h a s n1 Q1 K2 O2 A2 h2 a2 s2 n2 Q2 hL (by omega) (by omega) (by omega) hn2 hn1 c3
          (ih (T - 1) (by omega) (c + 1) (t + 1) _ _ _ _ _ _ _ _ _ _ _ _ _ _ _ _ I3.swap (by omega) (by omega) (by omega))
      · have hn1 : n1 = 0 := by omega
        have J := I.ti
        rw [hn1, hn2, qL_zero, qL_zero] at J
        exact rcalm t0 t1 t2 t3 N M N2 M2 L U V U2 V2 KD CD OP t K O A h a s n1 Q1 K2 O2 A2 h2 a2 s2 n2 Q2 hn1 hn2 (fin_loop t0 t1 t2 t3 N M N2 M2 L U V U2 V2 KD CD OP J 256 0 (by omega))

theorem acts_loop (hL : L ≤ 60) : ∀ (k i : Nat) A K O h a s n1 Q1 A2 K2 O2 h2 a2 s2 n2 Q2, i + k = L → WI i A K O h a s n1 Q1 A2 K2 O2 h2 a2 s2 n2 Q2 (2 * i) →
    RunsTo Tryd.prog 7 (headOf Tryd.f7 0) (envAt Tryd.f7.ntmps (acE L i)) (Sx.look (XR t0 t1 t2 t3 N M N2 M2 L U V U2 V2 KD CD OP ++ botE 123 124 K O A h a s n1 Q1 K2 O2 A2 h2 a2 s2 n2 Q2)) 110 YES (Sx.look []) 900 := by
  intro k
  induction k with
  | zero =>
    intro i A K O h a s n1 Q1 A2 K2 O2 h2 a2 s2 n2 Q2 hi I
    exact rexit t0 t1 t2 t3 N M N2 M2 L U V U2 V2 KD CD OP i K O A h a s n1 Q1 K2 O2 A2 h2 a2 s2 n2 Q2 (by omega)
      (turn_loop t0 t1 t2 t3 N M N2 M2 L U V U2 V2 KD CD OP hL (2 * i) i 0 _ _ _ _ _ _ _ _ _ _ _ _ _ _ _ _ I (by omega) (by omega) (by omega))
  | succ k ih =>
    intro i A K O h a s n1 Q1 A2 K2 O2 h2 a2 s2 n2 Q2 hi I
    have b := I.b
    have b2 := I.b2
    have same := ih (i + 1) A K O h a s n1 Q1 A2 K2 O2 h2 a2 s2 n2 Q2 (by omega) (I.mono (by omega) (by omega))
    have hp : pb (CD [i]) = 0 ∨ pb (CD [i]) = 1 := and1 _
    by_cases h0 : KD [i] = 0
    · rcases and1 (CD [i]) with hb | hb
      · by_cases hn : n2 = 0
        · exact rnone0 t0 t1 t2 t3 N M N2 M2 L U V U2 V2 KD CD OP i K O A h a s n1 Q1 K2 O2 A2 h2 a2 s2 n2 Q2 (by omega) hL (by omega) (by omega) h0 hb hn same
        · obtain ⟨c1, c2, I2⟩ := I.hear (by omega) (by omega)
          exact rhear0 t0 t1 t2 t3 N M N2 M2 L U V U2 V2 KD CD OP i K O A h a s n1 Q1 K2 O2 A2 h2 a2 s2 n2 Q2 (by omega) hL (by omega) (by omega) h0 hb (by omega) c1 (ih (i + 1) _ _ _ _ _ _ _ _ _ _ _ _ _ _ _ _ (by omega) (I2.mono (by omega) (by omega)))
      · by_cases hn : n1 = 0
        · exact rnone1 t0 t1 t2 t3 N M N2 M2 L U V U2 V2 KD CD OP i K O A h a s n1 Q1 K2 O2 A2 h2 a2 s2 n2 Q2 (by omega) hL (by omega) (by omega) h0 hb hn same
        · obtain ⟨c1, c2, I2⟩ := I.swap.hear (by omega) (by omega)
          exact rhear1 t0 t1 t2 t3 N M N2 M2 L U V U2 V2 KD CD OP i K O A h a s n1 Q1 K2 O2 A2 h2 a2 s2 n2 Q2 (by omega) hL (by omega) (by omega) h0 hb (by omega) c1 (ih (i + 1) _ _ _ _ _ _ _ _ _ _ _ _ _ _ _ _ (by omega) (I2.swap.mono (by omega) (by omega)))
    by_cases h12 : KD [i] = 1 ∨ KD [i] = 2
    · cases ho : inO (OP [i]) with
      | false =>
        have hC : ((decide (pb (CD [i]) = 0) || decide (pb (CD [i]) = 1)) && !inO (OP [i])) = true := by
          simp only [ho, Bool.not_false, Bool.and_true, Bool.or_eq_true, decide_eq_true_eq]; exact hp
        rcases and1 (CD [i]) with hb | hb
        · exact raskR0 t0 t1 t2 t3 N M N2 M2 L U V U2 V2 KD CD OP i K O A h a s n1 Q1 K2 O2 A2 h2 a2 s2 n2 Q2 (by omega) hL (by omega) (by omega) h12 hb hC same
        · exact raskR1 t0 t1 t2 t3 N M N2 M2 L U V U2 V2 KD CD OP i K O A h a s n1 Q1 K2 O2 A2 h2 a2 s2 n2 Q2 (by omega) hL (by omega) (by omega) h12 hb hC same
      | true =>
        rcases and1 (CD [i]) with hb | hb
        · obtain ⟨c1, I2⟩ := I.ask hp ho (by omega) (KD [i] == 1)
          cases he : askE (K [(pb (CD [i])).toNat, (OP [i]).toNat]) (O [(pb (CD [i])).toNat, (OP [i]).toNat]) (KD [i] == 1) with
          | true => exact raskX0 t0 t1 t2 t3 N M N2 M2 L U V U2 V2 KD CD OP i K O A h a s n1 Q1 K2 O2 A2 h2 a2 s2 n2 Q2 (by omega) hL (by omega) (by omega) h12 hb (by rw [c1, he]; rfl) same
          | false => exact rask0 t0 t1 t2 t3 N M N2 M2 L U V U2 V2 KD CD OP i K O A h a s n1 Q1 K2 O2 A2 h2 a2 s2 n2 Q2 (by omega) hL (by omega) (by omega) h12 hb (by rw [c1, he]; rfl) (ih (i + 1) _ _ _ _ _ _ _ _ _ _ _ _ _ _ _ _ (by omega) (I2.mono (by omega) (by omega)))
        · obtain ⟨c1, I2⟩ := I.swap.ask hp ho (by omega) (KD [i] == 1)
          cases he : askE (K2 [(pb (CD [i])).toNat, (OP [i]).toNat]) (O2 [(pb (CD [i])).toNat, (OP [i]).toNat]) (KD [i] == 1) with
          | true => exact raskX1 t0 t1 t2 t3 N M N2 M2 L U V U2 V2 KD CD OP i K O A h a s n1 Q1 K2 O2 A2 h2 a2 s2 n2 Q2 (by omega) hL (by omega) (by omega) h12 hb (by rw [c1, he]; rfl) same
          | false => exact rask1 t0 t1 t2 t3 N M N2 M2 L U V U2 V2 KD CD OP i K O A h a s n1 Q1 K2 O2 A2 h2 a2 s2 n2 Q2 (by omega) hL (by omega) (by omega) h12 hb (by rw [c1, he]; rfl) (ih (i + 1) _ _ _ _ _ _ _ _ _ _ _ _ _ _ _ _ (by omega) (I2.swap.mono (by omega) (by omega)))
    have hk : KD [i] ≠ 0 ∧ KD [i] ≠ 1 ∧ KD [i] ≠ 2 := by omega
    rcases and1 (CD [i]) with hb | hb
    · exact ridle0 t0 t1 t2 t3 N M N2 M2 L U V U2 V2 KD CD OP i K O A h a s n1 Q1 K2 O2 A2 h2 a2 s2 n2 Q2 (by omega) hL (by omega) (by omega) hk hb same
    · exact ridle1 t0 t1 t2 t3 N M N2 M2 L U V U2 V2 KD CD OP i K O A h a s n1 Q1 K2 O2 A2 h2 a2 s2 n2 Q2 (by omega) hL (by omega) (by omega) hk hb same

theorem rests_law : RunsTo Tryd.prog 7 [.code (bodyOf Tryd.f7)] (envOf [.agg (polT 100 N M), .agg (polT 102 N2 M2), vL 104 3 L] Tryd.f7.ntmps) (Sx.look (XR t0 t1 t2 t3 N M N2 M2 L U V U2 V2 KD CD OP ++ [])) 110 YES (Sx.look []) 900 := by
  by_cases hb : 60 < L ∨ 40 < N ∨ 40 < M ∨ 40 < N2 ∨ 40 < M2
  · exact rlong t0 t1 t2 t3 N M N2 M2 L U V U2 V2 KD CD OP hb
  · exact rgo t0 t1 t2 t3 N M N2 M2 L U V U2 V2 KD CD OP (by omega) (by omega) (by omega) (by omega) (by omega)
      (acts_loop t0 t1 t2 t3 N M N2 M2 L U V U2 V2 KD CD OP (by omega) L 0 _ _ _ _ _ _ _ _ _ _ _ _ _ _ _ _ (by omega) ⟨TI.start _ _, by omega, by omega⟩)
end
end Go.Proofs.YtgbgfekfcjphnaaDoor
