/- Tables, act by act: the law. -/
import Derived.Test.YtgbgfekfcjphnaaDoorUdC
import Derived.Test.YtgbgfekfcjphnaaDoorUeC
import Derived.Test.YtgbgfekfcjphnaaDoorUgC
set_option linter.unusedSimpArgs false
set_option linter.unusedVariables false
namespace Go.Proofs.YtgbgfekfcjphnaaDoor
open Go.Sx

theorem cnt90 {h a s : Int} {i : Nat} (hi : i ≤ 40) (b1 : 0 ≤ h ∧ h ≤ i) (b2 : 0 ≤ a ∧ a ≤ i) (b3 : 0 ≤ s ∧ s ≤ i) : cntC h a s = true := by
  simp only [cntC, Bool.and_eq_true, decide_eq_true_eq]; omega
theorem tz_01 (z : Int) : 0 ≤ tz z ∧ tz z ≤ 1 := by unfold tz; split <;> omega

section
variable (t0 t1 t2 t3 t4 t5 t6 t7 t8 t9 t10 t11 t12 t13 t14 t15 : List UInt8) (N M L : Nat) (U V KD CD OP : Ix → Int)

theorem ta_loop (hL : L ≤ 40) (hN : N ≤ 40) (hM : M ≤ 40) : ∀ (k i : Nat) (K : Ix → Int) (O : Ix → Bool) (h a s : Int) (l : List Rw), i + k = L → UI l K O → 0 ≤ h ∧ h ≤ i → 0 ≤ a ∧ a ≤ i → 0 ≤ s ∧ s ≤ i → l.length ≤ i →
    RunsTo Tryd.prog 8 (headOf Tryd.f8 0) (envAt Tryd.f8.ntmps (taE L i)) (Sx.look (XU t0 t1 t2 t3 t4 t5 t6 t7 t8 t9 t10 t11 t12 t13 t14 t15 N M L U V KD CD OP ++ bo N M 122 K O (agF U V N M) h a s l)) 110 YES (Sx.look []) 2500 := by
  intro k
  induction k with
  | zero =>
    intro i K O h a s l hi I b1 b2 b3 hl
    exact udone t0 t1 t2 t3 t4 t5 t6 t7 t8 t9 t10 t11 t12 t13 t14 t15 N M L U V KD CD OP i K O (agF U V N M) h a s l (by omega) (by omega) (I.lists (.inl rfl)) (I.lists (.inr rfl)) (onM_two K O 256)
  | succ k ih =>
    intro i K O h a s l hi I b1 b2 b3 hl
    have hc := cnt90 (i := i) (by omega) b1 b2 b3
    have hi' : i < L := by omega
    have hl' : l.length ≤ 90 := by omega
    have same := ih (i + 1) K O h a s l (by omega) I (by omega) (by omega) (by omega) (by omega)
    have hCal := I.calm
    have hR0 := I.rt 0 (OP [i]).toNat
    have hR1 := I.rt 1 (OP [i]).toNat
    by_cases h0 : KD [i] = 0
    · cases hv : vrb (CD [i]) with
      | false =>
        cases ho : inO (OP [i]) with
        | true => exact uHKi t0 t1 t2 t3 t4 t5 t6 t7 t8 t9 t10 t11 t12 t13 t14 t15 N M L U V KD CD OP i K O (agF U V N M) h a s l hi' hL hN hM hl' hc h0 hv ho (I.find (.inl rfl) ho) (I.find (.inr rfl) ho) hR0 hR1 hCal same
        | false => exact uHKo t0 t1 t2 t3 t4 t5 t6 t7 t8 t9 t10 t11 t12 t13 t14 t15 N M L U V KD CD OP i K O (agF U V N M) h a s l hi' hL hN hM hl' hc h0 hv ho (I.out ho) (I.out ho) hCal same
      | true =>
        cases ho : inO (OP [i]) with
        | false => exact uHR t0 t1 t2 t3 t4 t5 t6 t7 t8 t9 t10 t11 t12 t13 t14 t15 N M L U V KD CD OP i K O (agF U V N M) h a s l hi' hL hN hM hl' hc h0 hv ho (I.out ho) (I.out ho) hCal same
        | true =>
          obtain ⟨k1, k2, z1, kk⟩ := I.hears U V N M (cd := CD [i]) ho
          have hrt := I.rt (sdN (CD [i])) (OP [i]).toNat
          have hs : ((sdN (CD [i]) : Nat) : Int) = 0 ∨ ((sdN (CD [i]) : Nat) : Int) = 1 := by unfold sdN; split <;> simp
          have J0 := I.set hs ho (hearK_rt (is := frB (CD [i])) (g := agF U V N M [sdN (CD [i]), (OP [i]).toNat]) hrt)
          rw [← kk] at J0
          have J : UI (nwL l (sdN (CD [i])) (OP [i]) (k1G (rS l) (rO l) (rK l) (rB l) l.length U V N M (CD [i]) (OP [i])) false) (hfK K O (agF U V N M) (CD [i]) (OP [i])) (hfO O (CD [i]) (OP [i])) := by
            rw [kk] at J0 ⊢
            exact J0
          have hln := nwG_le (rS l) (rO l) (rK l) (rB l) l.length (sdN (CD [i])) (OP [i]) (k1G (rS l) (rO l) (rK l) (rB l) l.length U V N M (CD [i]) (OP [i])) false
          have hln2 : (nwL l (sdN (CD [i])) (OP [i]) (k1G (rS l) (rO l) (rK l) (rB l) l.length U V N M (CD [i]) (OP [i])) false).length ≤ l.length + 1 := hln
          have z2 := tz_01 (hfZ K O (agF U V N M) (CD [i]) (OP [i]))
          have hH : hrC K O h a s (CD [i]) (OP [i]) = true := by simp only [hrC, hc, hrt, hv, ho, Bool.and_self]
          have hM2 : mhC (rS l) (rO l) (rK l) (rB l) N M l.length h s (CD [i]) (OP [i]) = true := by
            simp only [mhC, hv, ho, k1, k2, hrt, Bool.true_and, Bool.and_eq_true, decide_eq_true_eq]
            omega
          exact uH t0 t1 t2 t3 t4 t5 t6 t7 t8 t9 t10 t11 t12 t13 t14 t15 N M L U V KD CD OP i K O (agF U V N M) h a s l hi' hL hN hM hl' hc h0 ho hH hM2 z1 (by rw [k1, kk]; rfl) (by rw [k1]; rfl) (J.find (.inl rfl) ho) (J.find (.inr rfl) ho) (J.rt 0 _) (J.rt 1 _) J.calm
            (ih (i + 1) _ _ _ _ _ _ (by omega) J (by omega) (by omega) (by omega) (by omega))
    by_cases h12 : KD [i] = 1 ∨ KD [i] = 2
    · by_cases hcd : CD [i] = 0 ∨ CD [i] = 1
      · cases ho : inO (OP [i]) with
        | false =>
          rcases hcd with hcd | hcd
          · exact uR0 t0 t1 t2 t3 t4 t5 t6 t7 t8 t9 t10 t11 t12 t13 t14 t15 N M L U V KD CD OP i K O (agF U V N M) h a s l hi' hL hN hM hl' hc h12 hcd ho (I.out ho) (I.out ho) hCal same
          · exact uR1 t0 t1 t2 t3 t4 t5 t6 t7 t8 t9 t10 t11 t12 t13 t14 t15 N M L U V KD CD OP i K O (agF U V N M) h a s l hi' hL hN hM hl' hc h12 hcd ho (I.out ho) (I.out ho) hCal same
        | true =>
          obtain ⟨k1, k2⟩ := I.find hcd ho
          have k1 : kG (rS l) (rO l) (rK l) l.length (CD [i]) (OP [i]) = K [(CD [i]).toNat, (OP [i]).toNat] := k1
          have k2 : bG (rS l) (rO l) (rB l) l.length (CD [i]) (OP [i]) = O [(CD [i]).toNat, (OP [i]).toNat] := k2
          have hrt := I.rt (CD [i]).toNat (OP [i]).toNat
          have hcB : (decide (CD [i] = 0) || decide (CD [i] = 1)) = true := by simp only [Bool.or_eq_true, decide_eq_true_eq]; exact hcd
          have hA : akC K O h a s (CD [i]) (OP [i]) = true := by simp only [akC, hc, hrt, hcB, ho, Bool.and_self]
          have hMa : maC (rS l) (rO l) (rK l) (rB l) l.length a s (CD [i]) (OP [i]) = true := by
            simp only [maC, hcB, ho, k1, k2, hrt, Bool.true_and, Bool.and_eq_true, decide_eq_true_eq]
            omega
          cases he : afE K O (CD [i]) (OP [i]) (KD [i] == 1) with
          | true => exact uX t0 t1 t2 t3 t4 t5 t6 t7 t8 t9 t10 t11 t12 t13 t14 t15 N M L U V KD CD OP i K O (agF U V N M) h a s l hi' hL hN hM hl' hc h12 ho (by rw [hA, he]; rfl) (by rw [hMa, k1, k2]; exact he) (I.find (.inl rfl) ho) (I.find (.inr rfl) ho) hR0 hR1 hCal same
          | false =>
            have J0 := I.set hcd ho (ask_rt (on := KD [i] == 1) hrt)
            have J : UI (nwL l (CD [i]) (OP [i]) (askK (kG (rS l) (rO l) (rK l) l.length (CD [i]) (OP [i])) (bG (rS l) (rO l) (rB l) l.length (CD [i]) (OP [i])) (KD [i] == 1)) (askO (kG (rS l) (rO l) (rK l) l.length (CD [i]) (OP [i])) (bG (rS l) (rO l) (rB l) l.length (CD [i]) (OP [i])) (KD [i] == 1))) (afK K O (CD [i]) (OP [i]) (KD [i] == 1)) (afO K O (CD [i]) (OP [i]) (KD [i] == 1)) := by
              rw [k1, k2]; exact J0
            have hln2 : (nwL l (CD [i]) (OP [i]) (askK (kG (rS l) (rO l) (rK l) l.length (CD [i]) (OP [i])) (bG (rS l) (rO l) (rB l) l.length (CD [i]) (OP [i])) (KD [i] == 1)) (askO (kG (rS l) (rO l) (rK l) l.length (CD [i]) (OP [i])) (bG (rS l) (rO l) (rB l) l.length (CD [i]) (OP [i])) (KD [i] == 1))).length ≤ l.length + 1 := nwG_le _ _ _ _ _ _ _ _ _
            have z2 := tz_01 (afZ K O (CD [i]) (OP [i]) (KD [i] == 1))
            exact uA t0 t1 t2 t3 t4 t5 t6 t7 t8 t9 t10 t11 t12 t13 t14 t15 N M L U V KD CD OP i K O (agF U V N M) h a s l hi' hL hN hM hl' hc h12 ho (by rw [hA, he]; rfl) (by rw [hMa, k1, k2]; show (true && !afE K O (CD [i]) (OP [i]) (KD [i] == 1)) = true; rw [he]; rfl) (by rw [k1, k2]; rfl) (J.find (.inl rfl) ho) (J.find (.inr rfl) ho) (J.rt 0 _) (J.rt 1 _) J.calm
              (ih (i + 1) _ _ _ _ _ _ (by omega) J (by omega) (by omega) (by omega) (by omega))
      · have hcd2 : CD [i] ≠ 0 ∧ CD [i] ≠ 1 := by omega
        cases ho : inO (OP [i]) with
        | true => exact uAKi t0 t1 t2 t3 t4 t5 t6 t7 t8 t9 t10 t11 t12 t13 t14 t15 N M L U V KD CD OP i K O (agF U V N M) h a s l hi' hL hN hM hl' hc h12 hcd2 ho (I.find (.inl rfl) ho) (I.find (.inr rfl) ho) hR0 hR1 hCal same
        | false => exact uAKo t0 t1 t2 t3 t4 t5 t6 t7 t8 t9 t10 t11 t12 t13 t14 t15 N M L U V KD CD OP i K O (agF U V N M) h a s l hi' hL hN hM hl' hc h12 hcd2 ho (I.out ho) (I.out ho) hCal same
    have hk : KD [i] ≠ 0 ∧ KD [i] ≠ 1 ∧ KD [i] ≠ 2 := by omega
    cases ho : inO (OP [i]) with
    | true => exact uIi t0 t1 t2 t3 t4 t5 t6 t7 t8 t9 t10 t11 t12 t13 t14 t15 N M L U V KD CD OP i K O (agF U V N M) h a s l hi' hL hN hM hl' hc hk ho (I.find (.inl rfl) ho) (I.find (.inr rfl) ho) hR0 hR1 hCal same
    | false => exact uIo t0 t1 t2 t3 t4 t5 t6 t7 t8 t9 t10 t11 t12 t13 t14 t15 N M L U V KD CD OP i K O (agF U V N M) h a s l hi' hL hN hM hl' hc hk ho (I.out ho) (I.out ho) hCal same

theorem tacts_law : RunsTo Tryd.prog 8 [.code (bodyOf Tryd.f8)] (envOf [.agg (polT 100 N M), vL 102 3 L] Tryd.f8.ntmps) (Sx.look (XU t0 t1 t2 t3 t4 t5 t6 t7 t8 t9 t10 t11 t12 t13 t14 t15 N M L U V KD CD OP ++ [])) 110 YES (Sx.look []) 2500 := by
  by_cases hb : 40 < L ∨ 40 < N ∨ 40 < M
  · exact ulong t0 t1 t2 t3 t4 t5 t6 t7 t8 t9 t10 t11 t12 t13 t14 t15 N M L U V KD CD OP hb
  · exact ugo t0 t1 t2 t3 t4 t5 t6 t7 t8 t9 t10 t11 t12 t13 t14 t15 N M L U V KD CD OP (by omega) (by omega) (by omega) (ta_loop t0 t1 t2 t3 t4 t5 t6 t7 t8 t9 t10 t11 t12 t13 t14 t15 N M L U V KD CD OP (by omega) (by omega) (by omega) L 0 zI zB 0 0 0 [] (by omega)
      ⟨fun p n => by simp [rtB, zI, zB], fun r hr => (by cases hr), fun p n _ _ _ => ⟨rfl, rfl⟩⟩ (by omega) (by omega) (by omega) (by simp))
end
end Go.Proofs.YtgbgfekfcjphnaaDoor
