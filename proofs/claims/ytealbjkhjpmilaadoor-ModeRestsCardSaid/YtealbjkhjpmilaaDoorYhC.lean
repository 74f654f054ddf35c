/- Modes, act by act. -/
import Derived.Test.YtealbjkhjpmilaaDoorYgC
import Derived.Test.YtealbjkhjpmilaaDoorYdC
set_option linter.unusedSimpArgs false
set_option linter.unusedVariables false
set_option maxRecDepth 100000
namespace Go.Proofs.YtealbjkhjpmilaaDoor
open Go.Sx

theorem act_mid {W : World} {v : Value} (h : (Sh.sl (.tc (.ki .i64) (.tc (.ki .i64) (.tc (.sl (.ki .u8)) .t0)))).Is W [v]) {g : Rd} {o : Nat} (hg : g [] o = v) :
    ∀ i, i < lenOf v → -9223372036854775808 ≤ Sx.intOf (rdOf W 3 g o [i] 1) ∧ Sx.intOf (rdOf W 3 g o [i] 1) < 9223372036854775808 := by
  obtain ⟨v', hv', _, _, _, _, hrows⟩ := h
  have hv' : v = v' := by simpa using hv'
  subst hv'
  intro i hi
  obtain ⟨_, _, e, _, ⟨a, rfl, _⟩, _, _, rfl, _, ⟨b, rfl, hb⟩, _, _, rfl, _, hu, h0⟩ := hrows i hi
  have hrd : ∀ j, rdOf W 3 g o [i] j = (rowsOf W 3 v i).getD j undef := fun j => by
    have : rdOf W 3 g o [i] j = (rowsOf W 3 (g [] o) i).getD j undef := rfl
    rw [this, hg]
  have e3 : rowsOf W 3 v i = [Value.int .i64 a] ++ ([Value.int .i64 b] ++ _) := e
  have h2 : rdOf W 3 g o [i] 1 = .int .i64 b := by rw [hrd, e3]; rfl
  rw [h2]
  exact bnd_i64 hb
variable (t0 t1 t2 t3 t4 t5 t6 t7 t8 t9 t10 t11 t12 t13 t14 t15 : List UInt8) (c : Int) (N : Nat) (K M : Ix → Int) (bl : Ix → Nat) (B : Ix → Int)
theorem ma_loop (hN : N ≤ 60) (hB : ∀ i, i < N → ∀ j, j < bl [i] → 0 ≤ B [i, j] ∧ B [i, j] < 256) (hM : ∀ i, i < N → -9223372036854775808 ≤ M [i] ∧ M [i] < 9223372036854775808) :
    ∀ (k i : Nat) (hd : Int) (w : Bool) (tl : Int), i + k = N → RunsTo Tryd.prog 6 (headOf Tryd.f6 0) (envAt Tryd.f6.ntmps (lcE c N i hd w tl)) (Sx.look (XA t0 t1 t2 t3 t4 t5 t6 t7 t8 t9 t10 t11 t12 t13 t14 t15 N K M bl B ++ htE c hd w tl)) 110 YES (Sx.look []) 900 := by
  intro k
  induction k with
  | zero => intro i hd w tl hi; exact adone t0 t1 t2 t3 t4 t5 t6 t7 t8 t9 t10 t11 t12 t13 t14 t15 c N K M bl B i hd w tl (by omega)
  | succ k ih =>
    intro i hd w tl hi
    have hi' : i < N := by omega
    have hB' := hB i hi'
    have hM' := hM i hi'
    by_cases hb : 20 < bl [i]
    · exact afull t0 t1 t2 t3 t4 t5 t6 t7 t8 t9 t10 t11 t12 t13 t14 t15 c N K M bl B i hd w tl hi' hN hb
    have hb' : bl [i] ≤ 20 := by omega
    have same := ih (i + 1) hd w tl (by omega)
    by_cases hk0 : K [i] = 0
    · cases hr : rightR (M [i]) with
      | false => exact k0form t0 t1 t2 t3 t4 t5 t6 t7 t8 t9 t10 t11 t12 t13 t14 t15 c N K M bl B i hd w tl hi' hN hb' hB' hM' hk0 hr same
      | true =>
        cases hw : w with
        | true => subst hw; exact k0state t0 t1 t2 t3 t4 t5 t6 t7 t8 t9 t10 t11 t12 t13 t14 t15 c N K M bl B i hd true tl hi' hN hb' hB' hM' hk0 hr rfl same
        | false =>
          subst hw
          by_cases hd2 : M [i] = hd
          · exact k0dup t0 t1 t2 t3 t4 t5 t6 t7 t8 t9 t10 t11 t12 t13 t14 t15 c N K M bl B i hd false tl hi' hN hb' hB' hM' hk0 hr rfl hd2 same
          · exact k0ok t0 t1 t2 t3 t4 t5 t6 t7 t8 t9 t10 t11 t12 t13 t14 t15 c N K M bl B i hd false tl hi' hN hb' hB' hM' hk0 hr rfl hd2 (ih (i + 1) (M [i]) true tl (by omega))
    by_cases hk1 : K [i] = 1
    · by_cases h2 : bl [i] < 2
      · exact k1Short t0 t1 t2 t3 t4 t5 t6 t7 t8 t9 t10 t11 t12 t13 t14 t15 c N K M bl B i hd w tl hi' hN hb' hB' hM' hk1 h2 same
      by_cases h3 : 2 < bl [i]
      · exact k1More t0 t1 t2 t3 t4 t5 t6 t7 t8 t9 t10 t11 t12 t13 t14 t15 c N K M bl B i hd w tl hi' hN hb' hB' hM' hk1 h3 same
      have h4 : bl [i] = 2 := by omega
      by_cases h5 : B [i, 0] = 1
      · cases ha : ackR (B [i, 1]) with
        | false =>
          cases hr : rightR (maskR (B [i, 1])) with
          | false => exact k1Form0 t0 t1 t2 t3 t4 t5 t6 t7 t8 t9 t10 t11 t12 t13 t14 t15 c N K M bl B i hd w tl hi' hN hb' hB' hM' hk1 h4 h5 ha hr same
          | true => exact k1Ok0 t0 t1 t2 t3 t4 t5 t6 t7 t8 t9 t10 t11 t12 t13 t14 t15 c N K M bl B i hd w tl hi' hN hb' hB' hM' hk1 h4 h5 ha hr same
        | true =>
          cases hr : rightR (maskR (B [i, 1])) with
          | false => exact k1Form1 t0 t1 t2 t3 t4 t5 t6 t7 t8 t9 t10 t11 t12 t13 t14 t15 c N K M bl B i hd w tl hi' hN hb' hB' hM' hk1 h4 h5 ha hr same
          | true =>
            cases hw : w with
            | false => subst hw; exact k1Idle t0 t1 t2 t3 t4 t5 t6 t7 t8 t9 t10 t11 t12 t13 t14 t15 c N K M bl B i hd false tl hi' hN hb' hB' hM' hk1 rfl h4 h5 ha hr same
            | true => subst hw; exact k1Ok t0 t1 t2 t3 t4 t5 t6 t7 t8 t9 t10 t11 t12 t13 t14 t15 c N K M bl B i hd true tl hi' hN hb' hB' hM' hk1 rfl h4 h5 ha hr (ih (i + 1) (B [i, 1] - 4) false tl (by omega))
      · exact k1Kind t0 t1 t2 t3 t4 t5 t6 t7 t8 t9 t10 t11 t12 t13 t14 t15 c N K M bl B i hd w tl hi' hN hb' hB' hM' hk1 h4 h5 same
    by_cases hk2 : K [i] = 2
    · by_cases h2 : bl [i] < 2
      · exact k2Short t0 t1 t2 t3 t4 t5 t6 t7 t8 t9 t10 t11 t12 t13 t14 t15 c N K M bl B i hd w tl hi' hN hb' hB' hM' hk2 h2 same
      by_cases h3 : 2 < bl [i]
      · exact k2More t0 t1 t2 t3 t4 t5 t6 t7 t8 t9 t10 t11 t12 t13 t14 t15 c N K M bl B i hd w tl hi' hN hb' hB' hM' hk2 h3 same
      have h4 : bl [i] = 2 := by omega
      by_cases h5 : B [i, 0] = 1
      · cases ha : ackR (B [i, 1]) with
        | false =>
          cases hr : rightR (maskR (B [i, 1])) with
          | false => exact k2Form0 t0 t1 t2 t3 t4 t5 t6 t7 t8 t9 t10 t11 t12 t13 t14 t15 c N K M bl B i hd w tl hi' hN hb' hB' hM' hk2 h4 h5 ha hr same
          | true => exact k2Ok t0 t1 t2 t3 t4 t5 t6 t7 t8 t9 t10 t11 t12 t13 t14 t15 c N K M bl B i hd w tl hi' hN hb' hB' hM' hk2 h4 h5 ha hr (ih (i + 1) hd w (bothR (B [i, 1]) c) (by omega))
        | true =>
          cases hr : rightR (maskR (B [i, 1])) with
          | false => exact k2Form1 t0 t1 t2 t3 t4 t5 t6 t7 t8 t9 t10 t11 t12 t13 t14 t15 c N K M bl B i hd w tl hi' hN hb' hB' hM' hk2 h4 h5 ha hr same
          | true => exact k2Ok1 t0 t1 t2 t3 t4 t5 t6 t7 t8 t9 t10 t11 t12 t13 t14 t15 c N K M bl B i hd w tl hi' hN hb' hB' hM' hk2 h4 h5 ha hr same
      · exact k2Kind t0 t1 t2 t3 t4 t5 t6 t7 t8 t9 t10 t11 t12 t13 t14 t15 c N K M bl B i hd w tl hi' hN hb' hB' hM' hk2 h4 h5 same
    exact kx t0 t1 t2 t3 t4 t5 t6 t7 t8 t9 t10 t11 t12 t13 t14 t15 c N K M bl B i hd w tl hi' hN hb' hB' hM' ⟨hk0, hk1, hk2⟩ same
theorem acts_law (hB : ∀ i, i < N → ∀ j, j < bl [i] → 0 ≤ B [i, j] ∧ B [i, j] < 256) (hM : ∀ i, i < N → -9223372036854775808 ≤ M [i] ∧ M [i] < 9223372036854775808) : RunsTo Tryd.prog 6 [.code (bodyOf Tryd.f6)] (envOf [vN c, vL 100 3 N] Tryd.f6.ntmps) (Sx.look (XA t0 t1 t2 t3 t4 t5 t6 t7 t8 t9 t10 t11 t12 t13 t14 t15 N K M bl B ++ [])) 110 YES (Sx.look []) 900 := by
  by_cases hN : 60 < N
  · exact along t0 t1 t2 t3 t4 t5 t6 t7 t8 t9 t10 t11 t12 t13 t14 t15 c N K M bl B hN
  · exact astart t0 t1 t2 t3 t4 t5 t6 t7 t8 t9 t10 t11 t12 t13 t14 t15 c N K M bl B (by omega) (ma_loop t0 t1 t2 t3 t4 t5 t6 t7 t8 t9 t10 t11 t12 t13 t14 t15 c N K M bl B (by omega) hB hM N 0 0 false 0 (by omega))
end Go.Proofs.YtealbjkhjpmilaaDoor
