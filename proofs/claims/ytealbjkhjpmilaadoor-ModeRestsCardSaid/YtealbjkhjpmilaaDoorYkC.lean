/- Modes at rest. -/
import Derived.Test.YtealbjkhjpmilaaDoorYjC
import Derived.Test.YtealbjkhjpmilaaDoorYhC
set_option linter.unusedSimpArgs false
set_option linter.unusedVariables false
set_option maxRecDepth 100000
namespace Go.Proofs.YtealbjkhjpmilaaDoor
open Go.Sx

variable (t0 t1 t2 t3 t4 t5 : List UInt8) (c : Int) (N : Nat) (A : Ix → Int)
theorem rr_loop (hN : N ≤ 60) (hA : ∀ i, i < N → -9223372036854775808 ≤ A [i] ∧ A [i] < 9223372036854775808) : ∀ (k i : Nat), i + k = N + 130 →
    (∀ hd : Int, rightR hd = true → RunsTo Tryd.prog 3 (headOf Tryd.f3 0) (envAt Tryd.f3.ntmps (lcR c N i (qZ 123) (qZ 127))) (Sx.look (XR t0 t1 t2 t3 t4 t5 N A ++ (htE c hd false hd ++ (rwZ 123 ++ rwZ 127)))) 110 YES (Sx.look []) 900) ∧ (∀ hd : Int, rightR hd = true → RunsTo Tryd.prog 3 (headOf Tryd.f3 0) (envAt Tryd.f3.ntmps (lcR c N i (qE 123) (qE 127))) (Sx.look (XR t0 t1 t2 t3 t4 t5 N A ++ (htE c hd false hd ++ (rwE 123 ++ rwE 127)))) 110 YES (Sx.look []) 900) ∧
    (∀ hd tl : Int, rightR hd = true → (i ≤ N ∨ (i = N + 1 ∧ i % 2 = 0)) → RunsTo Tryd.prog 3 (headOf Tryd.f3 0) (envAt Tryd.f3.ntmps (lcR c N i (q1 123) (qZ 127))) (Sx.look (XR t0 t1 t2 t3 t4 t5 N A ++ (htE c hd true tl ++ (rwE 123 ++ (msE 125 hd ++ rwZ 127))))) 110 YES (Sx.look []) 900) ∧ (∀ hd tl : Int, rightR hd = true → (i ≤ N ∨ (i = N + 1 ∧ i % 2 = 0)) → RunsTo Tryd.prog 3 (headOf Tryd.f3 0) (envAt Tryd.f3.ntmps (lcR c N i (q1 123) (qE 127))) (Sx.look (XR t0 t1 t2 t3 t4 t5 N A ++ (htE c hd true tl ++ (rwE 123 ++ (msE 125 hd ++ rwE 127))))) 110 YES (Sx.look []) 900) ∧
    (∀ hd tl : Int, rightR tl = true → (i ≤ N ∨ (i % 2 = 1 ∧ i ≤ N + 2)) → RunsTo Tryd.prog 3 (headOf Tryd.f3 0) (envAt Tryd.f3.ntmps (lcR c N i (qE 123) (q1 127))) (Sx.look (XR t0 t1 t2 t3 t4 t5 N A ++ (htE c hd true tl ++ (rwE 123 ++ (rwE 127 ++ msE 129 (tl + 4)))))) 110 YES (Sx.look []) 900) := by
  intro k
  induction k with
  | zero =>
    intro i hi
    refine ⟨fun hd _ => rdoneZ0 t0 t1 t2 t3 t4 t5 c N A i hd hd hN (by omega), fun hd _ => rdoneZ1 t0 t1 t2 t3 t4 t5 c N A i hd hd hN (by omega), fun hd tl _ hv => ?_, fun hd tl _ hv => ?_, fun hd tl _ hv => ?_⟩ <;> omega
  | succ k ih =>
    intro i hi
    obtain ⟨iz0, iz1, ia, ib, i2⟩ := ih (i + 1) (by omega)
    have hi' : i < N + 130 := by omega
    have hA' := hA i
    refine ⟨fun hd hr => ?_, fun hd hr => ?_, fun hd tl hr hv => ?_, fun hd tl hr hv => ?_, fun hd tl hr hv => ?_⟩
    · by_cases hs : i < N ∧ rightR (A [i]) = true ∧ A [i] ≠ hd
      · exact setZ0 t0 t1 t2 t3 t4 t5 c N A i hd hd hi' hN hA' hs.1 hs.2.1 hs.2.2 (ia (A [i]) hd hs.2.1 (by omega))
      · refine sameZ0 t0 t1 t2 t3 t4 t5 c N A i hd hd hi' hN hA' (fun hlt => ?_) (iz0 hd hr)
        cases hx : rightR (A [i]) with
        | false => exact .inr (.inl rfl)
        | true => exact .inr (.inr (Decidable.byContradiction fun hne => hs ⟨hlt, hx, hne⟩))
    · by_cases hs : i < N ∧ rightR (A [i]) = true ∧ A [i] ≠ hd
      · exact setZ1 t0 t1 t2 t3 t4 t5 c N A i hd hd hi' hN hA' hs.1 hs.2.1 hs.2.2 (ib (A [i]) hd hs.2.1 (by omega))
      · refine sameZ1 t0 t1 t2 t3 t4 t5 c N A i hd hd hi' hN hA' (fun hlt => ?_) (iz1 hd hr)
        cases hx : rightR (A [i]) with
        | false => exact .inr (.inl rfl)
        | true => exact .inr (.inr (Decidable.byContradiction fun hne => hs ⟨hlt, hx, hne⟩))
    · by_cases hs : (i < N → A [i] = -1) ∧ (N ≤ i → i % 2 = 0)
      · exact stepW1a t0 t1 t2 t3 t4 t5 c N A i hd tl hi' hN hA' hs hr (i2 hd (bothR hd c) (both_right c hr) (by omega))
      · have hs2 : (i < N → A [i] ≠ -1) ∧ (N ≤ i → i % 2 = 1) := by
          by_cases hlt : i < N
          · exact ⟨fun _ h => hs ⟨fun _ => h, fun h2 => by omega⟩, fun h2 => by omega⟩
          · exact ⟨fun h2 => absurd h2 hlt, fun h2 => by
              by_cases hp : i % 2 = 0
              · exact absurd ⟨fun h3 => absurd h3 hlt, fun _ => hp⟩ hs
              · omega⟩
        refine sameW1a t0 t1 t2 t3 t4 t5 c N A i hd tl hi' hN hA' hs2 (ia hd tl hr ?_)
        rcases hv with hv | ⟨h1, h2⟩
        · by_cases hlt : i < N
          · left; omega
          · have := hs2.2 (by omega); right; omega
        · have := hs2.2 (by omega); omega
    · by_cases hs : (i < N → A [i] = -1) ∧ (N ≤ i → i % 2 = 0)
      · exact stepW1b t0 t1 t2 t3 t4 t5 c N A i hd tl hi' hN hA' hs hr (i2 hd (bothR hd c) (both_right c hr) (by omega))
      · have hs2 : (i < N → A [i] ≠ -1) ∧ (N ≤ i → i % 2 = 1) := by
          by_cases hlt : i < N
          · exact ⟨fun _ h => hs ⟨fun _ => h, fun h2 => by omega⟩, fun h2 => by omega⟩
          · exact ⟨fun h2 => absurd h2 hlt, fun h2 => by
              by_cases hp : i % 2 = 0
              · exact absurd ⟨fun h3 => absurd h3 hlt, fun _ => hp⟩ hs
              · omega⟩
        refine sameW1b t0 t1 t2 t3 t4 t5 c N A i hd tl hi' hN hA' hs2 (ib hd tl hr ?_)
        rcases hv with hv | ⟨h1, h2⟩
        · by_cases hlt : i < N
          · left; omega
          · have := hs2.2 (by omega); right; omega
        · have := hs2.2 (by omega); omega
    · by_cases hs : (i < N → A [i] < -1) ∧ (N ≤ i → i % 2 = 1)
      · exact stepW2 t0 t1 t2 t3 t4 t5 c N A i hd tl hi' hN hA' hs hr (iz1 tl hr)
      · have hs2 : (i < N → -1 ≤ A [i]) ∧ (N ≤ i → i % 2 = 0) := by
          by_cases hlt : i < N
          · exact ⟨fun _ => by
              by_cases hp : A [i] < -1
              · exact absurd ⟨fun _ => hp, fun h2 => by omega⟩ hs
              · omega, fun h2 => by omega⟩
          · exact ⟨fun h2 => absurd h2 hlt, fun h2 => by
              by_cases hp : i % 2 = 1
              · exact absurd ⟨fun h3 => absurd h3 hlt, fun _ => hp⟩ hs
              · omega⟩
        refine sameW2 t0 t1 t2 t3 t4 t5 c N A i hd tl hi' hN hA' hs2 (i2 hd tl hr ?_)
        rcases hv with hv | ⟨h1, h2⟩
        · by_cases hlt : i < N
          · left; omega
          · have := hs2.2 (by omega); right; omega
        · have : ¬ N ≤ i := fun h => by have := hs2.2 h; omega
          left; omega
theorem rests_law (hA : ∀ i, i < N → -9223372036854775808 ≤ A [i] ∧ A [i] < 9223372036854775808) : RunsTo Tryd.prog 3 [.code (bodyOf Tryd.f3)] (envOf [vN c, vL 100 1 N] Tryd.f3.ntmps) (Sx.look (XR t0 t1 t2 t3 t4 t5 N A ++ [])) 110 YES (Sx.look []) 900 := by
  by_cases hN : 60 < N
  · exact rlong t0 t1 t2 t3 t4 t5 c N A hN
  · exact rstart t0 t1 t2 t3 t4 t5 c N A (by omega) ((rr_loop t0 t1 t2 t3 t4 t5 c N A (by omega) hA (N + 130) 0 (by omega)).1 0 (by decide))

theorem sl_i64 {W : World} {v : Value} (h : (Sh.sl (.ki .i64)).Is W [v]) {g : Rd} {o : Nat} (hg : g [] o = v) : ∀ i, i < lenOf v → -9223372036854775808 ≤ Sx.intOf (rdOf W 1 g o [i] 0) ∧ Sx.intOf (rdOf W 1 g o [i] 0) < 9223372036854775808 := by
  obtain ⟨u, hu, _, _, _, _, hrows⟩ := h
  have hu : v = u := by simpa using hu
  subst hu
  intro i hi
  obtain ⟨n, hn, hwf⟩ := hrows i hi
  have e : rdOf W 1 g o [i] 0 = .int .i64 n := by
    have : rdOf W 1 g o [i] 0 = (rowsOf W 1 (g [] o) i).getD 0 undef := rfl
    rw [this, hg]
    have e1 : (Sh.ki .i64).size = 1 := rfl
    rw [e1] at hn
    rw [hn]; rfl
  rw [e]
  exact bnd_i64 hwf
end Go.Proofs.YtealbjkhjpmilaaDoor
