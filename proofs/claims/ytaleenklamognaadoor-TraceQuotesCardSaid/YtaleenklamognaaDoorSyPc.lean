/- The engine, part 39: what is known of the numbers in an argument's row. -/
import Derived.Test.YtaleenklamognaaDoorSyPb
set_option linter.unusedSimpArgs false
set_option linter.unusedVariables false
namespace Go.Sx

theorem bnd_u8 {n : Int} (h : (Lit.int .u8 n).wf = true) : 0 ≤ n ∧ n < 256 := by
  have := bounds_u8 h
  omega

theorem sl_u8 {W : World} {v : Value} (h : (Sh.sl (.ki .u8)).Is W [v]) {g : Rd} {o : Nat} (hg : g [] o = v) : ∀ i, i < lenOf v → 0 ≤ Sx.intOf (rdOf W 1 g o [i] 0) ∧ Sx.intOf (rdOf W 1 g o [i] 0) < 256 := by
  obtain ⟨u, hu, _, _, _, _, hrows⟩ := h
  have hu : v = u := by simpa using hu
  subst hu
  intro i hi
  obtain ⟨n, hn, hwf⟩ := hrows i hi
  have e : rdOf W 1 g o [i] 0 = .int .u8 n := by
    have : rdOf W 1 g o [i] 0 = (rowsOf W 1 (g [] o) i).getD 0 undef := rfl
    rw [this, hg]
    have e1 : (Sh.ki .u8).size = 1 := rfl
    rw [e1] at hn
    rw [hn]; rfl
  rw [e]
  exact bnd_u8 hwf

theorem act_bytes {W : World} {v : Value} (h : (Sh.sl (.tc (.ki .i64) (.tc (.ki .i64) (.tc (.sl (.ki .u8)) .t0)))).Is W [v]) {g : Rd} {o : Nat} (hg : g [] o = v) :
    ∀ i, i < lenOf v → ∀ j, j < lenOf (rdOf W 3 g o [i] 2) → 0 ≤ Sx.intOf (rdOf W 1 (rdOf W 3 g o) 2 [i, j] 0) ∧ Sx.intOf (rdOf W 1 (rdOf W 3 g o) 2 [i, j] 0) < 256 := by
  obtain ⟨v', hv', _, _, _, _, hrows⟩ := h
  have hv' : v = v' := by simpa using hv'
  subst hv'
  intro i hi j hj
  obtain ⟨_, _, e, _, ⟨a, rfl, _⟩, _, _, rfl, _, ⟨b, rfl, hb⟩, _, _, rfl, _, hu, h0⟩ := hrows i hi
  simp only [Sh.Is] at h0
  subst h0
  have hrd : ∀ j, rdOf W 3 g o [i] j = (rowsOf W 3 v i).getD j undef := fun j => by
    have : rdOf W 3 g o [i] j = (rowsOf W 3 (g [] o) i).getD j undef := rfl
    rw [this, hg]
  obtain ⟨u, hu', _, _, _, _, hbytes⟩ := hu
  subst hu'
  have e3 : rowsOf W 3 v i = [.int .i64 a, .int .i64 b, u] := e
  have h2 : rdOf W 3 g o [i] 2 = u := by rw [hrd, e3]; rfl
  rw [h2] at hj
  obtain ⟨n, hn, hwf⟩ := hbytes j hj
  have h3 : rdOf W 1 (rdOf W 3 g o) 2 [i, j] 0 = .int .u8 n := by
    have : rdOf W 1 (rdOf W 3 g o) 2 [i, j] 0 = (rowsOf W 1 (rdOf W 3 g o [i] 2) j).getD 0 undef := rfl
    rw [this, h2]
    have e1 : (Sh.ki .u8).size = 1 := rfl
    rw [e1] at hn
    rw [hn]; rfl
  rw [h3]
  exact bnd_u8 hwf

end Go.Sx
