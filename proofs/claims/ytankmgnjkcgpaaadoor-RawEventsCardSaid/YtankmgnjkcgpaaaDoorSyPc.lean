/- The engine, part 39: what is known of the numbers in an argument's row. -/
import Derived.Test.YtankmgnjkcgpaaaDoorSyPb
set_option linter.unusedSimpArgs false
set_option linter.unusedVariables false
namespace Go.Sx

theorem bnd_u8 {n : Int} (h : (Lit.int .u8 n).wf = true) : 0 ≤ n ∧ n < 256 := by
  have := bounds_u8 h
  omega

theorem sl_u8 {W : World} {v : Value} (h : (Sh.sl (.ki .u8)).Is W [v]) {g : Rd} {o : Nat} (hg : g [] o = v) : ∀ i, i < lenOf v → 0 ≤ Sx.intOf (rdOf W 1 g o [i] 0) ∧ Sx.intOf (rdOf W 1 g o [i] 0) < 256 := by
  obtain ⟨u, hu, _, _, _, _, hrows⟩ := h
  have hu : v = u := by simpa using hu
  subst hu
  intro i hi
  obtain ⟨n, hn, hwf⟩ := hrows i hi
  have e : rdOf W 1 g o [i] 0 = .int .u8 n := by
    have : rdOf W 1 g o [i] 0 = (rowsOf W 1 (g [] o) i).getD 0 undef := rfl
    rw [this, hg]
    have e1 : (Sh.ki .u8).size = 1 := rfl
    rw [e1] at hn
    rw [hn]; rfl
  rw [e]
  exact bnd_u8 hwf

end Go.Sx
