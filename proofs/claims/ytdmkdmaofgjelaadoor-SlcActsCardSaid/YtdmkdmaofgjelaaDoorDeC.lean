/- Special characters, by acts: the law's loop. -/
import Derived.Test.YtdmkdmaofgjelaaDoorDdC
set_option linter.unusedSimpArgs false
set_option linter.unusedVariables false
set_option maxRecDepth 100000
namespace Go.Proofs.YtdmkdmaofgjelaaDoor
open Go.Sx

theorem hlG_nn (N : Nat) (L V : Ix → Int) (p : Nat) : 0 ≤ hlG N L V L [p] := by
  simp only [hlG]
  split
  · rename_i h
    have h4 := h.2.2.2
    simp only [okS, Bool.and_eq_true] at h4
    exact (fine_ok h4.1).1
  · exact Int.le_refl 0

section
variable (t0 t1 t2 t3 t4 t5 t6 t7 t8 t9 t10 t11 t12 t13 t14 t15 : List UInt8) (N M : Nat) (L V K F Lv Vv : Ix → Int) (A : Ix → Bool)

theorem rounds (hM : M ≤ 60) (oL oV : Ix → Int) (ho : ∀ p, 0 ≤ oL [p]) : ∀ (k i : Nat) (hL hV : Ix → Int) (wt : Ix → Bool), i + k = M →
    RunsTo Tryd.prog 8 (headOf Tryd.f8 0) (envAt Tryd.f8.ntmps (lwE M i)) (Sx.look (X8 t0 t1 t2 t3 t4 t5 t6 t7 t8 t9 t10 t11 t12 t13 t14 t15 N M L V K F Lv Vv A ++ two hL hV oL oV wt)) 110 YES (Sx.look []) 900 := by
  intro k
  induction k with
  | zero =>
    intro i hL hV wt hi
    exact done_ t0 t1 t2 t3 t4 t5 t6 t7 t8 t9 t10 t11 t12 t13 t14 t15 N M L V K F Lv Vv A i hL hV oL oV wt (by omega)
  | succ k ih =>
    intro i hL hV wt hi
    by_cases h0 : K [i] = 0
    · exact hears t0 t1 t2 t3 t4 t5 t6 t7 t8 t9 t10 t11 t12 t13 t14 t15 N M L V K F Lv Vv A i hL hV oL oV wt (by omega) hM ho h0 (ih (i + 1) _ _ _ (by omega))
    by_cases h1 : K [i] = 1
    · exact asks t0 t1 t2 t3 t4 t5 t6 t7 t8 t9 t10 t11 t12 t13 t14 t15 N M L V K F Lv Vv A i hL hV oL oV wt (by omega) hM ho h1 (ih (i + 1) _ _ _ (by omega))
    exact other t0 t1 t2 t3 t4 t5 t6 t7 t8 t9 t10 t11 t12 t13 t14 t15 N M L V K F Lv Vv A i hL hV oL oV wt (by omega) hM ho ⟨h0, h1⟩ (ih (i + 1) _ _ _ (by omega))

theorem slcActs_law :
    RunsTo Tryd.prog 8 [.code (bodyOf Tryd.f8)] (envOf [setV 100 N, actV M] Tryd.f8.ntmps) (Sx.look (X8 t0 t1 t2 t3 t4 t5 t6 t7 t8 t9 t10 t11 t12 t13 t14 t15 N M L V K F Lv Vv A ++ [])) 110 YES (Sx.look []) 900 := by
  by_cases h : 40 < N ∨ 60 < M
  · exact golong t0 t1 t2 t3 t4 t5 t6 t7 t8 t9 t10 t11 t12 t13 t14 t15 N M L V K F Lv Vv A h
  · exact go t0 t1 t2 t3 t4 t5 t6 t7 t8 t9 t10 t11 t12 t13 t14 t15 N M L V K F Lv Vv A (by omega) (by omega)
      (rounds t0 t1 t2 t3 t4 t5 t6 t7 t8 t9 t10 t11 t12 t13 t14 t15 N M L V K F Lv Vv A (by omega) (hlG N L V L) (hlG N L V V) (hlG_nn N L V) M 0 zI zI zB (by omega))
end
end Go.Proofs.YtdmkdmaofgjelaaDoor
