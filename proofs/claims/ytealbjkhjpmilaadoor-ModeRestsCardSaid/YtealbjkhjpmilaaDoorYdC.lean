/- Modes: every body. -/
import Derived.Test.YtealbjkhjpmilaaDoorYcC
set_option linter.unusedSimpArgs false
set_option linter.unusedVariables false
set_option maxRecDepth 100000
namespace Go.Proofs.YtealbjkhjpmilaaDoor
open Go.Sx

theorem bodies_law (t0 t1 t2 t3 t4 t5 t6 t7 t8 t9 t10 t11 t12 t13 t14 t15 : List UInt8) (N : Nat) (B : Ix → Int) (m : Int) (hB : ∀ i, i < N → 0 ≤ B [i] ∧ B [i] < 256) (hm : -9223372036854775808 ≤ m ∧ m < 9223372036854775808) :
    RunsTo Tryd.prog 5 [.code (bodyOf Tryd.f5)] (envOf [vL 100 1 N, vN m] Tryd.f5.ntmps) (Sx.look (allG t0 t1 t2 t3 t4 t5 t6 t7 t8 t9 t10 t11 t12 t13 t14 t15 ++ [⟨100, false, none, 1, .ta N (.vi .u8 B)⟩])) 110 YES (Sx.look []) 400 := by
  by_cases h1 : 50 < N
  · exact mbLong t0 t1 t2 t3 t4 t5 t6 t7 t8 t9 t10 t11 t12 t13 t14 t15 N B m hB hm h1
  by_cases h2 : N < 2
  · exact mbShort t0 t1 t2 t3 t4 t5 t6 t7 t8 t9 t10 t11 t12 t13 t14 t15 N B m hB hm h2
  by_cases h3 : 2 < N
  · exact mbMore t0 t1 t2 t3 t4 t5 t6 t7 t8 t9 t10 t11 t12 t13 t14 t15 N B m hB hm ⟨h3, by omega⟩
  have h4 : N = 2 := by omega
  by_cases h5 : B [0] = 1
  · cases ha : ackR (B [1]) with
    | false =>
      cases hr : rightR (maskR (B [1])) with
      | false => exact mbForm0 t0 t1 t2 t3 t4 t5 t6 t7 t8 t9 t10 t11 t12 t13 t14 t15 N B m hB hm h4 h5 ha hr
      | true => exact mbOk0 t0 t1 t2 t3 t4 t5 t6 t7 t8 t9 t10 t11 t12 t13 t14 t15 N B m hB hm h4 h5 ha hr
    | true =>
      cases hr : rightR (maskR (B [1])) with
      | false => exact mbForm1 t0 t1 t2 t3 t4 t5 t6 t7 t8 t9 t10 t11 t12 t13 t14 t15 N B m hB hm h4 h5 ha hr
      | true => exact mbOk1 t0 t1 t2 t3 t4 t5 t6 t7 t8 t9 t10 t11 t12 t13 t14 t15 N B m hB hm h4 h5 ha hr
  · exact mbKind t0 t1 t2 t3 t4 t5 t6 t7 t8 t9 t10 t11 t12 t13 t14 t15 N B m hB hm h4 h5

theorem bnd_i64 {n : Int} (h : (Lit.int .i64 n).wf = true) : -9223372036854775808 ≤ n ∧ n < 9223372036854775808 := by
  have := bounds_i64 h
  omega
end Go.Proofs.YtealbjkhjpmilaaDoor
