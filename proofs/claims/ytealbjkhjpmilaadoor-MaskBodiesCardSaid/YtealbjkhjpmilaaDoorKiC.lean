/- Masks: bodies, the law put together. -/
import Derived.Test.YtealbjkhjpmilaaDoorKhC
set_option linter.unusedSimpArgs false
set_option linter.unusedVariables false
set_option maxRecDepth 100000
namespace Go.Proofs.YtealbjkhjpmilaaDoor
open Go.Sx

theorem mb_law (t0 t1 t2 t3 t4 t5 t6 t7 t8 t9 t10 t11 t12 t13 t14 t15 : List UInt8) (N : Nat) (B F : Ix → Int) (v : Int) (hB : ∀ i, i < N → 0 ≤ B [i] ∧ B [i] < 256) (hF : ∀ i, i < 32 → 0 ≤ F [i] ∧ F [i] < 256) (hv : -9223372036854775808 ≤ v ∧ v < 9223372036854775808) : RunsTo Tryd.prog 8 [.code (bodyOf Tryd.f8)] (envOf [vL 100 1 N, vN v, .agg (arrT F)] Tryd.f8.ntmps) (Sx.look (allG t0 t1 t2 t3 t4 t5 t6 t7 t8 t9 t10 t11 t12 t13 t14 t15 ++ bE 100 N B ++ ([]))) 110 (YES) (Sx.look []) 900 := by
  by_cases hN : 100 < N
  · exact mbLong t0 t1 t2 t3 t4 t5 t6 t7 t8 t9 t10 t11 t12 t13 t14 t15 N B F v hN
  by_cases c1 : N < 2
  · by_cases hv1 : v < 251
    · exact mbSA t0 t1 t2 t3 t4 t5 t6 t7 t8 t9 t10 t11 t12 t13 t14 t15 N B F v hB hF hv c1 hv1
    by_cases hv2 : 254 < v
    · exact mbSB t0 t1 t2 t3 t4 t5 t6 t7 t8 t9 t10 t11 t12 t13 t14 t15 N B F v hB hF hv c1 hv2
    by_cases hv3 : v = 253
    · exact mbSC t0 t1 t2 t3 t4 t5 t6 t7 t8 t9 t10 t11 t12 t13 t14 t15 N B F v hB hF hv c1 hv3
    exact mbSD t0 t1 t2 t3 t4 t5 t6 t7 t8 t9 t10 t11 t12 t13 t14 t15 N B F v hB hF hv c1 ⟨by omega, by omega, hv3⟩
  by_cases c2 : B [0] < 251
  · by_cases hv1 : v < 251
    · exact mbK0A t0 t1 t2 t3 t4 t5 t6 t7 t8 t9 t10 t11 t12 t13 t14 t15 N B F v hB hF hv ⟨by omega, by omega⟩ c2 hv1
    by_cases hv2 : 254 < v
    · exact mbK0B t0 t1 t2 t3 t4 t5 t6 t7 t8 t9 t10 t11 t12 t13 t14 t15 N B F v hB hF hv ⟨by omega, by omega⟩ c2 hv2
    by_cases hv3 : v = 253
    · exact mbK0C t0 t1 t2 t3 t4 t5 t6 t7 t8 t9 t10 t11 t12 t13 t14 t15 N B F v hB hF hv ⟨by omega, by omega⟩ c2 hv3
    exact mbK0D t0 t1 t2 t3 t4 t5 t6 t7 t8 t9 t10 t11 t12 t13 t14 t15 N B F v hB hF hv ⟨by omega, by omega⟩ c2 ⟨by omega, by omega, hv3⟩
  by_cases c3 : 254 < B [0]
  · by_cases hv1 : v < 251
    · exact mbK1A t0 t1 t2 t3 t4 t5 t6 t7 t8 t9 t10 t11 t12 t13 t14 t15 N B F v hB hF hv ⟨by omega, by omega⟩ c3 hv1
    by_cases hv2 : 254 < v
    · exact mbK1B t0 t1 t2 t3 t4 t5 t6 t7 t8 t9 t10 t11 t12 t13 t14 t15 N B F v hB hF hv ⟨by omega, by omega⟩ c3 hv2
    by_cases hv3 : v = 253
    · exact mbK1C t0 t1 t2 t3 t4 t5 t6 t7 t8 t9 t10 t11 t12 t13 t14 t15 N B F v hB hF hv ⟨by omega, by omega⟩ c3 hv3
    exact mbK1D t0 t1 t2 t3 t4 t5 t6 t7 t8 t9 t10 t11 t12 t13 t14 t15 N B F v hB hF hv ⟨by omega, by omega⟩ c3 ⟨by omega, by omega, hv3⟩
  by_cases c4 : B [1] ≠ 2
  · by_cases hv1 : v < 251
    · exact mbK2A t0 t1 t2 t3 t4 t5 t6 t7 t8 t9 t10 t11 t12 t13 t14 t15 N B F v hB hF hv ⟨by omega, by omega⟩ ⟨by omega, by omega⟩ c4 hv1
    by_cases hv2 : 254 < v
    · exact mbK2B t0 t1 t2 t3 t4 t5 t6 t7 t8 t9 t10 t11 t12 t13 t14 t15 N B F v hB hF hv ⟨by omega, by omega⟩ ⟨by omega, by omega⟩ c4 hv2
    by_cases hv3 : v = 253
    · exact mbK2C t0 t1 t2 t3 t4 t5 t6 t7 t8 t9 t10 t11 t12 t13 t14 t15 N B F v hB hF hv ⟨by omega, by omega⟩ ⟨by omega, by omega⟩ c4 hv3
    exact mbK2D t0 t1 t2 t3 t4 t5 t6 t7 t8 t9 t10 t11 t12 t13 t14 t15 N B F v hB hF hv ⟨by omega, by omega⟩ ⟨by omega, by omega⟩ c4 ⟨by omega, by omega, hv3⟩
  by_cases c5 : 34 < N
  · by_cases hv1 : v < 251
    · exact mbL0A t0 t1 t2 t3 t4 t5 t6 t7 t8 t9 t10 t11 t12 t13 t14 t15 N B F v hB hF hv ⟨by omega, by omega⟩ ⟨by omega, by omega⟩ (by omega) hv1
    by_cases hv2 : 254 < v
    · exact mbL0B t0 t1 t2 t3 t4 t5 t6 t7 t8 t9 t10 t11 t12 t13 t14 t15 N B F v hB hF hv ⟨by omega, by omega⟩ ⟨by omega, by omega⟩ (by omega) hv2
    by_cases hv3 : v = 253
    · exact mbL0C t0 t1 t2 t3 t4 t5 t6 t7 t8 t9 t10 t11 t12 t13 t14 t15 N B F v hB hF hv ⟨by omega, by omega⟩ ⟨by omega, by omega⟩ (by omega) hv3
    exact mbL0D t0 t1 t2 t3 t4 t5 t6 t7 t8 t9 t10 t11 t12 t13 t14 t15 N B F v hB hF hv ⟨by omega, by omega⟩ ⟨by omega, by omega⟩ (by omega) ⟨by omega, by omega, hv3⟩
  by_cases c6 : 2 < N ∧ B [0] ≠ 253
  · by_cases hv1 : v < 251
    · exact mbL1A t0 t1 t2 t3 t4 t5 t6 t7 t8 t9 t10 t11 t12 t13 t14 t15 N B F v hB hF hv ⟨by omega, by omega⟩ ⟨by omega, by omega, c6.2⟩ (by omega) hv1
    by_cases hv2 : 254 < v
    · exact mbL1B t0 t1 t2 t3 t4 t5 t6 t7 t8 t9 t10 t11 t12 t13 t14 t15 N B F v hB hF hv ⟨by omega, by omega⟩ ⟨by omega, by omega, c6.2⟩ (by omega) hv2
    by_cases hv3 : v = 253
    · exact mbL1C t0 t1 t2 t3 t4 t5 t6 t7 t8 t9 t10 t11 t12 t13 t14 t15 N B F v hB hF hv ⟨by omega, by omega⟩ ⟨by omega, by omega, c6.2⟩ (by omega) hv3
    exact mbL1D t0 t1 t2 t3 t4 t5 t6 t7 t8 t9 t10 t11 t12 t13 t14 t15 N B F v hB hF hv ⟨by omega, by omega⟩ ⟨by omega, by omega, c6.2⟩ (by omega) ⟨by omega, by omega, hv3⟩
  by_cases hv1 : v < 251
  · exact mbOkA t0 t1 t2 t3 t4 t5 t6 t7 t8 t9 t10 t11 t12 t13 t14 t15 N B F v hB hF hv ⟨by omega, by omega⟩ ⟨by omega, by omega⟩ (by omega) (by omega) hv1
  by_cases hv2 : 254 < v
  · exact mbOkB t0 t1 t2 t3 t4 t5 t6 t7 t8 t9 t10 t11 t12 t13 t14 t15 N B F v hB hF hv ⟨by omega, by omega⟩ ⟨by omega, by omega⟩ (by omega) (by omega) hv2
  by_cases hv3 : v = 253
  · exact mbOkC t0 t1 t2 t3 t4 t5 t6 t7 t8 t9 t10 t11 t12 t13 t14 t15 N B F v hB hF hv ⟨by omega, by omega⟩ ⟨by omega, by omega⟩ (by omega) (by omega) hv3
  exact mbOkD t0 t1 t2 t3 t4 t5 t6 t7 t8 t9 t10 t11 t12 t13 t14 t15 N B F v hB hF hv ⟨by omega, by omega⟩ ⟨by omega, by omega⟩ (by omega) (by omega) ⟨by omega, by omega, hv3⟩
end Go.Proofs.YtealbjkhjpmilaaDoor
