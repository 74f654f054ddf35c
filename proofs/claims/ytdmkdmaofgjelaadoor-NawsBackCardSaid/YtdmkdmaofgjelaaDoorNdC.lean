/- NawsBack: the plain facts, and the call. -/
import Derived.Test.YtdmkdmaofgjelaaDoorNcC
set_option linter.unusedSimpArgs false
set_option linter.unusedVariables false
set_option maxRecDepth 100000
namespace Go.Proofs.YtdmkdmaofgjelaaDoor
open Go.Sx

theorem wr64 {x : Int} (h : -9223372036854775808 ≤ x ∧ x < 9223372036854775808) : IntKind.i64.wrap x = x := by
  simp only [IntKind.wrap, IntKind.bits, IntKind.signed]
  simp
  omega

theorem wr8 {x : Int} : IntKind.u8.wrap x = x % 256 := by
  simp [IntKind.wrap, IntKind.bits, IntKind.signed]

theorem pk_eq {x y : Int} (hx : 0 ≤ x ∧ x < 256) (hy : 0 ≤ y ∧ y < 256) : pk x y = x * 256 + y := by
  obtain ⟨n, rfl⟩ := Int.eq_ofNat_of_zero_le hx.1
  obtain ⟨m, rfl⟩ := Int.eq_ofNat_of_zero_le hy.1
  have hn : n < 256 := by omega
  have hm : m < 256 := by omega
  have e1 : ishl .i64 (IntKind.i64.wrap (n : Int)) 8 = ((n * 256 : Nat) : Int) := by
    rw [wr64 (by omega)]
    have : min (8 : Int).toNat (IntKind.i64.bits) = 8 := by decide
    simp only [ishl, this]
    rw [wr64 (by omega)]
    omega
  unfold pk
  rw [e1, wr64 (x := (m : Int)) (by omega)]
  unfold ior
  have b1 : (BitVec.ofInt IntKind.i64.bits ((n * 256 : Nat) : Int) ||| BitVec.ofInt IntKind.i64.bits (m : Int)).toNat = n * 256 + m := by
    rw [BitVec.toNat_or, BitVec.ofInt_natCast, BitVec.ofInt_natCast, BitVec.toNat_ofNat, BitVec.toNat_ofNat]
    have h1 : (n * 256) % 2 ^ IntKind.i64.bits = n * 256 := Nat.mod_eq_of_lt (by simp [IntKind.bits]; omega)
    have h2 : m % 2 ^ IntKind.i64.bits = m := Nat.mod_eq_of_lt (by simp [IntKind.bits]; omega)
    rw [h1, h2]
    have := Nat.shiftLeft_add_eq_or_of_lt (a := n) (i := 8) (b := m) (by omega)
    rw [Nat.shiftLeft_eq] at this
    exact this.symm
  rw [b1, wr64 (by omega)]
  omega

theorem hiB_eq {x : Int} (h : 0 ≤ x ∧ x < 65536) : hiB x = x / 256 := by
  have : min (8 : Int).toNat (IntKind.i64.bits) = 8 := by decide
  simp only [hiB, wr8, ishr, this]
  rw [Int.fdiv_eq_ediv_of_nonneg _ (by decide)]
  omega

theorem loB_eq {x : Int} : loB x = x % 256 := wr8

theorem four0 (u0 u1 u2 u3 : Int) : four u0 u1 u2 u3 [0] = u0 := rfl
theorem four1 (u0 u1 u2 u3 : Int) : four u0 u1 u2 u3 [1] = u1 := rfl
theorem four2 (u0 u1 u2 u3 : Int) : four u0 u1 u2 u3 [2] = u2 := rfl
theorem four3 (u0 u1 u2 u3 : Int) : four u0 u1 u2 u3 [3] = u3 := rfl

theorem rightB_iff {n : Int} : rightB n = true ↔ 0 ≤ n ∧ n ≤ 65535 := by
  simp [rightB]

theorem right_pk {x y : Int} (hx : 0 ≤ x ∧ x < 256) (hy : 0 ≤ y ∧ y < 256) : rightB (pk x y) = true := by
  rw [pk_eq hx hy, rightB_iff]; omega

theorem otherB_no {e0 e1 e2 e3 : Int} (h0 : 0 ≤ e0 ∧ e0 < 256) (h1 : 0 ≤ e1 ∧ e1 < 256) (h2 : 0 ≤ e2 ∧ e2 < 256) (h3 : 0 ≤ e3 ∧ e3 < 256) : otherB e0 e1 e2 e3 = false := by
  have a0 : hiB (pk e0 e1) = e0 := by rw [pk_eq h0 h1, hiB_eq (by omega)]; omega
  have a1 : loB (pk e0 e1) = e1 := by rw [pk_eq h0 h1, loB_eq]; omega
  have a2 : hiB (pk e2 e3) = e2 := by rw [pk_eq h2 h3, hiB_eq (by omega)]; omega
  have a3 : loB (pk e2 e3) = e3 := by rw [pk_eq h2 h3, loB_eq]; omega
  unfold otherB
  rw [a0, a1, a2, a3]
  have : bytesOf (four e0 e1 e2 e3) [] 0 4 = bytesOf (row4 e0 e1 e2 e3) [] 0 4 := rfl
  rw [this]
  simp

theorem fitL_comm (a b : Int) : fitL a b = fitL b a := by
  simp only [fitL, beq_iff_eq]
  repeat' split
  all_goals omega

theorem fits_yes (a b c d : Int) : fits a b c d = true := by
  simp [fits, fitL_comm a c, fitL_comm b d]

theorem fit_self {a : Int} (h : 0 ≤ a) : fitL a a = a := by
  simp only [fitL, beq_iff_eq]
  repeat' split
  all_goals omega

theorem fit_zero {a : Int} (h : 0 ≤ a) : fitL a 0 = a := by
  simp only [fitL, beq_iff_eq]
  repeat' split
  all_goals omega

theorem back_yes {a b : Int} (ha : 0 ≤ a ∧ a ≤ 65535) (hb : 0 ≤ b ∧ b ≤ 65535) : back a b = true := by
  unfold back
  rw [four0, four1, four2, four3, hiB_eq (by omega), loB_eq, hiB_eq (by omega), loB_eq, pk_eq (by omega) (by omega), pk_eq (by omega) (by omega)]
  simp only [Bool.and_eq_true, beq_iff_eq, and_true]
  omega

theorem argVals (a b c d e0 e1 e2 e3 : Int) : ∀ (t : Nat) (s : SV), [pr a b, pr c d, ar e0 e1 e2 e3][t]? = some s → s.isJ = false →
    #[Value.agg #[.int .i64 a, .int .i64 b], .agg #[.int .i64 c, .int .i64 d], .agg #[.int .u8 e0, .int .u8 e1, .int .u8 e2, .int .u8 e3]][t]? = some (s.val conG) := by
  intro t s ht hj
  match t, ht with
  | 0, ht => cases ht; rfl
  | 1, ht => cases ht; rfl
  | 2, ht => cases ht; rfl
  | t + 3, ht => cases ht

theorem below3 (a b c d e0 e1 e2 e3 : Int) : argsBelow 200 [pr a b, pr c d, ar e0 e1 e2 e3] = true := by kernel_rfl
theorem body3 : Tryd.f3.body.isSome = true := by kernel_rfl
theorem glob3 : Tryd.prog.globals.size ≤ 200 := of_decide_eq_true (by kernel_rfl)

theorem walk (a b c d e0 e1 e2 e3 : Int) (h0 : 0 ≤ e0 ∧ e0 < 256) (h1 : 0 ≤ e1 ∧ e1 < 256) (h2 : 0 ≤ e2 ∧ e2 < 256) (h3 : 0 ≤ e3 ∧ e3 < 256) (w : World) :
    Calls Tryd.prog 3 #[.agg #[.int .i64 a, .int .i64 b], .agg #[.int .i64 c, .int .i64 d], .agg #[.int .u8 e0, .int .u8 e1, .int .u8 e2, .int .u8 e3]] w fun e w' => e = .returned (.bool true) ∧ RowKit.Below w.heap.size w w' := by
  have go : ∀ {o : List Hint}, EvVal Tryd.prog sums 400 3 Tryd.f3 [pr a b, pr c d, ar e0 e1 e2 e3] [] o 200 (.bool true) → Calls Tryd.prog 3 #[.agg #[.int .i64 a, .int .i64 b], .agg #[.int .i64 c, .int .i64 d], .agg #[.int .u8 e0, .int .u8 e1, .int .u8 e2, .int .u8 e3]] w fun e w' => e = .returned (.bool true) ∧ RowKit.Below w.heap.size w w' := fun h =>
    calls_val base Tryd.func3 body3 h (below3 a b c d e0 e1 e2 e3) rfl rfl glob3 rfl (argVals a b c d e0 e1 e2 e3) (hold0 conG _) (globG _)
  have r0 := right_pk h0 h1
  have r1 : (!rightB (pk e2 e3)) = false := by rw [right_pk h2 h3]; rfl
  have r2 := otherB_no h0 h1 h2 h3
  have r3 : (!fits a b c d) = false := by rw [fits_yes]; rfl
  by_cases ra : rightB a = true
  · by_cases rb : rightB b = true
    · have rb' : (!rightB b) = false := by rw [rb]; rfl
      have ia := rightB_iff.1 ra
      have ib := rightB_iff.1 rb
      have s1 : selfs a b = true := by simp [selfs, fit_self ia.1, fit_self ib.1]
      have s2 : zeros a b = true := by simp [zeros, fit_zero ia.1, fit_zero ib.1]
      exact go (EvVal.of (way1 a b c d e0 e1 e2 e3) ⟨okc r0 (okc r1 (okc r2 (okc r3 (okc ra (okc rb' (okc ra (okc rb' (okc (back_yes ia ib) (okc s1 okn))))))))), rfl, fun _ => by rw [s2]⟩)
    · have rb' : (!rightB b) = true := by simpa using rb
      exact go (EvVal.of (way2 a b c d e0 e1 e2 e3) ⟨okc r0 (okc r1 (okc r2 (okc r3 (okc ra (okc rb' okn))))), rfl, fun _ => by rw [fits_yes]⟩)
  · have ra' : rightB a = false := by simpa using ra
    exact go (EvVal.of (way3 a b c d e0 e1 e2 e3) ⟨okc r0 (okc r1 (okc r2 (okc r3 (okc ra' okn)))), rfl, fun _ => by rw [fits_yes]⟩)

end Go.Proofs.YtdmkdmaofgjelaaDoor
