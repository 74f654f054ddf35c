/- Modes: what is known of the masks' bits. -/
import Derived.Test.YtealbjkhjpmilaaDoorYaC
set_option linter.unusedSimpArgs false
set_option linter.unusedVariables false
set_option maxRecDepth 100000
namespace Go.Proofs.YtealbjkhjpmilaaDoor
open Go.Sx

def rightR (n : Int) : Bool := decide (n ≥ 0) && decide (n < 32) && q2 n 4 == 0

theorem all_nat {p : Nat → Bool} {N : Nat} (h : (List.range N).all p = true) {n : Nat} (hn : n < N) : p n = true := List.all_eq_true.1 h n (by simpa using hn)

theorem wrap_zero {n : Nat} (h : n < 2 ^ 64) (h0 : IntKind.i64.wrap n = 0) : n = 0 := by
  simp only [IntKind.wrap, IntKind.bits, IntKind.signed] at h0
  simp at h0
  omega

theorem iandn_le {m : Int} (h1 : 0 ≤ m) (h2 : m < 9223372036854775808) (h : iandn .i64 m 27 = 0) : m ≤ 27 := by
  unfold iandn at h
  have hz := wrap_zero (by exact (BitVec.isLt _)) h
  have hb : BitVec.ofInt 64 m &&& ~~~ BitVec.ofInt 64 27 = 0#64 := by
    apply BitVec.eq_of_toNat_eq
    exact hz
  have hc : BitVec.ofInt 64 m &&& BitVec.ofInt 64 27 = BitVec.ofInt 64 m := by
    apply BitVec.eq_of_getLsbD_eq
    intro i hi
    have := congrArg (fun v => v.getLsbD i) hb
    simp only [BitVec.getLsbD_and, BitVec.getLsbD_not, BitVec.getLsbD_zero, hi, decide_true, Bool.true_and] at this ⊢
    cases hx : (BitVec.ofInt 64 m).getLsbD i <;> cases hy : (BitVec.ofInt 64 27).getLsbD i <;> simp_all
  have hn := congrArg BitVec.toNat hc
  rw [BitVec.toNat_and] at hn
  have hle : (BitVec.ofInt 64 m).toNat ≤ (BitVec.ofInt 64 27).toNat := by rw [← hn]; exact Nat.and_le_right
  rw [BitVec.toNat_ofInt] at hle
  have e27 : (BitVec.ofInt 64 27).toNat = 27 := by decide
  rw [e27] at hle
  have : m % 18446744073709551616 = m := Int.emod_eq_of_lt h1 (by omega)
  have e2 : ((2 ^ 64 : Nat) : Int) = 18446744073709551616 := by decide
  rw [e2, this] at hle
  omega

theorem small_right : ((List.range 64).all fun n => rightC n == rightR n) = true := by kernel_rfl
theorem small_words : ((List.range 32).all fun n => !rightC n || wordsC n == wordsR n) = true := by kernel_rfl

theorem right_eq {m : Int} (h1 : -9223372036854775808 ≤ m) (h2 : m < 9223372036854775808) : rightC m = rightR m := by
  by_cases h0 : 0 ≤ m
  · by_cases hs : m < 32
    · obtain ⟨n, rfl⟩ : ∃ n : Nat, m = n := ⟨m.toNat, by omega⟩
      have := all_nat small_right (n := n) (by omega)
      simpa using this
    · have e1 : rightC m = false := by
        cases hc : rightC m with
        | false => rfl
        | true =>
          simp only [rightC, Bool.and_eq_true, decide_eq_true_eq, beq_iff_eq] at hc
          have := iandn_le h0 h2 hc.2
          omega
      rw [e1]
      simp [rightR, hs]
  · simp [rightC, rightR, h0]

theorem words_eq {m : Int} (h2 : m < 9223372036854775808) (h : rightC m = true) : wordsC m = wordsR m := by
  have hc := h
  simp only [rightC, Bool.and_eq_true, decide_eq_true_eq, beq_iff_eq] at hc
  have := iandn_le hc.1 h2 hc.2
  obtain ⟨n, rfl⟩ : ∃ n : Nat, m = n := ⟨m.toNat, by omega⟩
  have := all_nat small_words (n := n) (by omega)
  simpa [h] using this

/-- What a body's second byte says. -/
def ackR (x : Int) : Bool := q2 x 4 == 1
def maskR (x : Int) : Int := if ackR x = true then x - 4 else x
theorem small_byte : ((List.range 256).all fun n => iandn .i64 n 4 == maskR n && (rightC (iandn .i64 n 4) == rightR (maskR n)) && ((!(iand .u8 n 4 == 0)) == ackR n)) = true := by kernel_rfl
theorem byte_eq {x : Int} (h1 : 0 ≤ x) (h2 : x < 256) : iandn .i64 x 4 = maskR x ∧ rightC (maskR x) = rightR (maskR x) ∧ ((!(iand .u8 x 4 == 0)) = ackR x) := by
  obtain ⟨n, rfl⟩ : ∃ n : Nat, x = n := ⟨x.toNat, by omega⟩
  have := all_nat small_byte (n := n) (by omega)
  simp only [Bool.and_eq_true, beq_iff_eq] at this
  obtain ⟨⟨a, b⟩, c⟩ := this
  rw [a] at b
  exact ⟨a, b, c⟩

end Go.Proofs.YtealbjkhjpmilaaDoor
