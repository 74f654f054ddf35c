/- Tables: what an act does: plain laws. -/
import Derived.Test.YtgbgfekfcjphnaaDoorTcC
set_option linter.unusedSimpArgs false
set_option linter.unusedVariables false
namespace Go.Proofs.YtgbgfekfcjphnaaDoor
open Go.Sx

theorem sameG {α : Type} (a : α) : (a = a) = True := eq_self a
def tactE (l N : Nat) (KD CD OP : Ix → Int) : List Ent := [⟨l, false, none, 3, .ta N (.tc (.vi .i64 KD) (.tc (.vi .i64 CD) (.tc (.vi .i64 OP) .t0)))⟩]
def aG (t0 t1 t2 t3 : List UInt8) : List Ent := sentEnts 16 131 [(3, t3), (0, t0), (2, t2), (1, t1)]
def XA (t0 t1 t2 t3 : List UInt8) (N M L : Nat) (U V KD CD OP : Ix → Int) : List Ent := aG t0 t1 t2 t3 ++ (polE 100 N M U V ++ tactE 102 L KD CD OP)
def apE (op : Int) (L i : Nat) : List (Nat × SV) := [(2, vN op), (7, vP 120), (8, vP 121), (41, vL 102 3 L), (42, vN L), (43, vN i)]
def two (K : Ix → Int) (O : Ix → Bool) (h a s : Int) (K2 : Ix → Int) (O2 : Ix → Bool) (h2 a2 s2 : Int) (A : Ix → Bool) : List Ent := tabE 120 K O A h a s ++ tabE 121 K2 O2 A h2 a2 s2
theorem uH_le (kd cd op : Int) : 0 ≤ uH kd cd op ∧ uH kd cd op ≤ 1 := by unfold uH cndI; (repeat' split) <;> omega
theorem uA_le (K : Ix → Int) (O A : Ix → Bool) (kd cd op : Int) : 0 ≤ uA K O A kd cd op ∧ uA K O A kd cd op ≤ 1 := by
  simp only [uA, cndI, nA, askA]; (repeat' split) <;> omega
theorem uS_le (K : Ix → Int) (O A : Ix → Bool) (kd cd op : Int) : 0 ≤ uS K O A kd cd op ∧ uS K O A kd cd op ≤ uH kd cd op + uA K O A kd cd op := by
  simp only [uS, uA, uH, cndI, nA, nS, askA, askS]
  by_cases h : actB kd cd op = true
  · simp only [h, if_true]
    by_cases hk : kd = 0
    · simp only [hk, if_true]; split <;> omega
    · simp only [hk, if_false]; (repeat' split) <;> omega
  · simp [h]
theorem uK_same {K K2 : Ix → Int} {O O2 A : Ix → Bool} {kd cd op : Int} (h : ∀ p, K [p, op.toNat] = K2 [p, op.toNat] ∧ O [p, op.toNat] = O2 [p, op.toNat]) (p : Nat) : uK K O A kd cd op [p, op.toNat] = uK K2 O2 A kd cd op [p, op.toNat] ∧ uO K O A kd cd op [p, op.toNat] = uO K2 O2 A kd cd op [p, op.toNat] := by
  have h1 := h (plS kd cd)
  have h2 := h p
  simp only [uK, uO, cndF, upd, h1.1, h1.2, h2.1, h2.2, and_self]
theorem uK_other {K : Ix → Int} {O A : Ix → Bool} {kd cd o op : Int} (h : o ≠ op) (ho : inO op = true) (p : Nat) : uK K O A kd cd o [p, op.toNat] = K [p, op.toNat] ∧ uO K O A kd cd o [p, op.toNat] = O [p, op.toNat] := by
  simp only [uK, uO, cndF, upd]
  by_cases hb : actB kd cd o = true
  · have hi : inO o = true := by simp only [actB, Bool.and_eq_true] at hb; exact hb.1
    simp only [inO, Bool.and_eq_true, decide_eq_true_eq] at ho hi
    have hne : ¬ ([p, op.toNat] : Ix) = [plS kd cd, o.toNat] := by intro hh; simp only [List.cons.injEq, and_true] at hh; omega
    simp only [if_neg hne, ite_self]
    exact ⟨trivial, trivial⟩
  · simp only [hb]
    exact ⟨rfl, rfl⟩
theorem oneC_ok {K : Ix → Int} {O : Ix → Bool} {h a s kd cd op : Int} (hc : cntC h a s = true) (hr : ∀ p n, rtB (K [p, n]) (O [p, n]) = true) : oneC K O h a s kd cd op = true := by
  simp only [oneC, hc, hr, Bool.and_self]
theorem uK_right {K : Ix → Int} {O A : Ix → Bool} {kd cd op : Int} (hr : ∀ p n, rtB (K [p, n]) (O [p, n]) = true) (p n : Nat) : rtB (uK K O A kd cd op [p, n]) (uO K O A kd cd op [p, n]) = true := by
  have h1 := hr p n
  have h2 := hr (plS kd cd) op.toNat
  simp only [uK, uO, cndF, upd]
  by_cases hb : actB kd cd op = true
  · simp only [hb, if_true]
    by_cases hi : ([p, n] : Ix) = [plS kd cd, op.toNat]
    · simp only [if_pos hi]
      grind [nK, nO, hearK, askK, askO, askE, rtB]
    · simp only [if_neg hi]; exact h1
  · simp only [hb]; exact h1

end Go.Proofs.YtgbgfekfcjphnaaDoor
