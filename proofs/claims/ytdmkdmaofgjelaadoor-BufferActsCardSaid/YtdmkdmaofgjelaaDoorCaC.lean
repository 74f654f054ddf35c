/- Buffer: what the parts of the act-by-act law do. -/
import Derived.Test.YtdmkdmaofgjelaaDoorBaC
import Derived.Test.YtdmkdmaofgjelaaDoorSxPb
import Derived.Test.YtdmkdmaofgjelaaDoorEnC
set_option linter.unusedSimpArgs false
set_option linter.unusedVariables false
set_option maxRecDepth 100000
namespace Go.Proofs.YtdmkdmaofgjelaaDoor
open Go.Sx

theorem gtop32 : gtop Tryd.prog = 32 := of_decide_eq_true (by kernel_rfl)
theorem gtL {n : Nat} (h : 32 ≤ n) : gtop Tryd.prog ≤ n := Nat.le_trans (Nat.le_of_eq gtop32) h
theorem baseO : Base0 Tryd.prog [] := Base0.nil goodP
abbrev vN (a : Int) : SV := .v (.vi .i64 fun _ => a)
def refE (p : Nat) (all : List UInt8) (m base lost : Int) : List Ent := [⟨p, true, none, 4, .tc (.vs fun _ => all) (.tc (.vi .i64 fun _ => m) (.tc (.vi .i64 fun _ => base) (.tc (.vi .i64 fun _ => lost) .t0)))⟩]
def bufI (p l : Nat) (m base lost : Int) (n : Nat) (B : Ix → Int) : List Ent := [⟨p, true, none, 4, .tc (.vi .i64 fun _ => m) (.tc (.vi .i64 fun _ => base) (.tc (.vi .i64 fun _ => lost) (.tc (.vl l (fun _ => 0) 1 [] (fun _ => n)) .t0)))⟩, ⟨l, true, none, 1, .ta n (.vi .u8 B)⟩]
def trE (n : Int) : List (Nat × SV) := [(0, .v (.vp 60 (fun _ => 0) [])), (3, vN n)]

theorem trim0_p0 (all : List UInt8) (m base lost : Int) :
    isMore (evTill Tryd.prog [] 100 (behind Tryd.f61 0) 300 61 [.code (bodyOf Tryd.f61)] (envOf [.v (.vp 60 (fun _ => 0) [])] Tryd.f61.ntmps) (refE 60 all m base lost) ⟨[], 80⟩) (moreP (headOf Tryd.f61 0) ([]) Tryd.f61.ntmps (trE 0) (refE 60 all m base lost) 120) =
    (OkL [] ∧ headOf Tryd.f61 (0 : Nat) = headOf Tryd.f61 (0 : Nat) ∧ ((0 : Nat) = (0 : Nat) ∧ (0 : Int) = (0 : Int)) ∧ all = all ∧ m = m ∧ base = base ∧ lost = lost) := by kernel_rfl

set_option maxHeartbeats 4000000 in
theorem trim0 (all : List UInt8) (m base lost : Int) (v : SV) (L : HF) (next : RunsTo Tryd.prog 61 (headOf Tryd.f61 0) (envAt Tryd.f61.ntmps (trE 0)) (Sx.look ([] ++ refE 60 all m base lost)) 80 v L 120) :
    RunsTo Tryd.prog 61 [.code (bodyOf Tryd.f61)] (envOf [.v (.vp 60 (fun _ => 0) [])] Tryd.f61.ntmps) (Sx.look ([] ++ refE 60 all m base lost)) 80 v L 120 := by
  exact runs_more baseO (More.of (trim0_p0 all m base lost) ⟨okn, rfl, by simp⟩) (by kernel_rfl) (by kernel_rfl) rfl (gtL (by decide)) (by decide) next

theorem trimS_p0 (all : List UInt8) (m base lost n : Int) :
    isMore (evTill Tryd.prog [] 100 (behind Tryd.f61 0) 300 61 (headOf Tryd.f61 0) (envAt Tryd.f61.ntmps (trE n)) (refE 60 all m base lost) ⟨[.s true], 80⟩) (moreP (headOf Tryd.f61 0) ([]) Tryd.f61.ntmps (trE (n + 1)) (refE 60 all m (base + 1) lost) 120) =
    (OkL [(decide (IntKind.i64.wrap ((↑all.length : Int) - base) > m), true)] ∧ headOf Tryd.f61 (0 : Nat) = headOf Tryd.f61 (0 : Nat) ∧ ((0 : Nat) = (0 : Nat) ∧ n + (1 : Int) = IntKind.i64.wrap (n + (1 : Int))) ∧ all = all ∧ m = m ∧ base + (1 : Int) = IntKind.i64.wrap (base + (1 : Int)) ∧ lost = lost) := by kernel_rfl

set_option maxHeartbeats 4000000 in
theorem trimS (all : List UInt8) (m base lost n : Int) (h0 : 0 ≤ base) (h1 : base ≤ all.length) (h2 : (all.length : Int) ≤ 1000000) (h3 : 0 ≤ m ∧ m ≤ 1000) (h4 : 0 ≤ lost ∧ lost ≤ 1000000) (hn : 0 ≤ n ∧ n ≤ base) (hd : (all.length : Int) - base > m) (v : SV) (L : HF) (next : RunsTo Tryd.prog 61 (headOf Tryd.f61 0) (envAt Tryd.f61.ntmps (trE (n + 1))) (Sx.look ([] ++ refE 60 all m (base + 1) lost)) 80 v L 120) :
    RunsTo Tryd.prog 61 (headOf Tryd.f61 0) (envAt Tryd.f61.ntmps (trE n)) (Sx.look ([] ++ refE 60 all m base lost)) 80 v L 120 := by
  have gg0 : (decide (IntKind.i64.wrap ((↑all.length : Int) - base) > m)) = true := by clear next; first | (simp (disch := omega) only [dT, dF, nltT, nltF, nleT, nleF, neqT, neqF, ieqT, ieqF, ineT, ineF, notT, notF, andT, andF, orT, orF, wr64s] at *; omega) | (simp (disch := omega) only [dT, dF, nltT, nltF, nleT, nleF, neqT, neqF, ieqT, ieqF, ineT, ineF, notT, notF, andT, andF, orT, orF, wr64s] at *; done)
  refine runs_more baseO (More.of (trimS_p0 all m base lost n) ⟨(okc gg0 okn), rfl, ?_⟩) (by kernel_rfl) (by kernel_rfl) rfl (gtL (by decide)) (by decide) next
  clear next
  simp (disch := omega) only [wr64s]
  simp

theorem trimE_p0 (all : List UInt8) (m base lost n : Int) :
    isEnd (evTill Tryd.prog [] 100 (behind Tryd.f61 0) 300 61 (headOf Tryd.f61 0) (envAt Tryd.f61.ntmps (trE n)) (refE 60 all m base lost) ⟨[.s false], 80⟩) (endP ([]) (vN n) (refE 60 all m base (lost + n)) 120) =
    (OkL [(decide (IntKind.i64.wrap ((↑all.length : Int) - base) > m), false)] ∧ n = n ∧ all = all ∧ m = m ∧ base = base ∧ lost + n = IntKind.i64.wrap (lost + n)) := by kernel_rfl

set_option maxHeartbeats 4000000 in
theorem trimE (all : List UInt8) (m base lost n : Int) (h0 : 0 ≤ base) (h1 : base ≤ all.length) (h2 : (all.length : Int) ≤ 1000000) (h3 : 0 ≤ m ∧ m ≤ 1000) (h4 : 0 ≤ lost ∧ lost ≤ 1000000) (hn : 0 ≤ n ∧ n ≤ base) (hd : ¬ (all.length : Int) - base > m) :
    RunsTo Tryd.prog 61 (headOf Tryd.f61 0) (envAt Tryd.f61.ntmps (trE n)) (Sx.look ([] ++ refE 60 all m base lost)) 80 (vN n) (Sx.look (refE 60 all m base (lost + n))) 120 := by
  have gg0 : (decide (IntKind.i64.wrap ((↑all.length : Int) - base) > m)) = false := by first | (simp (disch := omega) only [dT, dF, nltT, nltF, nleT, nleF, neqT, neqF, ieqT, ieqF, ineT, ineF, notT, notF, andT, andF, orT, orF, wr64s] at *; omega) | (simp (disch := omega) only [dT, dF, nltT, nltF, nleT, nleF, neqT, neqF, ieqT, ieqF, ineT, ineF, notT, notF, andT, andF, orT, orF, wr64s] at *; done)
  refine runs_last baseO (Sx.Ends.of (trimE_p0 all m base lost n) ⟨(okc gg0 okn), ?_⟩) (by kernel_rfl) rfl (gtL (by decide)) (by decide)
  simp (disch := omega) only [wr64s]
  simp

def trimD (len base m : Int) : Int := if len - base > m then len - base - m else 0

theorem trimL (all : List UInt8) (m lost : Int) (h2 : (all.length : Int) ≤ 1000000) (h3 : 0 ≤ m ∧ m ≤ 1000) (h4 : 0 ≤ lost ∧ lost ≤ 1000000) : ∀ (k : Nat) (base n : Int), trimD all.length base m = k → 0 ≤ base → base ≤ all.length → 0 ≤ n → n ≤ base →
    RunsTo Tryd.prog 61 (headOf Tryd.f61 0) (envAt Tryd.f61.ntmps (trE n)) (Sx.look ([] ++ refE 60 all m base lost)) 80 (vN (n + trimD all.length base m)) (Sx.look (refE 60 all m (base + trimD all.length base m) (lost + (n + trimD all.length base m)))) 120 := by
  intro k
  induction k with
  | zero =>
    intro base n hk h0 h1 hn hb
    have hd : ¬ (all.length : Int) - base > m := fun h => by unfold trimD at hk; rw [if_pos h] at hk; omega
    rw [hk]
    simp only [Int.natCast_zero, Int.add_zero]
    exact trimE all m base lost n h0 h1 h2 h3 h4 ⟨hn, hb⟩ hd
  | succ k ih =>
    intro base n hk h0 h1 hn hb
    have hd : (all.length : Int) - base > m := by
      by_cases h : (all.length : Int) - base > m
      · exact h
      · unfold trimD at hk; rw [if_neg h] at hk; omega
    have hk2 : trimD all.length (base + 1) m = k := by
      unfold trimD at hk ⊢
      rw [if_pos hd] at hk
      split <;> omega
    have := ih (base + 1) (n + 1) hk2 (by omega) (by omega) (by omega) (by omega)
    rw [hk2, show (n + 1 + (k : Int)) = n + ((k + 1 : Nat) : Int) by push_cast; omega, show (base + 1 + (k : Int)) = base + ((k + 1 : Nat) : Int) by push_cast; omega, ← hk] at this
    exact trimS all m base lost n h0 h1 h2 h3 h4 ⟨hn, hb⟩ hd _ _ this

def trimC (all : List UInt8) (m base lost : Int) : Bool := decide (0 ≤ base) && decide (base ≤ all.length) && decide ((all.length : Int) ≤ 1000000) && decide (0 ≤ m) && decide (m ≤ 1000) && decide (0 ≤ lost) && decide (lost ≤ 1000000)

def trimPC : PC :=
  { args := [.v (.vp 60)], heap := [⟨60, true, 4, .tc (.vs 0) (.tc (.vi .i64 1) (.tc (.vi .i64 2) (.tc (.vi .i64 3) .t0)))⟩], gs := [], G := 16, tp := 140, n := 80, n' := 120,
    cond := fun e => trimC (eS e 0 []) (eI e 1 []) (eI e 2 []) (eI e 3 []), v := fun e => vN (trimD (eS e 0 []).length (eI e 2 []) (eI e 1 [])),
    post := fun e => refE 60 (eS e 0 []) (eI e 1 []) (eI e 2 [] + trimD (eS e 0 []).length (eI e 2 []) (eI e 1 [])) (eI e 3 [] + trimD (eS e 0 []).length (eI e 2 []) (eI e 1 [])) }

theorem trim_pc : PC.Runs Tryd.prog 61 Tryd.f61 (bodyOf Tryd.f61) trimPC where
  fnO := Tryd.func61
  bodyO := by kernel_rfl
  low := fun g hg => by cases hg
  runs := fun e H hc => by
    simp only [trimPC, trimC, Bool.and_eq_true, decide_eq_true_eq] at hc
    obtain ⟨⟨⟨⟨⟨⟨c1, c2⟩, c3⟩, c4⟩, c5⟩, c6⟩, c7⟩ := hc
    have hnn : 0 ≤ trimD (eS e 0 []).length (eI e 2 []) (eI e 1 []) := by unfold trimD; split <;> omega
    have := trimL (eS e 0 []) (eI e 1 []) (eI e 3 []) c3 ⟨c4, c5⟩ ⟨c6, c7⟩ (trimD (eS e 0 []).length (eI e 2 []) (eI e 1 [])).toNat (eI e 2 []) 0 (by omega) c1 c2 (by omega) c1
    simp only [Int.zero_add] at this
    exact trim0 (eS e 0 []) (eI e 1 []) (eI e 2 []) (eI e 3 []) _ _ this

def addD (m : Int) (n : Nat) : Nat := if (n : Int) + 1 > m then 1 else 0
def addB (B : Ix → Int) (n : Nat) (c : Int) (d : Nat) : Ix → Int := fun is => match is with | [i] => if d + i < n then B [d + i] else c | _ => 0

theorem addI_p0 (m base lost : Int) (n : Nat) (B : Ix → Int) (c : Int) :
    isEnd (evTill Tryd.prog [] 100 99 300 19 [.code (bodyOf Tryd.f19)] (envOf [.v (.vp 60 (fun _ => 0) []), .v (.vi .u8 fun _ => c)] Tryd.f19.ntmps) (bufI 60 61 m base lost n B) ⟨[.t, .s true, .s true, .s true, .s true], 80⟩) (endP ([((101 : Nat), Rn.cut (81 : Nat) Tryd.prog.types[(5 : Nat)].size [(if (0 : Int) > IntKind.i64.wrap ((↑(n + (1 : Nat)) : Int) - m) then (0 : Int) else IntKind.i64.wrap ((↑(n + (1 : Nat)) : Int) - m)).toNat])]) (vN (addD m n)) (bufI 60 101 m (base + addD m n) (lost + addD m n) (n + 1 - addD m n) (addB B n c (addD m n))) 120) =
    (OkL [(((0 : Nat) + n).ble n, true), (decide (((2 : Nat) * (n + (1 : Nat)) + (192 : Nat)) * (1 : Nat) ≤ (281474976710656 : Nat)), true), (((0 : Nat) + (n + (1 : Nat))).ble (n + (1 : Nat)), true), (decide (((0 : Int) ≤ if (0 : Int) > IntKind.i64.wrap ((↑(n + (1 : Nat)) : Int) - m) then (0 : Int) else IntKind.i64.wrap ((↑(n + (1 : Nat)) : Int) - m)) ∧ (if (0 : Int) > IntKind.i64.wrap ((↑(n + (1 : Nat)) : Int) - m) then (0 : Int) else IntKind.i64.wrap ((↑(n + (1 : Nat)) : Int) - m)) ≤ (↑(n + (1 : Nat)) : Int)), true)] ∧ ((↑(addD m n) : Int) = if (0 : Int) > IntKind.i64.wrap ((↑(n + (1 : Nat)) : Int) - m) then (0 : Int) else IntKind.i64.wrap ((↑(n + (1 : Nat)) : Int) - m)) ∧ (m = m ∧ base + (↑(addD m n) : Int) = IntKind.i64.wrap (base + if (0 : Int) > IntKind.i64.wrap ((↑(n + (1 : Nat)) : Int) - m) then (0 : Int) else IntKind.i64.wrap ((↑(n + (1 : Nat)) : Int) - m)) ∧ lost + (↑(addD m n) : Int) = IntKind.i64.wrap (lost + if (0 : Int) > IntKind.i64.wrap ((↑(n + (1 : Nat)) : Int) - m) then (0 : Int) else IntKind.i64.wrap ((↑(n + (1 : Nat)) : Int) - m)) ∧ ([(if (0 : Int) > IntKind.i64.wrap ((↑(n + (1 : Nat)) : Int) - m) then (0 : Int) else IntKind.i64.wrap ((↑(n + (1 : Nat)) : Int) - m)).toNat] = [(if (0 : Int) > IntKind.i64.wrap ((↑(n + (1 : Nat)) : Int) - m) then (0 : Int) else IntKind.i64.wrap ((↑(n + (1 : Nat)) : Int) - m)).toNat] ∧ (0 : Nat) = (0 : Nat)) ∧ n + (1 : Nat) - addD m n = n + (1 : Nat) - (if (0 : Int) > IntKind.i64.wrap ((↑(n + (1 : Nat)) : Int) - m) then (0 : Int) else IntKind.i64.wrap ((↑(n + (1 : Nat)) : Int) - m)).toNat) ∧ sum [(if (0 : Int) > IntKind.i64.wrap ((↑(n + (1 : Nat)) : Int) - m) then (0 : Int) else IntKind.i64.wrap ((↑(n + (1 : Nat)) : Int) - m)).toNat] + (n + (1 : Nat) - addD m n) = n + (1 : Nat) ∧ ∀ (i : Nat), i < n + (1 : Nat) - addD m n → addB B n c (addD m n) [i] = appF n (0 : Nat) B (fun js => c) [sum [(if (0 : Int) > IntKind.i64.wrap ((↑(n + (1 : Nat)) : Int) - m) then (0 : Int) else IntKind.i64.wrap ((↑(n + (1 : Nat)) : Int) - m)).toNat] + i]) := by kernel_rfl

set_option maxHeartbeats 4000000 in
theorem addI (m base lost : Int) (n : Nat) (B : Ix → Int) (c : Int) (h0 : 0 ≤ base ∧ base ≤ 1000000) (h3 : 1 ≤ m ∧ m ≤ 1000) (h4 : 0 ≤ lost ∧ lost ≤ 1000000) (hn : (n : Int) ≤ m) :
    RunsTo Tryd.prog 19 [.code (bodyOf Tryd.f19)] (envOf [.v (.vp 60 (fun _ => 0) []), .v (.vi .u8 fun _ => c)] Tryd.f19.ntmps) (Sx.look (bufI 60 61 m base lost n B)) 80 (vN (addD m n)) (Sx.look (bufI 60 101 m (base + addD m n) (lost + addD m n) (n + 1 - addD m n) (addB B n c (addD m n)))) 120 := by
  have hX : (if (0 : Int) > IntKind.i64.wrap ((↑(n + (1 : Nat)) : Int) - m) then (0 : Int) else IntKind.i64.wrap ((↑(n + (1 : Nat)) : Int) - m)) = (addD m n : Int) := by
    rw [wr64 (by omega)]
    unfold addD
    split <;> split <;> omega
  have hD : addD m n ≤ 1 := by
    unfold addD
    split <;> omega
  have gg0 : (((0 : Nat) + n).ble n) = true := by first | (simp only [dT, dF, nltT, nltF, nleT, nleF, neqT, neqF, ieqT, ieqF, ineT, ineF, notT, notF, andT, andF, orT, orF]; rw [hX]; omega) | (simp (disch := omega) only [dT, dF, nltT, nltF, nleT, nleF, neqT, neqF, ieqT, ieqF, ineT, ineF, notT, notF, andT, andF, orT, orF, wr64s] at *; omega) | (simp (disch := omega) only [dT, dF, nltT, nltF, nleT, nleF, neqT, neqF, ieqT, ieqF, ineT, ineF, notT, notF, andT, andF, orT, orF, wr64s] at *; done)
  have gg1 : (decide (((2 : Nat) * (n + (1 : Nat)) + (192 : Nat)) * (1 : Nat) ≤ (281474976710656 : Nat))) = true := by first | (simp only [dT, dF, nltT, nltF, nleT, nleF, neqT, neqF, ieqT, ieqF, ineT, ineF, notT, notF, andT, andF, orT, orF]; rw [hX]; omega) | (simp (disch := omega) only [dT, dF, nltT, nltF, nleT, nleF, neqT, neqF, ieqT, ieqF, ineT, ineF, notT, notF, andT, andF, orT, orF, wr64s] at *; omega) | (simp (disch := omega) only [dT, dF, nltT, nltF, nleT, nleF, neqT, neqF, ieqT, ieqF, ineT, ineF, notT, notF, andT, andF, orT, orF, wr64s] at *; done)
  have gg2 : (((0 : Nat) + (n + (1 : Nat))).ble (n + (1 : Nat))) = true := by first | (simp only [dT, dF, nltT, nltF, nleT, nleF, neqT, neqF, ieqT, ieqF, ineT, ineF, notT, notF, andT, andF, orT, orF]; rw [hX]; omega) | (simp (disch := omega) only [dT, dF, nltT, nltF, nleT, nleF, neqT, neqF, ieqT, ieqF, ineT, ineF, notT, notF, andT, andF, orT, orF, wr64s] at *; omega) | (simp (disch := omega) only [dT, dF, nltT, nltF, nleT, nleF, neqT, neqF, ieqT, ieqF, ineT, ineF, notT, notF, andT, andF, orT, orF, wr64s] at *; done)
  have gg3 : (decide (((0 : Int) ≤ if (0 : Int) > IntKind.i64.wrap ((↑(n + (1 : Nat)) : Int) - m) then (0 : Int) else IntKind.i64.wrap ((↑(n + (1 : Nat)) : Int) - m)) ∧ (if (0 : Int) > IntKind.i64.wrap ((↑(n + (1 : Nat)) : Int) - m) then (0 : Int) else IntKind.i64.wrap ((↑(n + (1 : Nat)) : Int) - m)) ≤ (↑(n + (1 : Nat)) : Int))) = true := by first | (simp only [dT, dF, nltT, nltF, nleT, nleF, neqT, neqF, ieqT, ieqF, ineT, ineF, notT, notF, andT, andF, orT, orF]; rw [hX]; omega) | (simp (disch := omega) only [dT, dF, nltT, nltF, nleT, nleF, neqT, neqF, ieqT, ieqF, ineT, ineF, notT, notF, andT, andF, orT, orF, wr64s] at *; omega) | (simp (disch := omega) only [dT, dF, nltT, nltF, nleT, nleF, neqT, neqF, ieqT, ieqF, ineT, ineF, notT, notF, andT, andF, orT, orF, wr64s] at *; done)
  refine runs_last baseO (Sx.Ends.of (addI_p0 m base lost n B c) ⟨(okc gg0 (okc gg1 (okc gg2 (okc gg3 okn)))), ?_⟩) (by kernel_rfl) rfl (gtL (by decide)) (by decide)
  simp only [hX]
  simp (disch := omega) only [wr64s, Int.toNat_natCast, Go.Sx.sum, Nat.add_zero]
  simp [addB, appF]
  all_goals omega

def addC (m base lost : Int) (n : Nat) : Bool := decide (0 ≤ base) && decide (base ≤ 1000000) && decide (1 ≤ m) && decide (m ≤ 1000) && decide (0 ≤ lost) && decide (lost ≤ 1000000) && decide ((n : Int) ≤ m)
def bufP (p l i : Nat) : List PE := [⟨p, true, 4, .tc (.vi .i64 i) (.tc (.vi .i64 (i + 1)) (.tc (.vi .i64 (i + 2)) (.tc (.vl l 1 (i + 3)) .t0)))⟩, ⟨l, true, 1, .ta (i + 3) (.vi .u8 (i + 4))⟩]
def addPC : PC :=
  { args := [.v (.vp 60), .v (.vi .u8 9)], heap := bufP 60 61 0, gs := [], G := 16, tp := 140, n := 80, n' := 120,
    cond := fun e => addC (eI e 0 []) (eI e 1 []) (eI e 2 []) (eN e 3), v := fun e => vN (addD (eI e 0 []) (eN e 3)),
    post := fun e => bufI 60 101 (eI e 0 []) (eI e 1 [] + addD (eI e 0 []) (eN e 3)) (eI e 2 [] + addD (eI e 0 []) (eN e 3)) (eN e 3 + 1 - addD (eI e 0 []) (eN e 3)) (addB (eI e 4) (eN e 3) (eI e 9 []) (addD (eI e 0 []) (eN e 3))) }
theorem add_pc : PC.Runs Tryd.prog 19 Tryd.f19 (bodyOf Tryd.f19) addPC where
  fnO := Tryd.func19
  bodyO := by kernel_rfl
  low := fun g hg => by cases hg
  runs := fun e H hc => by
    simp only [addPC, addC, Bool.and_eq_true, decide_eq_true_eq] at hc
    obtain ⟨⟨⟨⟨⟨⟨c1, c2⟩, c3⟩, c4⟩, c5⟩, c6⟩, c7⟩ := hc
    exact addI (eI e 0 []) (eI e 1 []) (eI e 2 []) (eN e 3) (eI e 4) (eI e 9 []) ⟨c1, c2⟩ ⟨c3, c4⟩ ⟨c5, c6⟩ c7

def sumsB : List (FuncId × Summ) := [(15, aliveS), (16, longS), (61, trimPC.summ 32), (19, addPC.summ 32), (28, numS)]
theorem baseB : Base0 Tryd.prog sumsB :=
  ((((baseO.cons Tryd.func28 (by kernel_rfl) numS_ok).cons Tryd.func19 (by kernel_rfl) (PC.summ_ok add_pc gtop32)).cons Tryd.func61 (by kernel_rfl) (PC.summ_ok trim_pc gtop32)).cons Tryd.func16 (by kernel_rfl) longS_ok).cons Tryd.func15 (by kernel_rfl) aliveS_ok

end Go.Proofs.YtdmkdmaofgjelaaDoor
