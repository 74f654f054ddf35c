/- Tables: what is made. -/
import Derived.Test.YtgbgfekfcjphnaaDoorEnC
import Derived.Test.YtgbgfekfcjphnaaDoorSxPb
set_option linter.unusedSimpArgs false
set_option linter.unusedVariables false
set_option maxRecDepth 100000
namespace Go.Proofs.YtgbgfekfcjphnaaDoor
open Go.Sx

theorem goodP : PGood Tryd.prog := good_of (by kernel_rfl) (by kernel_rfl)
theorem gtopP : gtop Tryd.prog ≤ 100 := of_decide_eq_true (by kernel_rfl)
theorem gtop32 : gtop Tryd.prog = 32 := of_decide_eq_true (by kernel_rfl)
theorem gtL {n : Nat} (h : 32 ≤ n) : gtop Tryd.prog ≤ n := Nat.le_trans (Nat.le_of_eq gtop32) h
theorem baseO : Base0 Tryd.prog [] := Base0.nil goodP
abbrev YES : SV := .v (.vb fun _ => true)
abbrev vN (a : Int) : SV := .v (.vi .i64 fun _ => a)
abbrev vP (l : Nat) : SV := .v (.vp l (fun _ => 0) [])
abbrev vL (l w n : Nat) : SV := .v (.vl l (fun _ => 0) w [] (fun _ => n))
def zI : Ix → Int := fun _ => 0
def zB : Ix → Bool := fun _ => false
def cndF {α : Type} (b : Bool) (x y : Ix → α) : Ix → α := fun is => if b = true then x is else y is

def polT (k N M : Nat) : Tr := .tc (.vl k (fun _ => 0) 1 [] (fun _ => N)) (.tc (.vl (k + 1) (fun _ => 0) 1 [] (fun _ => M)) .t0)
def polE (k N M : Nat) (U V : Ix → Int) : List Ent := [⟨k, false, none, 1, .ta N (.vi .i64 U)⟩, ⟨k + 1, false, none, 1, .ta M (.vi .i64 V)⟩]
def stT (k : Int) (o : Bool) : Tr := .tc (.vi .i64 fun _ => k) (.tc (.vb fun _ => o) .t0)
def plT (K : Ix → Int) (O A : Ix → Bool) : Tr := .tc (.tc (.vi .i64 K) (.tc (.vb O) .t0)) (.tc (.vb A) .t0)
def tabE (p : Nat) (K : Ix → Int) (O A : Ix → Bool) (h a s : Int) : List Ent := [⟨p, true, none, 1539, .tc (.ta 2 (.ta 256 (plT K O A))) (.tc (.vi .i64 fun _ => h) (.tc (.vi .i64 fun _ => a) (.tc (.vi .i64 fun _ => s) .t0)))⟩]
def actT (kd cd op : Int) : Tr := .tc (.vi .i64 fun _ => kd) (.tc (.vi .i64 fun _ => cd) (.tc (.vi .i64 fun _ => op) .t0))
def sG (ta tb tc td : List UInt8) : List Ent := sentEnts 16 131 [(0, ta), (1, tb), (2, tc), (3, td)]

def hasN (U : Ix → Int) : Nat → Int → Bool
  | 0, _ => false
  | k + 1, n => hasN U k n || decide (U [k] = n)
def agF (U V : Ix → Int) (a b : Nat) : Ix → Bool := fun is => match is with | [p, n] => if p = 0 then hasN U a n else hasN V b n | _ => false
def inO (n : Int) : Bool := decide (0 ≤ n) && decide (n < 256)

theorem ag_zero (U V : Ix → Int) (p n : Nat) : agF U V 0 0 [p, n] = false := by simp [agF, hasN]
theorem ag_u1 {U V : Ix → Int} {i b : Nat} (h1 : 0 ≤ U [i]) (p n : Nat) : agF U V (i + 1) b [p, n] = upd (agF U V i b) [0, (U [i]).toNat] true [p, n] := by
  simp only [agF, upd]
  by_cases hp : p = 0
  · subst hp
    simp only [if_true, hasN]
    by_cases hn : n = (U [i]).toNat
    · subst hn
      have : U [i] = (((U [i]).toNat : Nat) : Int) := by omega
      simp [this.symm]
    · have h2 : ¬ ([0, n] : Ix) = [0, (U [i]).toNat] := by simp [hn]
      have h3 : ¬ U [i] = (n : Int) := by omega
      simp [h2, h3]
  · have h2 : ¬ ([p, n] : Ix) = [0, (U [i]).toNat] := by simp [hp]
    rw [if_neg hp, if_neg h2, if_neg hp]
theorem ag_u0 {U V : Ix → Int} {i b : Nat} (h1 : inO (U [i]) = false) (p n : Nat) (hn : n < 256) : agF U V (i + 1) b [p, n] = agF U V i b [p, n] := by
  simp only [agF, hasN]
  have h3 : ¬ U [i] = (n : Int) := by
    intro h
    simp only [inO, Bool.and_eq_false_iff, decide_eq_false_iff_not] at h1
    omega
  simp [h3]
theorem ag_v1 {U V : Ix → Int} {i a : Nat} (h1 : 0 ≤ V [i]) (p n : Nat) (hp2 : p < 2) : agF U V a (i + 1) [p, n] = upd (agF U V a i) [1, (V [i]).toNat] true [p, n] := by
  simp only [agF, upd]
  by_cases hp : p = 0
  · have h2 : ¬ ([p, n] : Ix) = [1, (V [i]).toNat] := by simp [hp]
    rw [if_pos hp, if_neg h2, if_pos hp]
  · obtain rfl : p = 1 := by omega
    simp only [if_neg hp, hasN]
    by_cases hn : n = (V [i]).toNat
    · subst hn
      have : V [i] = (((V [i]).toNat : Nat) : Int) := by omega
      simp [this.symm]
    · have h2 : ¬ ([1, n] : Ix) = [1, (V [i]).toNat] := by simp [hn]
      have h3 : ¬ V [i] = (n : Int) := by omega
      simp [h2, h3]
theorem ag_v0 {U V : Ix → Int} {i a : Nat} (h1 : inO (V [i]) = false) (p n : Nat) (hn : n < 256) : agF U V a (i + 1) [p, n] = agF U V a i [p, n] := by
  simp only [agF, hasN]
  have h3 : ¬ V [i] = (n : Int) := by
    intro h
    simp only [inO, Bool.and_eq_false_iff, decide_eq_false_iff_not] at h1
    omega
  simp [h3]

def hearS (k : Int) (o is g : Bool) : Int := if is = true then (if k = 0 then (if g = true then 1 else 2) else if k = 2 then 0 else if o = true then 2 else 0) else (if k = 1 then 2 else if k = 2 ∧ o = true then 1 else 0)
def hearK (k : Int) (o is g : Bool) : Int := if is = true then (if k = 0 then (if g = true then 1 else 0) else if k = 2 then (if o = true then 1 else 0) else if o = true then 2 else 1) else (if k = 2 ∧ o = true then 3 else 0)
def hearW (k : Int) (is : Bool) : Bool := is && decide (k = 2)
def askE (k : Int) (o on : Bool) : Bool := ((decide (k = 1) || decide (k = 3)) != o) == on
def askK (k : Int) (o on : Bool) : Int := if askE k o on = true then k else if k = 0 then 3 else if k = 1 then 2 else k
def askO (k : Int) (o on : Bool) : Bool := if askE k o on = true then o else if k = 0 then false else if k = 1 then false else !o
def askS (k : Int) (o on : Bool) : Int := if askE k o on = true then 0 else if k = 0 then 1 else if k = 1 then 2 else 0
def askA (k : Int) (o on : Bool) : Int := if askE k o on = true then 0 else 1
def rtB (k : Int) (o : Bool) : Bool := decide (0 ≤ k) && decide (k ≤ 3) && (!o || decide (2 ≤ k))
def vrb (c : Int) : Bool := decide (251 ≤ c) && decide (c ≤ 254)
def sdN (c : Int) : Nat := if c < 253 then 1 else 0
def frB (c : Int) : Bool := decide (c = 251) || decide (c = 253)
/-- The verb by which something is sent. -/
def verbV (p : Nat) (z : Int) : Int := if z = 0 then 0 else 250 + 2 * p + z
def plS (kd cd : Int) : Nat := if kd = 0 then sdN cd else cd.toNat
def actB (kd cd op : Int) : Bool := inO op && (if kd = 0 then vrb cd else (decide (kd = 1) || decide (kd = 2)) && (decide (cd = 0) || decide (cd = 1)))
def nK (kd cd k : Int) (o g : Bool) : Int := if kd = 0 then hearK k o (frB cd) g else askK k o (decide (kd = 1))
def nO (kd cd k : Int) (o g : Bool) : Bool := if kd = 0 then false else askO k o (decide (kd = 1))
def nS (kd cd k : Int) (o g : Bool) : Int := if kd = 0 then hearS k o (frB cd) g else askS k o (decide (kd = 1))
def nA (kd cd k : Int) (o g : Bool) : Int := if kd = 0 then 0 else askA k o (decide (kd = 1))
def cndI (b : Bool) (x : Int) : Int := if b = true then x else 0
def cntC (h a s : Int) : Bool := decide (0 ≤ h) && decide (h ≤ 100000) && decide (0 ≤ a) && decide (a ≤ 100000) && decide (0 ≤ s) && decide (s ≤ 100000)
theorem cntC_ok {h a s : Int} (c : cntC h a s = true) : 0 ≤ h ∧ h ≤ 100000 ∧ 0 ≤ a ∧ a ≤ 100000 ∧ 0 ≤ s ∧ s ≤ 100000 := by
  simp only [cntC, Bool.and_eq_true, decide_eq_true_eq] at c
  obtain ⟨⟨⟨⟨⟨c1, c2⟩, c3⟩, c4⟩, c5⟩, c6⟩ := c
  exact ⟨c1, c2, c3, c4, c5, c6⟩
theorem rtB_ok {k : Int} {o : Bool} (c : rtB k o = true) : 0 ≤ k ∧ k ≤ 3 ∧ (o = true → 2 ≤ k) := by
  simp only [rtB, Bool.and_eq_true, Bool.or_eq_true, Bool.not_eq_true', decide_eq_true_eq] at c
  obtain ⟨⟨c1, c2⟩, c3⟩ := c
  exact ⟨c1, c2, fun h => by rcases c3 with c | c; · rw [h] at c; cases c
                             · exact c⟩

def nwE (p N M s i : Nat) : List (Nat × SV) := [(3, vP p), (4, vN s), (14, .agg (polT 60 N M)), (15, vN s), (19, vL (60 + s) 1 (if s = 0 then N else M)), (20, vN (if s = 0 then N else M : Nat)), (21, vN i)]

theorem nw0_p0 (N M : Nat) (U V : Ix → Int) :
    isMore (evTill Tryd.prog [] 100 (behind Tryd.f23 1) 900 23 [.code (bodyOf Tryd.f23)] (envOf [.agg (polT 60 N M)] Tryd.f23.ntmps) (polE 60 N M U V ++ []) ⟨[.t, .t, .t], 80⟩) (moreP (headOf Tryd.f23 1) ([((85 : Nat), Rn.to (81 : Nat))]) Tryd.f23.ntmps (nwE 85 N M 0 0) (tabE 85 zI zB (agF U V 0 0) 0 0 0) 120) =
    (OkL [] ∧ headOf Tryd.f23 (1 : Nat) = headOf Tryd.f23 (1 : Nat) ∧ ((0 : Nat) = (0 : Nat) ∧ (↑(0 : Nat) : Int) = (0 : Int) ∧ (((0 : Nat) = (0 : Nat) ∧ N = N) ∧ (0 : Nat) = (0 : Nat) ∧ M = M) ∧ (↑(0 : Nat) : Int) = (0 : Int) ∧ ((0 : Nat) = (0 : Nat) ∧ (if (0 : Nat) = (0 : Nat) then N else M) = N) ∧ (↑(if (0 : Nat) = (0 : Nat) then N else M) : Int) = (↑N : Int) ∧ (↑(0 : Nat) : Int) = (0 : Int)) ∧ ((2 : Nat) = (2 : Nat) ∧ (256 : Nat) = (256 : Nat) ∧ ((∀ (i : Nat), i < (2 : Nat) → ∀ (i_1 : Nat), i_1 < (256 : Nat) → zI [i, i_1] = (0 : Int)) ∧ ∀ (i : Nat), i < (2 : Nat) → ∀ (i_1 : Nat), i_1 < (256 : Nat) → zB [i, i_1] = false) ∧ ∀ (i : Nat), i < (2 : Nat) → ∀ (i_1 : Nat), i_1 < (256 : Nat) → agF U V (0 : Nat) (0 : Nat) [i, i_1] = false) ∧ (0 : Int) = (0 : Int) ∧ (0 : Int) = (0 : Int) ∧ (0 : Int) = (0 : Int)) := by kernel_rfl

set_option maxHeartbeats 4000000 in
theorem nw0 (N M : Nat) (U V : Ix → Int) (v : SV) (L' : HF) (next : RunsTo Tryd.prog 23 (headOf Tryd.f23 1) (envAt Tryd.f23.ntmps (nwE 85 N M 0 0)) (Sx.look (polE 60 N M U V ++ tabE 85 zI zB (agF U V 0 0) 0 0 0)) 80 v L' 120) :
    RunsTo Tryd.prog 23 [.code (bodyOf Tryd.f23)] (envOf [.agg (polT 60 N M)] Tryd.f23.ntmps) (Sx.look (polE 60 N M U V ++ [])) 80 v L' 120 := by
  refine runs_more baseO (More.of (nw0_p0 N M U V) ⟨okn, rfl, ?_⟩) (by kernel_rfl) (by kernel_rfl) rfl (gtL (by decide)) (by decide) next
  clear next
  simp [ag_zero, zI, zB]

theorem nwU_p0 (N M : Nat) (U V : Ix → Int) (i : Nat) :
    isMore (evTill Tryd.prog [] 100 (behind Tryd.f23 1) 900 23 (headOf Tryd.f23 1) (envAt Tryd.f23.ntmps (nwE 85 N M 0 i)) (polE 60 N M U V ++ tabE 85 zI zB (agF U V i 0) 0 0 0) ⟨[.s true, .s true, .s true, .s true, .s false, .f], 90⟩) (moreP (headOf Tryd.f23 1) ([]) Tryd.f23.ntmps (nwE 85 N M 0 (i + 1)) (tabE 85 zI zB (agF U V (i + 1) 0) 0 0 0) 120) =
    (OkL [(decide ((↑i : Int) < (↑(if (0 : Nat) = (0 : Nat) then N else M) : Int)), true), (decide ((0 : Int) ≤ (↑i : Int) ∧ (↑i : Int) < (↑(if (0 : Nat) = (0 : Nat) then N else M) : Int)), true), (((0 : Nat) + (↑i : Int).toNat).blt N, true), (((0 : Nat) + (↑i : Int).toNat).blt N, true), (decide (U [(0 : Nat) + (↑i : Int).toNat] ≥ (0 : Int)), false)] ∧ headOf Tryd.f23 (1 : Nat) = headOf Tryd.f23 (1 : Nat) ∧ ((0 : Nat) = (0 : Nat) ∧ (↑(0 : Nat) : Int) = (↑(0 : Nat) : Int) ∧ (((0 : Nat) = (0 : Nat) ∧ N = N) ∧ (0 : Nat) = (0 : Nat) ∧ M = M) ∧ (↑(0 : Nat) : Int) = (↑(0 : Nat) : Int) ∧ ((0 : Nat) = (0 : Nat) ∧ (if (0 : Nat) = (0 : Nat) then N else M) = if (0 : Nat) = (0 : Nat) then N else M) ∧ (↑(if (0 : Nat) = (0 : Nat) then N else M) : Int) = (↑(if (0 : Nat) = (0 : Nat) then N else M) : Int) ∧ (↑(i + (1 : Nat)) : Int) = IntKind.i64.wrap ((↑i : Int) + (1 : Int))) ∧ ((2 : Nat) = (2 : Nat) ∧ (256 : Nat) = (256 : Nat) ∧ ((∀ (i : Nat), i < (2 : Nat) → ∀ (i_1 : Nat), i_1 < (256 : Nat) → zI [i, i_1] = zI [i, i_1]) ∧ ∀ (i : Nat), i < (2 : Nat) → ∀ (i_1 : Nat), i_1 < (256 : Nat) → zB [i, i_1] = zB [i, i_1]) ∧ ∀ (i_1 : Nat), i_1 < (2 : Nat) → ∀ (i_2 : Nat), i_2 < (256 : Nat) → agF U V (i + (1 : Nat)) (0 : Nat) [i_1, i_2] = agF U V i (0 : Nat) [i_1, i_2]) ∧ (0 : Int) = (0 : Int) ∧ (0 : Int) = (0 : Int) ∧ (0 : Int) = (0 : Int)) := by kernel_rfl
theorem nwU_p1 (N M : Nat) (U V : Ix → Int) (i : Nat) :
    isMore (evTill Tryd.prog [] 100 (behind Tryd.f23 1) 900 23 (headOf Tryd.f23 1) (envAt Tryd.f23.ntmps (nwE 85 N M 0 i)) (polE 60 N M U V ++ tabE 85 zI zB (agF U V i 0) 0 0 0) ⟨[.s true, .s true, .s true, .s true, .s true, .s false], 90⟩) (moreP (headOf Tryd.f23 1) ([]) Tryd.f23.ntmps (nwE 85 N M 0 (i + 1)) (tabE 85 zI zB (agF U V (i + 1) 0) 0 0 0) 120) =
    (OkL [(decide ((↑i : Int) < (↑(if (0 : Nat) = (0 : Nat) then N else M) : Int)), true), (decide ((0 : Int) ≤ (↑i : Int) ∧ (↑i : Int) < (↑(if (0 : Nat) = (0 : Nat) then N else M) : Int)), true), (((0 : Nat) + (↑i : Int).toNat).blt N, true), (((0 : Nat) + (↑i : Int).toNat).blt N, true), (decide (U [(0 : Nat) + (↑i : Int).toNat] ≥ (0 : Int)), true), (decide (U [(0 : Nat) + (↑i : Int).toNat] < (256 : Int)), false)] ∧ headOf Tryd.f23 (1 : Nat) = headOf Tryd.f23 (1 : Nat) ∧ ((0 : Nat) = (0 : Nat) ∧ (↑(0 : Nat) : Int) = (↑(0 : Nat) : Int) ∧ (((0 : Nat) = (0 : Nat) ∧ N = N) ∧ (0 : Nat) = (0 : Nat) ∧ M = M) ∧ (↑(0 : Nat) : Int) = (↑(0 : Nat) : Int) ∧ ((0 : Nat) = (0 : Nat) ∧ (if (0 : Nat) = (0 : Nat) then N else M) = if (0 : Nat) = (0 : Nat) then N else M) ∧ (↑(if (0 : Nat) = (0 : Nat) then N else M) : Int) = (↑(if (0 : Nat) = (0 : Nat) then N else M) : Int) ∧ (↑(i + (1 : Nat)) : Int) = IntKind.i64.wrap ((↑i : Int) + (1 : Int))) ∧ ((2 : Nat) = (2 : Nat) ∧ (256 : Nat) = (256 : Nat) ∧ ((∀ (i : Nat), i < (2 : Nat) → ∀ (i_1 : Nat), i_1 < (256 : Nat) → zI [i, i_1] = zI [i, i_1]) ∧ ∀ (i : Nat), i < (2 : Nat) → ∀ (i_1 : Nat), i_1 < (256 : Nat) → zB [i, i_1] = zB [i, i_1]) ∧ ∀ (i_1 : Nat), i_1 < (2 : Nat) → ∀ (i_2 : Nat), i_2 < (256 : Nat) → agF U V (i + (1 : Nat)) (0 : Nat) [i_1, i_2] = agF U V i (0 : Nat) [i_1, i_2]) ∧ (0 : Int) = (0 : Int) ∧ (0 : Int) = (0 : Int) ∧ (0 : Int) = (0 : Int)) := by kernel_rfl
theorem nwU_p2 (N M : Nat) (U V : Ix → Int) (i : Nat) :
    isMore (evTill Tryd.prog [] 100 (behind Tryd.f23 1) 900 23 (headOf Tryd.f23 1) (envAt Tryd.f23.ntmps (nwE 85 N M 0 i)) (polE 60 N M U V ++ tabE 85 zI zB (agF U V i 0) 0 0 0) ⟨[.s true, .s true, .s true, .s true, .s true, .s true, .t, .s true, .t, .s true], 90⟩) (moreP (headOf Tryd.f23 1) ([]) Tryd.f23.ntmps (nwE 85 N M 0 (i + 1)) (tabE 85 zI zB (agF U V (i + 1) 0) 0 0 0) 120) =
    (OkL [(decide ((↑i : Int) < (↑(if (0 : Nat) = (0 : Nat) then N else M) : Int)), true), (decide ((0 : Int) ≤ (↑i : Int) ∧ (↑i : Int) < (↑(if (0 : Nat) = (0 : Nat) then N else M) : Int)), true), (((0 : Nat) + (↑i : Int).toNat).blt N, true), (((0 : Nat) + (↑i : Int).toNat).blt N, true), (decide (U [(0 : Nat) + (↑i : Int).toNat] ≥ (0 : Int)), true), (decide (U [(0 : Nat) + (↑i : Int).toNat] < (256 : Int)), true), (decide ((0 : Int) ≤ U [(0 : Nat) + (↑i : Int).toNat] ∧ U [(0 : Nat) + (↑i : Int).toNat] < (↑(256 : Nat) : Int)), true), ((U [(0 : Nat) + (↑i : Int).toNat]).toNat.blt (256 : Nat), true)] ∧ headOf Tryd.f23 (1 : Nat) = headOf Tryd.f23 (1 : Nat) ∧ ((0 : Nat) = (0 : Nat) ∧ (↑(0 : Nat) : Int) = (↑(0 : Nat) : Int) ∧ (((0 : Nat) = (0 : Nat) ∧ N = N) ∧ (0 : Nat) = (0 : Nat) ∧ M = M) ∧ (↑(0 : Nat) : Int) = (↑(0 : Nat) : Int) ∧ ((0 : Nat) = (0 : Nat) ∧ (if (0 : Nat) = (0 : Nat) then N else M) = if (0 : Nat) = (0 : Nat) then N else M) ∧ (↑(if (0 : Nat) = (0 : Nat) then N else M) : Int) = (↑(if (0 : Nat) = (0 : Nat) then N else M) : Int) ∧ (↑(i + (1 : Nat)) : Int) = IntKind.i64.wrap ((↑i : Int) + (1 : Int))) ∧ ((2 : Nat) = (2 : Nat) ∧ (256 : Nat) = (256 : Nat) ∧ ((∀ (i : Nat), i < (2 : Nat) → ∀ (i_1 : Nat), i_1 < (256 : Nat) → zI [i, i_1] = zI [i, i_1]) ∧ ∀ (i : Nat), i < (2 : Nat) → ∀ (i_1 : Nat), i_1 < (256 : Nat) → zB [i, i_1] = zB [i, i_1]) ∧ ∀ (i_1 : Nat), i_1 < (2 : Nat) → ∀ (i_2 : Nat), i_2 < (256 : Nat) → agF U V (i + (1 : Nat)) (0 : Nat) [i_1, i_2] = upd (agF U V i (0 : Nat)) [(0 : Nat), (U [(0 : Nat) + (↑i : Int).toNat]).toNat] true [i_1, i_2]) ∧ (0 : Int) = (0 : Int) ∧ (0 : Int) = (0 : Int) ∧ (0 : Int) = (0 : Int)) := by kernel_rfl

set_option maxHeartbeats 4000000 in
theorem nwU (N M : Nat) (U V : Ix → Int) (i : Nat) (hi : i < N) (hN : N ≤ 100) (hM : M ≤ 100) (v : SV) (L' : HF) (next : RunsTo Tryd.prog 23 (headOf Tryd.f23 1) (envAt Tryd.f23.ntmps (nwE 85 N M 0 (i + 1))) (Sx.look (polE 60 N M U V ++ tabE 85 zI zB (agF U V (i + 1) 0) 0 0 0)) 80 v L' 120) :
    RunsTo Tryd.prog 23 (headOf Tryd.f23 1) (envAt Tryd.f23.ntmps (nwE 85 N M 0 i)) (Sx.look (polE 60 N M U V ++ tabE 85 zI zB (agF U V i 0) 0 0 0)) 80 v L' 120 := by
  have gg0 : (decide ((↑i : Int) < (↑(if (0 : Nat) = (0 : Nat) then N else M) : Int))) = true := by clear next; first | (simp (disch := omega) only [SS] at *; omega) | (simp (disch := omega) only [SS] at *; done) | (simp_all; done)
  have gg1 : (decide ((0 : Int) ≤ (↑i : Int) ∧ (↑i : Int) < (↑(if (0 : Nat) = (0 : Nat) then N else M) : Int))) = true := by clear next; first | (simp (disch := omega) only [SS] at *; omega) | (simp (disch := omega) only [SS] at *; done) | (simp_all; done)
  have gg2 : (((0 : Nat) + (↑i : Int).toNat).blt N) = true := by clear next; first | (simp (disch := omega) only [SS] at *; omega) | (simp (disch := omega) only [SS] at *; done) | (simp_all; done)
  refine bcase (c := (decide (U [(0 : Nat) + (↑i : Int).toNat] ≥ (0 : Int)))) (fun gg3 => ?_) (fun gg3 => ?_)
  · refine runs_more baseO (More.of (nwU_p0 N M U V i) ⟨(okc gg0 (okc gg1 (okc gg2 (okc gg2 (okc gg3 okn))))), rfl, ?_⟩) (by kernel_rfl) (by kernel_rfl) rfl (gtL (by decide)) (by decide) next
    clear next
    have hw : IntKind.i64.wrap ((i : Int) + 1) = ((i + 1 : Nat) : Int) := by rw [wr64 (by omega)]; rfl
    simp only [dT, dF, nltT, nltF, nleT, nleF, neqT, neqF, ieqT, ieqF, ineT, ineF, notT, notF, andT, andF, orT, orF, Int.toNat_natCast, Nat.zero_add, hw, List.nil_append, List.cons_append, List.append_nil, Go.Sx.sum] at *
    repeat' apply And.intro
    all_goals first | trivial | rfl | exact hw.symm | (intro p hp n hn; first | rfl | exact ag_u1 (by omega) p n | exact ag_u0 (by simp [inO]; omega) p n hn)
  · refine bcase (c := (decide (U [(0 : Nat) + (↑i : Int).toNat] < (256 : Int)))) (fun gg4 => ?_) (fun gg4 => ?_)
    · refine runs_more baseO (More.of (nwU_p1 N M U V i) ⟨(okc gg0 (okc gg1 (okc gg2 (okc gg2 (okc gg3 (okc gg4 okn)))))), rfl, ?_⟩) (by kernel_rfl) (by kernel_rfl) rfl (gtL (by decide)) (by decide) next
      clear next
      have hw : IntKind.i64.wrap ((i : Int) + 1) = ((i + 1 : Nat) : Int) := by rw [wr64 (by omega)]; rfl
      simp only [dT, dF, nltT, nltF, nleT, nleF, neqT, neqF, ieqT, ieqF, ineT, ineF, notT, notF, andT, andF, orT, orF, Int.toNat_natCast, Nat.zero_add, hw, List.nil_append, List.cons_append, List.append_nil, Go.Sx.sum] at *
      repeat' apply And.intro
      all_goals first | trivial | rfl | exact hw.symm | (intro p hp n hn; first | rfl | exact ag_u1 (by omega) p n | exact ag_u0 (by simp [inO]; omega) p n hn)
    · have gg5 : (decide ((0 : Int) ≤ U [(0 : Nat) + (↑i : Int).toNat] ∧ U [(0 : Nat) + (↑i : Int).toNat] < (↑(256 : Nat) : Int))) = true := by clear next; first | (simp (disch := omega) only [SS] at *; omega) | (simp (disch := omega) only [SS] at *; done) | (simp_all; done)
      have gg6 : ((U [(0 : Nat) + (↑i : Int).toNat]).toNat.blt (256 : Nat)) = true := by clear next; first | (simp (disch := omega) only [SS] at *; omega) | (simp (disch := omega) only [SS] at *; done) | (simp_all; done)
      refine runs_more baseO (More.of (nwU_p2 N M U V i) ⟨(okc gg0 (okc gg1 (okc gg2 (okc gg2 (okc gg3 (okc gg4 (okc gg5 (okc gg6 okn)))))))), rfl, ?_⟩) (by kernel_rfl) (by kernel_rfl) rfl (gtL (by decide)) (by decide) next
      clear next
      have hw : IntKind.i64.wrap ((i : Int) + 1) = ((i + 1 : Nat) : Int) := by rw [wr64 (by omega)]; rfl
      simp only [dT, dF, nltT, nltF, nleT, nleF, neqT, neqF, ieqT, ieqF, ineT, ineF, notT, notF, andT, andF, orT, orF, Int.toNat_natCast, Nat.zero_add, hw, List.nil_append, List.cons_append, List.append_nil, Go.Sx.sum] at *
      repeat' apply And.intro
      all_goals first | trivial | rfl | exact hw.symm | (intro p hp n hn; first | rfl | exact ag_u1 (by omega) p n | exact ag_u0 (by simp [inO]; omega) p n hn)

theorem nwV_p0 (N M : Nat) (U V : Ix → Int) (i : Nat) :
    isMore (evTill Tryd.prog [] 100 (behind Tryd.f23 1) 900 23 (headOf Tryd.f23 1) (envAt Tryd.f23.ntmps (nwE 85 N M 1 i)) (polE 60 N M U V ++ tabE 85 zI zB (agF U V N i) 0 0 0) ⟨[.s true, .s true, .s true, .s true, .s false, .f], 90⟩) (moreP (headOf Tryd.f23 1) ([]) Tryd.f23.ntmps (nwE 85 N M 1 (i + 1)) (tabE 85 zI zB (agF U V N (i + 1)) 0 0 0) 120) =
    (OkL [(decide ((↑i : Int) < (↑(if (1 : Nat) = (0 : Nat) then N else M) : Int)), true), (decide ((0 : Int) ≤ (↑i : Int) ∧ (↑i : Int) < (↑(if (1 : Nat) = (0 : Nat) then N else M) : Int)), true), (((0 : Nat) + (↑i : Int).toNat).blt M, true), (((0 : Nat) + (↑i : Int).toNat).blt M, true), (decide (V [(0 : Nat) + (↑i : Int).toNat] ≥ (0 : Int)), false)] ∧ headOf Tryd.f23 (1 : Nat) = headOf Tryd.f23 (1 : Nat) ∧ ((0 : Nat) = (0 : Nat) ∧ (↑(1 : Nat) : Int) = (↑(1 : Nat) : Int) ∧ (((0 : Nat) = (0 : Nat) ∧ N = N) ∧ (0 : Nat) = (0 : Nat) ∧ M = M) ∧ (↑(1 : Nat) : Int) = (↑(1 : Nat) : Int) ∧ ((0 : Nat) = (0 : Nat) ∧ (if (1 : Nat) = (0 : Nat) then N else M) = if (1 : Nat) = (0 : Nat) then N else M) ∧ (↑(if (1 : Nat) = (0 : Nat) then N else M) : Int) = (↑(if (1 : Nat) = (0 : Nat) then N else M) : Int) ∧ (↑(i + (1 : Nat)) : Int) = IntKind.i64.wrap ((↑i : Int) + (1 : Int))) ∧ ((2 : Nat) = (2 : Nat) ∧ (256 : Nat) = (256 : Nat) ∧ ((∀ (i : Nat), i < (2 : Nat) → ∀ (i_1 : Nat), i_1 < (256 : Nat) → zI [i, i_1] = zI [i, i_1]) ∧ ∀ (i : Nat), i < (2 : Nat) → ∀ (i_1 : Nat), i_1 < (256 : Nat) → zB [i, i_1] = zB [i, i_1]) ∧ ∀ (i_1 : Nat), i_1 < (2 : Nat) → ∀ (i_2 : Nat), i_2 < (256 : Nat) → agF U V N (i + (1 : Nat)) [i_1, i_2] = agF U V N i [i_1, i_2]) ∧ (0 : Int) = (0 : Int) ∧ (0 : Int) = (0 : Int) ∧ (0 : Int) = (0 : Int)) := by kernel_rfl
theorem nwV_p1 (N M : Nat) (U V : Ix → Int) (i : Nat) :
    isMore (evTill Tryd.prog [] 100 (behind Tryd.f23 1) 900 23 (headOf Tryd.f23 1) (envAt Tryd.f23.ntmps (nwE 85 N M 1 i)) (polE 60 N M U V ++ tabE 85 zI zB (agF U V N i) 0 0 0) ⟨[.s true, .s true, .s true, .s true, .s true, .s false], 90⟩) (moreP (headOf Tryd.f23 1) ([]) Tryd.f23.ntmps (nwE 85 N M 1 (i + 1)) (tabE 85 zI zB (agF U V N (i + 1)) 0 0 0) 120) =
    (OkL [(decide ((↑i : Int) < (↑(if (1 : Nat) = (0 : Nat) then N else M) : Int)), true), (decide ((0 : Int) ≤ (↑i : Int) ∧ (↑i : Int) < (↑(if (1 : Nat) = (0 : Nat) then N else M) : Int)), true), (((0 : Nat) + (↑i : Int).toNat).blt M, true), (((0 : Nat) + (↑i : Int).toNat).blt M, true), (decide (V [(0 : Nat) + (↑i : Int).toNat] ≥ (0 : Int)), true), (decide (V [(0 : Nat) + (↑i : Int).toNat] < (256 : Int)), false)] ∧ headOf Tryd.f23 (1 : Nat) = headOf Tryd.f23 (1 : Nat) ∧ ((0 : Nat) = (0 : Nat) ∧ (↑(1 : Nat) : Int) = (↑(1 : Nat) : Int) ∧ (((0 : Nat) = (0 : Nat) ∧ N = N) ∧ (0 : Nat) = (0 : Nat) ∧ M = M) ∧ (↑(1 : Nat) : Int) = (↑(1 : Nat) : Int) ∧ ((0 : Nat) = (0 : Nat) ∧ (if (1 : Nat) = (0 : Nat) then N else M) = if (1 : Nat) = (0 : Nat) then N else M) ∧ (↑(if (1 : Nat) = (0 : Nat) then N else M) : Int) = (↑(if (1 : Nat) = (0 : Nat) then N else M) : Int) ∧ (↑(i + (1 : Nat)) : Int) = IntKind.i64.wrap ((↑i : Int) + (1 : Int))) ∧ ((2 : Nat) = (2 : Nat) ∧ (256 : Nat) = (256 : Nat) ∧ ((∀ (i : Nat), i < (2 : Nat) → ∀ (i_1 : Nat), i_1 < (256 : Nat) → zI [i, i_1] = zI [i, i_1]) ∧ ∀ (i : Nat), i < (2 : Nat) → ∀ (i_1 : Nat), i_1 < (256 : Nat) → zB [i, i_1] = zB [i, i_1]) ∧ ∀ (i_1 : Nat), i_1 < (2 : Nat) → ∀ (i_2 : Nat), i_2 < (256 : Nat) → agF U V N (i + (1 : Nat)) [i_1, i_2] = agF U V N i [i_1, i_2]) ∧ (0 : Int) = (0 : Int) ∧ (0 : Int) = (0 : Int) ∧ (0 : Int) = (0 : Int)) := by kernel_rfl
theorem nwV_p2 (N M : Nat) (U V : Ix → Int) (i : Nat) :
    isMore (evTill Tryd.prog [] 100 (behind Tryd.f23 1) 900 23 (headOf Tryd.f23 1) (envAt Tryd.f23.ntmps (nwE 85 N M 1 i)) (polE 60 N M U V ++ tabE 85 zI zB (agF U V N i) 0 0 0) ⟨[.s true, .s true, .s true, .s true, .s true, .s true, .t, .s true, .t, .s true], 90⟩) (moreP (headOf Tryd.f23 1) ([]) Tryd.f23.ntmps (nwE 85 N M 1 (i + 1)) (tabE 85 zI zB (agF U V N (i + 1)) 0 0 0) 120) =
    (OkL [(decide ((↑i : Int) < (↑(if (1 : Nat) = (0 : Nat) then N else M) : Int)), true), (decide ((0 : Int) ≤ (↑i : Int) ∧ (↑i : Int) < (↑(if (1 : Nat) = (0 : Nat) then N else M) : Int)), true), (((0 : Nat) + (↑i : Int).toNat).blt M, true), (((0 : Nat) + (↑i : Int).toNat).blt M, true), (decide (V [(0 : Nat) + (↑i : Int).toNat] ≥ (0 : Int)), true), (decide (V [(0 : Nat) + (↑i : Int).toNat] < (256 : Int)), true), (decide ((0 : Int) ≤ V [(0 : Nat) + (↑i : Int).toNat] ∧ V [(0 : Nat) + (↑i : Int).toNat] < (↑(256 : Nat) : Int)), true), ((V [(0 : Nat) + (↑i : Int).toNat]).toNat.blt (256 : Nat), true)] ∧ headOf Tryd.f23 (1 : Nat) = headOf Tryd.f23 (1 : Nat) ∧ ((0 : Nat) = (0 : Nat) ∧ (↑(1 : Nat) : Int) = (↑(1 : Nat) : Int) ∧ (((0 : Nat) = (0 : Nat) ∧ N = N) ∧ (0 : Nat) = (0 : Nat) ∧ M = M) ∧ (↑(1 : Nat) : Int) = (↑(1 : Nat) : Int) ∧ ((0 : Nat) = (0 : Nat) ∧ (if (1 : Nat) = (0 : Nat) then N else M) = if (1 : Nat) = (0 : Nat) then N else M) ∧ (↑(if (1 : Nat) = (0 : Nat) then N else M) : Int) = (↑(if (1 : Nat) = (0 : Nat) then N else M) : Int) ∧ (↑(i + (1 : Nat)) : Int) = IntKind.i64.wrap ((↑i : Int) + (1 : Int))) ∧ ((2 : Nat) = (2 : Nat) ∧ (256 : Nat) = (256 : Nat) ∧ ((∀ (i : Nat), i < (2 : Nat) → ∀ (i_1 : Nat), i_1 < (256 : Nat) → zI [i, i_1] = zI [i, i_1]) ∧ ∀ (i : Nat), i < (2 : Nat) → ∀ (i_1 : Nat), i_1 < (256 : Nat) → zB [i, i_1] = zB [i, i_1]) ∧ ∀ (i_1 : Nat), i_1 < (2 : Nat) → ∀ (i_2 : Nat), i_2 < (256 : Nat) → agF U V N (i + (1 : Nat)) [i_1, i_2] = upd (agF U V N i) [(1 : Nat), (V [(0 : Nat) + (↑i : Int).toNat]).toNat] true [i_1, i_2]) ∧ (0 : Int) = (0 : Int) ∧ (0 : Int) = (0 : Int) ∧ (0 : Int) = (0 : Int)) := by kernel_rfl

set_option maxHeartbeats 4000000 in
theorem nwV (N M : Nat) (U V : Ix → Int) (i : Nat) (hi : i < M) (hN : N ≤ 100) (hM : M ≤ 100) (v : SV) (L' : HF) (next : RunsTo Tryd.prog 23 (headOf Tryd.f23 1) (envAt Tryd.f23.ntmps (nwE 85 N M 1 (i + 1))) (Sx.look (polE 60 N M U V ++ tabE 85 zI zB (agF U V N (i + 1)) 0 0 0)) 80 v L' 120) :
    RunsTo Tryd.prog 23 (headOf Tryd.f23 1) (envAt Tryd.f23.ntmps (nwE 85 N M 1 i)) (Sx.look (polE 60 N M U V ++ tabE 85 zI zB (agF U V N i) 0 0 0)) 80 v L' 120 := by
  have gg0 : (decide ((↑i : Int) < (↑(if (1 : Nat) = (0 : Nat) then N else M) : Int))) = true := by clear next; first | (simp (disch := omega) only [SS] at *; omega) | (simp (disch := omega) only [SS] at *; done) | (simp_all; done)
  have gg1 : (decide ((0 : Int) ≤ (↑i : Int) ∧ (↑i : Int) < (↑(if (1 : Nat) = (0 : Nat) then N else M) : Int))) = true := by clear next; first | (simp (disch := omega) only [SS] at *; omega) | (simp (disch := omega) only [SS] at *; done) | (simp_all; done)
  have gg2 : (((0 : Nat) + (↑i : Int).toNat).blt M) = true := by clear next; first | (simp (disch := omega) only [SS] at *; omega) | (simp (disch := omega) only [SS] at *; done) | (simp_all; done)
  refine bcase (c := (decide (V [(0 : Nat) + (↑i : Int).toNat] ≥ (0 : Int)))) (fun gg3 => ?_) (fun gg3 => ?_)
  · refine runs_more baseO (More.of (nwV_p0 N M U V i) ⟨(okc gg0 (okc gg1 (okc gg2 (okc gg2 (okc gg3 okn))))), rfl, ?_⟩) (by kernel_rfl) (by kernel_rfl) rfl (gtL (by decide)) (by decide) next
    clear next
    have hw : IntKind.i64.wrap ((i : Int) + 1) = ((i + 1 : Nat) : Int) := by rw [wr64 (by omega)]; rfl
    simp only [dT, dF, nltT, nltF, nleT, nleF, neqT, neqF, ieqT, ieqF, ineT, ineF, notT, notF, andT, andF, orT, orF, Int.toNat_natCast, Nat.zero_add, hw, List.nil_append, List.cons_append, List.append_nil, Go.Sx.sum] at *
    repeat' apply And.intro
    all_goals first | trivial | rfl | exact hw.symm | (intro p hp n hn; first | rfl | exact ag_v1 (by omega) p n hp | exact ag_v0 (by simp [inO]; omega) p n hn)
  · refine bcase (c := (decide (V [(0 : Nat) + (↑i : Int).toNat] < (256 : Int)))) (fun gg4 => ?_) (fun gg4 => ?_)
    · refine runs_more baseO (More.of (nwV_p1 N M U V i) ⟨(okc gg0 (okc gg1 (okc gg2 (okc gg2 (okc gg3 (okc gg4 okn)))))), rfl, ?_⟩) (by kernel_rfl) (by kernel_rfl) rfl (gtL (by decide)) (by decide) next
      clear next
      have hw : IntKind.i64.wrap ((i : Int) + 1) = ((i + 1 : Nat) : Int) := by rw [wr64 (by omega)]; rfl
      simp only [dT, dF, nltT, nltF, nleT, nleF, neqT, neqF, ieqT, ieqF, ineT, ineF, notT, notF, andT, andF, orT, orF, Int.toNat_natCast, Nat.zero_add, hw, List.nil_append, List.cons_append, List.append_nil, Go.Sx.sum] at *
      repeat' apply And.intro
      all_goals first | trivial | rfl | exact hw.symm | (intro p hp n hn; first | rfl | exact ag_v1 (by omega) p n hp | exact ag_v0 (by simp [inO]; omega) p n hn)
    · have gg5 : (decide ((0 : Int) ≤ V [(0 : Nat) + (↑i : Int).toNat] ∧ V [(0 : Nat) + (↑i : Int).toNat] < (↑(256 : Nat) : Int))) = true := by clear next; first | (simp (disch := omega) only [SS] at *; omega) | (simp (disch := omega) only [SS] at *; done) | (simp_all; done)
      have gg6 : ((V [(0 : Nat) + (↑i : Int).toNat]).toNat.blt (256 : Nat)) = true := by clear next; first | (simp (disch := omega) only [SS] at *; omega) | (simp (disch := omega) only [SS] at *; done) | (simp_all; done)
      refine runs_more baseO (More.of (nwV_p2 N M U V i) ⟨(okc gg0 (okc gg1 (okc gg2 (okc gg2 (okc gg3 (okc gg4 (okc gg5 (okc gg6 okn)))))))), rfl, ?_⟩) (by kernel_rfl) (by kernel_rfl) rfl (gtL (by decide)) (by decide) next
      clear next
      have hw : IntKind.i64.wrap ((i : Int) + 1) = ((i + 1 : Nat) : Int) := by rw [wr64 (by omega)]; rfl
      simp only [dT, dF, nltT, nltF, nleT, nleF, neqT, neqF, ieqT, ieqF, ineT, ineF, notT, notF, andT, andF, orT, orF, Int.toNat_natCast, Nat.zero_add, hw, List.nil_append, List.cons_append, List.append_nil, Go.Sx.sum] at *
      repeat' apply And.intro
      all_goals first | trivial | rfl | exact hw.symm | (intro p hp n hn; first | rfl | exact ag_v1 (by omega) p n hp | exact ag_v0 (by simp [inO]; omega) p n hn)

theorem nwX_p0 (N M : Nat) (U V : Ix → Int) (i : Nat) :
    isMore (evTill Tryd.prog [] 100 (behind Tryd.f23 1) 900 23 (headOf Tryd.f23 1) (envAt Tryd.f23.ntmps (nwE 85 N M 0 i)) (polE 60 N M U V ++ tabE 85 zI zB (agF U V i 0) 0 0 0) ⟨[.s false, .t, .t, .f, .t], 90⟩) (moreP (headOf Tryd.f23 1) ([]) Tryd.f23.ntmps (nwE 85 N M 1 0) (tabE 85 zI zB (agF U V N 0) 0 0 0) 120) =
    (OkL [(decide ((↑i : Int) < (↑(if (0 : Nat) = (0 : Nat) then N else M) : Int)), false)] ∧ headOf Tryd.f23 (1 : Nat) = headOf Tryd.f23 (1 : Nat) ∧ ((0 : Nat) = (0 : Nat) ∧ (↑(1 : Nat) : Int) = IntKind.i64.wrap ((↑(0 : Nat) : Int) + (1 : Int)) ∧ (((0 : Nat) = (0 : Nat) ∧ N = N) ∧ (0 : Nat) = (0 : Nat) ∧ M = M) ∧ (↑(1 : Nat) : Int) = IntKind.i64.wrap ((↑(0 : Nat) : Int) + (1 : Int)) ∧ ((0 : Nat) = (0 : Nat) ∧ (if (1 : Nat) = (0 : Nat) then N else M) = M) ∧ (↑(if (1 : Nat) = (0 : Nat) then N else M) : Int) = (↑M : Int) ∧ (↑(0 : Nat) : Int) = (0 : Int)) ∧ ((2 : Nat) = (2 : Nat) ∧ (256 : Nat) = (256 : Nat) ∧ ((∀ (i : Nat), i < (2 : Nat) → ∀ (i_1 : Nat), i_1 < (256 : Nat) → zI [i, i_1] = zI [i, i_1]) ∧ ∀ (i : Nat), i < (2 : Nat) → ∀ (i_1 : Nat), i_1 < (256 : Nat) → zB [i, i_1] = zB [i, i_1]) ∧ ∀ (i_1 : Nat), i_1 < (2 : Nat) → ∀ (i_2 : Nat), i_2 < (256 : Nat) → agF U V N (0 : Nat) [i_1, i_2] = agF U V i (0 : Nat) [i_1, i_2]) ∧ (0 : Int) = (0 : Int) ∧ (0 : Int) = (0 : Int) ∧ (0 : Int) = (0 : Int)) := by kernel_rfl

set_option maxHeartbeats 4000000 in
theorem nwX (N M : Nat) (U V : Ix → Int) (i : Nat) (hi : i = N) (hN : N ≤ 100) (hM : M ≤ 100) (v : SV) (L' : HF) (next : RunsTo Tryd.prog 23 (headOf Tryd.f23 1) (envAt Tryd.f23.ntmps (nwE 85 N M 1 0)) (Sx.look (polE 60 N M U V ++ tabE 85 zI zB (agF U V N 0) 0 0 0)) 80 v L' 120) :
    RunsTo Tryd.prog 23 (headOf Tryd.f23 1) (envAt Tryd.f23.ntmps (nwE 85 N M 0 i)) (Sx.look (polE 60 N M U V ++ tabE 85 zI zB (agF U V i 0) 0 0 0)) 80 v L' 120 := by
  have gg0 : (decide ((↑i : Int) < (↑(if (0 : Nat) = (0 : Nat) then N else M) : Int))) = false := by clear next; first | (simp (disch := omega) only [SS] at *; omega) | (simp (disch := omega) only [SS] at *; done) | (simp_all; done)
  refine runs_more baseO (More.of (nwX_p0 N M U V i) ⟨(okc gg0 okn), rfl, ?_⟩) (by kernel_rfl) (by kernel_rfl) rfl (gtL (by decide)) (by decide) next
  clear next
  subst hi
  simp
  try exact (wr64s (by decide) (by decide)).symm

theorem nwZ_p0 (N M : Nat) (U V : Ix → Int) (i : Nat) :
    isEnd (evTill Tryd.prog [] 100 (behind Tryd.f23 1) 900 23 (headOf Tryd.f23 1) (envAt Tryd.f23.ntmps (nwE 85 N M 1 i)) (polE 60 N M U V ++ tabE 85 zI zB (agF U V N i) 0 0 0) ⟨[.s false, .f], 90⟩) (endP ([((101 : Nat), Rn.to (85 : Nat))]) (vP 101) (tabE 101 zI zB (agF U V N M) 0 0 0) 120) =
    (OkL [(decide ((↑i : Int) < (↑(if (1 : Nat) = (0 : Nat) then N else M) : Int)), false)] ∧ (0 : Nat) = (0 : Nat) ∧ ((2 : Nat) = (2 : Nat) ∧ (256 : Nat) = (256 : Nat) ∧ ((∀ (i : Nat), i < (2 : Nat) → ∀ (i_1 : Nat), i_1 < (256 : Nat) → zI [i, i_1] = zI [i, i_1]) ∧ ∀ (i : Nat), i < (2 : Nat) → ∀ (i_1 : Nat), i_1 < (256 : Nat) → zB [i, i_1] = zB [i, i_1]) ∧ ∀ (i_1 : Nat), i_1 < (2 : Nat) → ∀ (i_2 : Nat), i_2 < (256 : Nat) → agF U V N M [i_1, i_2] = agF U V N i [i_1, i_2]) ∧ (0 : Int) = (0 : Int) ∧ (0 : Int) = (0 : Int) ∧ (0 : Int) = (0 : Int)) := by kernel_rfl

set_option maxHeartbeats 4000000 in
theorem nwZ (N M : Nat) (U V : Ix → Int) (i : Nat) (hi : i = M) (hN : N ≤ 100) (hM : M ≤ 100) :
    RunsTo Tryd.prog 23 (headOf Tryd.f23 1) (envAt Tryd.f23.ntmps (nwE 85 N M 1 i)) (Sx.look (polE 60 N M U V ++ tabE 85 zI zB (agF U V N i) 0 0 0)) 80 (vP 101) (Sx.look (tabE 101 zI zB (agF U V N M) 0 0 0)) 120 := by
  have gg0 : (decide ((↑i : Int) < (↑(if (1 : Nat) = (0 : Nat) then N else M) : Int))) = false := by first | (simp (disch := omega) only [SS] at *; omega) | (simp (disch := omega) only [SS] at *; done) | (simp_all; done)
  refine runs_last baseO (Sx.Ends.of (nwZ_p0 N M U V i) ⟨(okc gg0 okn), ?_⟩) (by kernel_rfl) rfl (gtL (by decide)) (by decide)
  subst hi
  simp

theorem nwLV (N M : Nat) (U V : Ix → Int) (hN : N ≤ 100) (hM : M ≤ 100) : ∀ (k i : Nat), i + k = M → RunsTo Tryd.prog 23 (headOf Tryd.f23 1) (envAt Tryd.f23.ntmps (nwE 85 N M 1 i)) (Sx.look (polE 60 N M U V ++ tabE 85 zI zB (agF U V N i) 0 0 0)) 80 (vP 101) (Sx.look (tabE 101 zI zB (agF U V N M) 0 0 0)) 120 := by
  intro k
  induction k with
  | zero => intro i hi; exact nwZ N M U V i (by omega) hN hM
  | succ k ih => intro i hi; exact nwV N M U V i (by omega) hN hM _ _ (ih (i + 1) (by omega))
theorem nwLU (N M : Nat) (U V : Ix → Int) (hN : N ≤ 100) (hM : M ≤ 100) : ∀ (k i : Nat), i + k = N → RunsTo Tryd.prog 23 (headOf Tryd.f23 1) (envAt Tryd.f23.ntmps (nwE 85 N M 0 i)) (Sx.look (polE 60 N M U V ++ tabE 85 zI zB (agF U V i 0) 0 0 0)) 80 (vP 101) (Sx.look (tabE 101 zI zB (agF U V N M) 0 0 0)) 120 := by
  intro k
  induction k with
  | zero => intro i hi; exact nwX N M U V i (by omega) hN hM _ _ (nwLV N M U V hN hM M 0 (by omega))
  | succ k ih => intro i hi; exact nwU N M U V i (by omega) hN hM _ _ (ih (i + 1) (by omega))
def newPC : PC := { args := [.agg (.tc (.vl 60 1 0) (.tc (.vl 61 1 1) .t0))], heap := [⟨60, false, 1, .ta 0 (.vi .i64 2)⟩, ⟨61, false, 1, .ta 1 (.vi .i64 3)⟩], gs := [], G := 16, tp := 131, n := 80, n' := 120, cond := fun e => decide (eN e 0 ≤ 100) && decide (eN e 1 ≤ 100), v := fun e => vP 101, post := fun e => tabE 101 zI zB (agF (eI e 2) (eI e 3) (eN e 0) (eN e 1)) 0 0 0 }
theorem new_pc : PC.Runs Tryd.prog 23 Tryd.f23 (bodyOf Tryd.f23) newPC := ⟨Tryd.func23, by kernel_rfl, (fun g hg => by cases hg), fun e H hc => by
  simp only [newPC, Bool.and_eq_true, decide_eq_true_eq] at hc
  exact nw0 (eN e 0) (eN e 1) (eI e 2) (eI e 3) _ _ (nwLU (eN e 0) (eN e 1) (eI e 2) (eI e 3) hc.1 hc.2 (eN e 0) 0 (by omega))⟩

end Go.Proofs.YtgbgfekfcjphnaaDoor
