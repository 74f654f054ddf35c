/- Special characters, by acts: sides are made, and hear. -/
import Derived.Test.YtdmkdmaofgjelaaDoorHaC
set_option linter.unusedSimpArgs false
set_option linter.unusedVariables false
set_option maxRecDepth 100000
namespace Go.Proofs.YtdmkdmaofgjelaaDoor
open Go.Sx


def sumsG : List (FuncId × Summ) := [(60, finePC.summ 32), (62, finePC.summ 32), (47, rightPC.summ 32), (48, rightPC.summ 32)]
theorem baseG : Base0 Tryd.prog sumsG := (((baseO.cons Tryd.func48 (by kernel_rfl) (PC.summ_ok rightR_pc gtop32)).cons Tryd.func47 (by kernel_rfl) (PC.summ_ok rightI_pc gtop32)).cons Tryd.func62 (by kernel_rfl) (PC.summ_ok fineR_pc gtop32)).cons Tryd.func60 (by kernel_rfl) (PC.summ_ok fineI_pc gtop32)

def okS (l v : Int) : Bool := fineB l v && !decide (l = 3)
def hlG (N : Nat) (L V W : Ix → Int) : Ix → Int := fun is => match is with | [p] => if 1 ≤ p ∧ p ≤ 18 ∧ p ≤ N ∧ okS (L [p - 1]) (V [p - 1]) = true then W [p - 1] else 0 | _ => 0
theorem okS_yes {l v : Int} (h : fineB l v = true) (h3 : l < 3) : okS l v = true := by
  have : decide (l = 3) = false := decide_eq_false (by omega)
  simp [okS, h, this]
theorem okS_no {l v : Int} (h : fineB l v = true) (h3 : ¬ l < 3) : okS l v = false := by
  simp only [fineB, Bool.and_eq_true, decide_eq_true_eq] at h
  have : decide (l = 3) = true := decide_eq_true (by omega)
  simp [okS, this]
theorem okS_bad {l v : Int} (h : fineB l v = false) : okS l v = false := by simp [okS, h]
theorem hl_yes {L V : Ix → Int} {i : Nat} (hi : i < 18) (h : okS (L [i]) (V [i]) = true) (W : Ix → Int) (p : Nat) : hlG (i + 1) L V W [p] = upd (hlG i L V W) [i + 1] (W [i]) [p] := by
  simp only [hlG, upd]
  by_cases hp : p = i + 1
  · subst hp
    simp [h]
    omega
  · have : ¬ ([p] : Ix) = [i + 1] := by simp [hp]
    rw [if_neg this]
    by_cases hq : 1 ≤ p ∧ p ≤ 18 ∧ p ≤ i ∧ okS (L [p - 1]) (V [p - 1]) = true
    · rw [if_pos hq, if_pos ⟨hq.1, hq.2.1, by omega, hq.2.2.2⟩]
    · rw [if_neg hq, if_neg fun hh => hq ⟨hh.1, hh.2.1, by omega, hh.2.2.2⟩]
theorem hl_no {L V : Ix → Int} {i : Nat} (h : 18 ≤ i ∨ okS (L [i]) (V [i]) = false) (W : Ix → Int) (p : Nat) : hlG (i + 1) L V W [p] = hlG i L V W [p] := by
  simp only [hlG]
  by_cases hq : 1 ≤ p ∧ p ≤ 18 ∧ p ≤ i ∧ okS (L [p - 1]) (V [p - 1]) = true
  · rw [if_pos hq, if_pos ⟨hq.1, hq.2.1, by omega, hq.2.2.2⟩]
  · rw [if_neg hq, if_neg fun hh => hq ⟨hh.1, hh.2.1, ?_, hh.2.2.2⟩]
    have := hh.2.2.1
    by_cases hp : p = i + 1
    · subst hp
      rcases h with h | h
      · omega
      · rw [show i + 1 - 1 = i by omega, h] at hh; cases hh.2.2.2
    · omega
theorem hl_all {L V : Ix → Int} {i N : Nat} (h : 18 ≤ i) (hi : i ≤ N) (W : Ix → Int) (p : Nat) : hlG i L V W [p] = hlG N L V W [p] := by
  simp only [hlG]
  by_cases hq : 1 ≤ p ∧ p ≤ 18 ∧ p ≤ i ∧ okS (L [p - 1]) (V [p - 1]) = true
  · rw [if_pos hq, if_pos ⟨hq.1, hq.2.1, by omega, hq.2.2.2⟩]
  · rw [if_neg hq, if_neg fun hh => hq ⟨hh.1, hh.2.1, by omega, hh.2.2.2⟩]
theorem hl_zero {L V : Ix → Int} (W : Ix → Int) (p : Nat) : hlG 0 L V W [p] = 0 := by
  simp only [hlG]
  split
  · omega
  · rfl

def nwI (p N i : Nat) : List (Nat × SV) := [(3, vP p), (8, setV 60 N), (9, vN N), (10, vN i)]
def nwR (p N i : Nat) : List (Nat × SV) := [(0, setV 60 N), (3, vP p), (4, vN i)]
def stE (p N i : Nat) : List (Nat × SV) := [(3, .v (.vl p (fun _ => 0) 2 [] (fun _ => i))), (7, setV 60 N), (8, vN N), (9, vN i)]
def rowO (p n : Nat) (L V : Ix → Int) : List Ent := [⟨p, true, none, 2, .ta n (.tc (.vi .i64 L) (.tc (.vi .i64 V) .t0))⟩]

theorem nw0I_p0 (N : Nat) (L V : Ix → Int) :
    isMore (evTill Tryd.prog sumsF 100 (behind Tryd.f30 0) 900 30 [.code (bodyOf Tryd.f30)] (envOf [setV 60 N] Tryd.f30.ntmps) (setE 60 N L V ++ []) ⟨[], 80⟩) (moreP (headOf Tryd.f30 0) ([((85 : Nat), Rn.to (80 : Nat))]) Tryd.f30.ntmps (nwI 85 N 0) (sideE 85 zI zI (hlG 0 L V L) (hlG 0 L V V) zB) 120) =
    (OkL [] ∧ headOf Tryd.f30 (0 : Nat) = headOf Tryd.f30 (0 : Nat) ∧ ((0 : Nat) = (0 : Nat) ∧ ((0 : Nat) = (0 : Nat) ∧ N = N) ∧ (↑N : Int) = (↑N : Int) ∧ (↑(0 : Nat) : Int) = (0 : Int)) ∧ (19 : Nat) = (19 : Nat) ∧ ((∀ (i : Nat), i < (19 : Nat) → zI [i] = (0 : Int)) ∧ ∀ (i : Nat), i < (19 : Nat) → zI [i] = (0 : Int)) ∧ ((∀ (i : Nat), i < (19 : Nat) → hlG (0 : Nat) L V L [i] = (0 : Int)) ∧ ∀ (i : Nat), i < (19 : Nat) → hlG (0 : Nat) L V V [i] = (0 : Int)) ∧ ∀ (i : Nat), i < (19 : Nat) → zB [i] = false) := by kernel_rfl

set_option maxHeartbeats 4000000 in
theorem nw0I (N : Nat) (L V : Ix → Int) (v : SV) (L' : HF) (next : RunsTo Tryd.prog 30 (headOf Tryd.f30 0) (envAt Tryd.f30.ntmps (nwI 85 N 0)) (Sx.look (setE 60 N L V ++ sideE 85 zI zI (hlG 0 L V L) (hlG 0 L V V) zB)) 80 v L' 120) :
    RunsTo Tryd.prog 30 [.code (bodyOf Tryd.f30)] (envOf [setV 60 N] Tryd.f30.ntmps) (Sx.look (setE 60 N L V ++ [])) 80 v L' 120 := by
  refine runs_more baseF (More.of (nw0I_p0 N L V) ⟨okn, rfl, ?_⟩) (by kernel_rfl) (by kernel_rfl) rfl (gtL (by decide)) (by decide) next
  clear next
  simp [hl_zero, zI, zB]

theorem nwNI_p0 (N : Nat) (L V : Ix → Int) (i : Nat) :
    isMore (evTill Tryd.prog sumsF 100 (behind Tryd.f30 0) 900 30 (headOf Tryd.f30 0) (envAt Tryd.f30.ntmps (nwI 85 N i)) (setE 60 N L V ++ sideE 85 zI zI (hlG i L V L) (hlG i L V V) zB) ⟨[.s true, .s true, .s true, .s true, .s false], 90⟩) (moreP (headOf Tryd.f30 0) ([]) Tryd.f30.ntmps (nwI 85 N (i + 1)) (sideE 85 zI zI (hlG (i + 1) L V L) (hlG (i + 1) L V V) zB) 120) =
    (OkL [(decide ((↑i : Int) < (↑N : Int)), true), (decide ((0 : Int) ≤ (↑i : Int) ∧ (↑i : Int) < (↑N : Int)), true), (((0 : Nat) + (↑i : Int).toNat).blt N, true), (((0 : Nat) + (↑i : Int).toNat).blt N, true), (decide ((↑i : Int) < (18 : Int)), false)] ∧ headOf Tryd.f30 (0 : Nat) = headOf Tryd.f30 (0 : Nat) ∧ ((0 : Nat) = (0 : Nat) ∧ ((0 : Nat) = (0 : Nat) ∧ N = N) ∧ (↑N : Int) = (↑N : Int) ∧ (↑(i + (1 : Nat)) : Int) = IntKind.i64.wrap ((↑i : Int) + (1 : Int))) ∧ (19 : Nat) = (19 : Nat) ∧ ((∀ (i : Nat), i < (19 : Nat) → zI [i] = zI [i]) ∧ ∀ (i : Nat), i < (19 : Nat) → zI [i] = zI [i]) ∧ ((∀ (i_1 : Nat), i_1 < (19 : Nat) → hlG (i + (1 : Nat)) L V L [i_1] = hlG i L V L [i_1]) ∧ ∀ (i_1 : Nat), i_1 < (19 : Nat) → hlG (i + (1 : Nat)) L V V [i_1] = hlG i L V V [i_1]) ∧ ∀ (i : Nat), i < (19 : Nat) → zB [i] = zB [i]) := by kernel_rfl
theorem nwNI_p1 (N : Nat) (L V : Ix → Int) (i : Nat) :
    isMore (evTill Tryd.prog sumsF 100 (behind Tryd.f30 0) 900 30 (headOf Tryd.f30 0) (envAt Tryd.f30.ntmps (nwI 85 N i)) (setE 60 N L V ++ sideE 85 zI zI (hlG i L V L) (hlG i L V V) zB) ⟨[.s true, .s true, .s true, .s true, .s true, .t, .s false], 90⟩) (moreP (headOf Tryd.f30 0) ([]) Tryd.f30.ntmps (nwI 85 N (i + 1)) (sideE 85 zI zI (hlG (i + 1) L V L) (hlG (i + 1) L V V) zB) 120) =
    (OkL [(decide ((↑i : Int) < (↑N : Int)), true), (decide ((0 : Int) ≤ (↑i : Int) ∧ (↑i : Int) < (↑N : Int)), true), (((0 : Nat) + (↑i : Int).toNat).blt N, true), (((0 : Nat) + (↑i : Int).toNat).blt N, true), (decide ((↑i : Int) < (18 : Int)), true), (fineB (L [(0 : Nat) + (↑i : Int).toNat]) (V [(0 : Nat) + (↑i : Int).toNat]), false)] ∧ headOf Tryd.f30 (0 : Nat) = headOf Tryd.f30 (0 : Nat) ∧ ((0 : Nat) = (0 : Nat) ∧ ((0 : Nat) = (0 : Nat) ∧ N = N) ∧ (↑N : Int) = (↑N : Int) ∧ (↑(i + (1 : Nat)) : Int) = IntKind.i64.wrap ((↑i : Int) + (1 : Int))) ∧ (19 : Nat) = (19 : Nat) ∧ ((∀ (i : Nat), i < (19 : Nat) → zI [i] = zI [i]) ∧ ∀ (i : Nat), i < (19 : Nat) → zI [i] = zI [i]) ∧ ((∀ (i_1 : Nat), i_1 < (19 : Nat) → hlG (i + (1 : Nat)) L V L [i_1] = hlG i L V L [i_1]) ∧ ∀ (i_1 : Nat), i_1 < (19 : Nat) → hlG (i + (1 : Nat)) L V V [i_1] = hlG i L V V [i_1]) ∧ ∀ (i : Nat), i < (19 : Nat) → zB [i] = zB [i]) := by kernel_rfl
theorem nwNI_p2 (N : Nat) (L V : Ix → Int) (i : Nat) :
    isMore (evTill Tryd.prog sumsF 100 (behind Tryd.f30 0) 900 30 (headOf Tryd.f30 0) (envAt Tryd.f30.ntmps (nwI 85 N i)) (setE 60 N L V ++ sideE 85 zI zI (hlG i L V L) (hlG i L V V) zB) ⟨[.s true, .s true, .s true, .s true, .s true, .t, .s true, .s false], 90⟩) (moreP (headOf Tryd.f30 0) ([]) Tryd.f30.ntmps (nwI 85 N (i + 1)) (sideE 85 zI zI (hlG (i + 1) L V L) (hlG (i + 1) L V V) zB) 120) =
    (OkL [(decide ((↑i : Int) < (↑N : Int)), true), (decide ((0 : Int) ≤ (↑i : Int) ∧ (↑i : Int) < (↑N : Int)), true), (((0 : Nat) + (↑i : Int).toNat).blt N, true), (((0 : Nat) + (↑i : Int).toNat).blt N, true), (decide ((↑i : Int) < (18 : Int)), true), (fineB (L [(0 : Nat) + (↑i : Int).toNat]) (V [(0 : Nat) + (↑i : Int).toNat]), true), (L [(0 : Nat) + (↑i : Int).toNat] != (3 : Int), false)] ∧ headOf Tryd.f30 (0 : Nat) = headOf Tryd.f30 (0 : Nat) ∧ ((0 : Nat) = (0 : Nat) ∧ ((0 : Nat) = (0 : Nat) ∧ N = N) ∧ (↑N : Int) = (↑N : Int) ∧ (↑(i + (1 : Nat)) : Int) = IntKind.i64.wrap ((↑i : Int) + (1 : Int))) ∧ (19 : Nat) = (19 : Nat) ∧ ((∀ (i : Nat), i < (19 : Nat) → zI [i] = zI [i]) ∧ ∀ (i : Nat), i < (19 : Nat) → zI [i] = zI [i]) ∧ ((∀ (i_1 : Nat), i_1 < (19 : Nat) → hlG (i + (1 : Nat)) L V L [i_1] = hlG i L V L [i_1]) ∧ ∀ (i_1 : Nat), i_1 < (19 : Nat) → hlG (i + (1 : Nat)) L V V [i_1] = hlG i L V V [i_1]) ∧ ∀ (i : Nat), i < (19 : Nat) → zB [i] = zB [i]) := by kernel_rfl
theorem nwNI_p3 (N : Nat) (L V : Ix → Int) (i : Nat) :
    isMore (evTill Tryd.prog sumsF 100 (behind Tryd.f30 0) 900 30 (headOf Tryd.f30 0) (envAt Tryd.f30.ntmps (nwI 85 N i)) (setE 60 N L V ++ sideE 85 zI zI (hlG i L V L) (hlG i L V V) zB) ⟨[.s true, .s true, .s true, .s true, .s true, .t, .s true, .s true, .s true, .s true], 90⟩) (moreP (headOf Tryd.f30 0) ([]) Tryd.f30.ntmps (nwI 85 N (i + 1)) (sideE 85 zI zI (hlG (i + 1) L V L) (hlG (i + 1) L V V) zB) 120) =
    (OkL [(decide ((↑i : Int) < (↑N : Int)), true), (decide ((0 : Int) ≤ (↑i : Int) ∧ (↑i : Int) < (↑N : Int)), true), (((0 : Nat) + (↑i : Int).toNat).blt N, true), (((0 : Nat) + (↑i : Int).toNat).blt N, true), (decide ((↑i : Int) < (18 : Int)), true), (fineB (L [(0 : Nat) + (↑i : Int).toNat]) (V [(0 : Nat) + (↑i : Int).toNat]), true), (L [(0 : Nat) + (↑i : Int).toNat] != (3 : Int), true), (decide ((0 : Int) ≤ IntKind.i64.wrap ((↑i : Int) + (1 : Int)) ∧ IntKind.i64.wrap ((↑i : Int) + (1 : Int)) < (↑(19 : Nat) : Int)), true), ((IntKind.i64.wrap ((↑i : Int) + (1 : Int))).toNat.blt (19 : Nat), true)] ∧ headOf Tryd.f30 (0 : Nat) = headOf Tryd.f30 (0 : Nat) ∧ ((0 : Nat) = (0 : Nat) ∧ ((0 : Nat) = (0 : Nat) ∧ N = N) ∧ (↑N : Int) = (↑N : Int) ∧ (↑(i + (1 : Nat)) : Int) = IntKind.i64.wrap ((↑i : Int) + (1 : Int))) ∧ (19 : Nat) = (19 : Nat) ∧ ((∀ (i : Nat), i < (19 : Nat) → zI [i] = zI [i]) ∧ ∀ (i : Nat), i < (19 : Nat) → zI [i] = zI [i]) ∧ ((∀ (i_1 : Nat), i_1 < (19 : Nat) → hlG (i + (1 : Nat)) L V L [i_1] = upd (hlG i L V L) [(IntKind.i64.wrap ((↑i : Int) + (1 : Int))).toNat] (L [(0 : Nat) + (↑i : Int).toNat]) [i_1]) ∧ ∀ (i_1 : Nat), i_1 < (19 : Nat) → hlG (i + (1 : Nat)) L V V [i_1] = upd (hlG i L V V) [(IntKind.i64.wrap ((↑i : Int) + (1 : Int))).toNat] (V [(0 : Nat) + (↑i : Int).toNat]) [i_1]) ∧ ∀ (i : Nat), i < (19 : Nat) → zB [i] = zB [i]) := by kernel_rfl

set_option maxHeartbeats 4000000 in
theorem nwNI (N : Nat) (L V : Ix → Int) (i : Nat) (hi : i < N) (hN : N ≤ 100) (v : SV) (L' : HF) (next : RunsTo Tryd.prog 30 (headOf Tryd.f30 0) (envAt Tryd.f30.ntmps (nwI 85 N (i + 1))) (Sx.look (setE 60 N L V ++ sideE 85 zI zI (hlG (i + 1) L V L) (hlG (i + 1) L V V) zB)) 80 v L' 120) :
    RunsTo Tryd.prog 30 (headOf Tryd.f30 0) (envAt Tryd.f30.ntmps (nwI 85 N i)) (Sx.look (setE 60 N L V ++ sideE 85 zI zI (hlG i L V L) (hlG i L V V) zB)) 80 v L' 120 := by
  have gg0 : (decide ((↑i : Int) < (↑N : Int))) = true := by clear next; first | (simp (disch := omega) only [dT, dF, nltT, nltF, nleT, nleF, neqT, neqF, ieqT, ieqF, ineT, ineF, notT, notF, andT, andF, orT, orF, wr64s, Int.toNat_natCast, Nat.zero_add, Nat.add_zero] at *; omega) | (simp (disch := omega) only [dT, dF, nltT, nltF, nleT, nleF, neqT, neqF, ieqT, ieqF, ineT, ineF, notT, notF, andT, andF, orT, orF, wr64s, Int.toNat_natCast, Nat.zero_add, Nat.add_zero] at *; done) | (simp_all; done)
  have gg1 : (decide ((0 : Int) ≤ (↑i : Int) ∧ (↑i : Int) < (↑N : Int))) = true := by clear next; first | (simp (disch := omega) only [dT, dF, nltT, nltF, nleT, nleF, neqT, neqF, ieqT, ieqF, ineT, ineF, notT, notF, andT, andF, orT, orF, wr64s, Int.toNat_natCast, Nat.zero_add, Nat.add_zero] at *; omega) | (simp (disch := omega) only [dT, dF, nltT, nltF, nleT, nleF, neqT, neqF, ieqT, ieqF, ineT, ineF, notT, notF, andT, andF, orT, orF, wr64s, Int.toNat_natCast, Nat.zero_add, Nat.add_zero] at *; done) | (simp_all; done)
  have gg2 : (((0 : Nat) + (↑i : Int).toNat).blt N) = true := by clear next; first | (simp (disch := omega) only [dT, dF, nltT, nltF, nleT, nleF, neqT, neqF, ieqT, ieqF, ineT, ineF, notT, notF, andT, andF, orT, orF, wr64s, Int.toNat_natCast, Nat.zero_add, Nat.add_zero] at *; omega) | (simp (disch := omega) only [dT, dF, nltT, nltF, nleT, nleF, neqT, neqF, ieqT, ieqF, ineT, ineF, notT, notF, andT, andF, orT, orF, wr64s, Int.toNat_natCast, Nat.zero_add, Nat.add_zero] at *; done) | (simp_all; done)
  refine bcase (c := (decide ((↑i : Int) < (18 : Int)))) (fun gg3 => ?_) (fun gg3 => ?_)
  · refine runs_more baseF (More.of (nwNI_p0 N L V i) ⟨(okc gg0 (okc gg1 (okc gg2 (okc gg2 (okc gg3 okn))))), rfl, ?_⟩) (by kernel_rfl) (by kernel_rfl) rfl (gtL (by decide)) (by decide) next
    clear next
    have hw : IntKind.i64.wrap ((i : Int) + 1) = ((i + 1 : Nat) : Int) := by rw [wr64 (by omega)]; rfl
    have hw2 : (((i : Nat) : Int) + 1).toNat = i + 1 := by omega
    simp only [dT, dF, nltT, nltF, nleT, nleF, neqT, neqF, ieqT, ieqF, ineT, ineF, notT, notF, andT, andF, orT, orF, Int.toNat_natCast, Nat.zero_add, hw, hw2] at *
    repeat' apply And.intro
    all_goals first | trivial | rfl | exact hw.symm | (intro p _; first | rfl | exact hl_yes (by omega) (okS_yes (by assumption) (by omega)) _ p | exact hl_no (Or.inl (by omega)) _ p | exact hl_no (Or.inr (okS_no (by assumption) (by omega))) _ p | exact hl_no (Or.inr (okS_bad (by assumption))) _ p | exact hl_yes (by omega) (by simp [okS, *]) _ p | exact hl_no (by simp [okS, *]) _ p)
  · refine bcase (c := (fineB (L [(0 : Nat) + (↑i : Int).toNat]) (V [(0 : Nat) + (↑i : Int).toNat]))) (fun gg4 => ?_) (fun gg4 => ?_)
    · refine runs_more baseF (More.of (nwNI_p1 N L V i) ⟨(okc gg0 (okc gg1 (okc gg2 (okc gg2 (okc gg3 (okc gg4 okn)))))), rfl, ?_⟩) (by kernel_rfl) (by kernel_rfl) rfl (gtL (by decide)) (by decide) next
      clear next
      have hw : IntKind.i64.wrap ((i : Int) + 1) = ((i + 1 : Nat) : Int) := by rw [wr64 (by omega)]; rfl
      have hw2 : (((i : Nat) : Int) + 1).toNat = i + 1 := by omega
      simp only [dT, dF, nltT, nltF, nleT, nleF, neqT, neqF, ieqT, ieqF, ineT, ineF, notT, notF, andT, andF, orT, orF, Int.toNat_natCast, Nat.zero_add, hw, hw2] at *
      repeat' apply And.intro
      all_goals first | trivial | rfl | exact hw.symm | (intro p _; first | rfl | exact hl_yes (by omega) (okS_yes (by assumption) (by omega)) _ p | exact hl_no (Or.inl (by omega)) _ p | exact hl_no (Or.inr (okS_no (by assumption) (by omega))) _ p | exact hl_no (Or.inr (okS_bad (by assumption))) _ p | exact hl_yes (by omega) (by simp [okS, *]) _ p | exact hl_no (by simp [okS, *]) _ p)
    · refine bcase (c := (L [(0 : Nat) + (↑i : Int).toNat] != (3 : Int))) (fun gg5 => ?_) (fun gg5 => ?_)
      · refine runs_more baseF (More.of (nwNI_p2 N L V i) ⟨(okc gg0 (okc gg1 (okc gg2 (okc gg2 (okc gg3 (okc gg4 (okc gg5 okn))))))), rfl, ?_⟩) (by kernel_rfl) (by kernel_rfl) rfl (gtL (by decide)) (by decide) next
        clear next
        have hw : IntKind.i64.wrap ((i : Int) + 1) = ((i + 1 : Nat) : Int) := by rw [wr64 (by omega)]; rfl
        have hw2 : (((i : Nat) : Int) + 1).toNat = i + 1 := by omega
        simp only [dT, dF, nltT, nltF, nleT, nleF, neqT, neqF, ieqT, ieqF, ineT, ineF, notT, notF, andT, andF, orT, orF, Int.toNat_natCast, Nat.zero_add, hw, hw2] at *
        repeat' apply And.intro
        all_goals first | trivial | rfl | exact hw.symm | (intro p _; first | rfl | exact hl_yes (by omega) (okS_yes (by assumption) (by omega)) _ p | exact hl_no (Or.inl (by omega)) _ p | exact hl_no (Or.inr (okS_no (by assumption) (by omega))) _ p | exact hl_no (Or.inr (okS_bad (by assumption))) _ p | exact hl_yes (by omega) (by simp [okS, *]) _ p | exact hl_no (by simp [okS, *]) _ p)
      · have gg6 : (decide ((0 : Int) ≤ IntKind.i64.wrap ((↑i : Int) + (1 : Int)) ∧ IntKind.i64.wrap ((↑i : Int) + (1 : Int)) < (↑(19 : Nat) : Int))) = true := by clear next; first | (simp (disch := omega) only [dT, dF, nltT, nltF, nleT, nleF, neqT, neqF, ieqT, ieqF, ineT, ineF, notT, notF, andT, andF, orT, orF, wr64s, Int.toNat_natCast, Nat.zero_add, Nat.add_zero] at *; omega) | (simp (disch := omega) only [dT, dF, nltT, nltF, nleT, nleF, neqT, neqF, ieqT, ieqF, ineT, ineF, notT, notF, andT, andF, orT, orF, wr64s, Int.toNat_natCast, Nat.zero_add, Nat.add_zero] at *; done) | (simp_all; done)
        have gg7 : ((IntKind.i64.wrap ((↑i : Int) + (1 : Int))).toNat.blt (19 : Nat)) = true := by clear next; first | (simp (disch := omega) only [dT, dF, nltT, nltF, nleT, nleF, neqT, neqF, ieqT, ieqF, ineT, ineF, notT, notF, andT, andF, orT, orF, wr64s, Int.toNat_natCast, Nat.zero_add, Nat.add_zero] at *; omega) | (simp (disch := omega) only [dT, dF, nltT, nltF, nleT, nleF, neqT, neqF, ieqT, ieqF, ineT, ineF, notT, notF, andT, andF, orT, orF, wr64s, Int.toNat_natCast, Nat.zero_add, Nat.add_zero] at *; done) | (simp_all; done)
        refine runs_more baseF (More.of (nwNI_p3 N L V i) ⟨(okc gg0 (okc gg1 (okc gg2 (okc gg2 (okc gg3 (okc gg4 (okc gg5 (okc gg6 (okc gg7 okn))))))))), rfl, ?_⟩) (by kernel_rfl) (by kernel_rfl) rfl (gtL (by decide)) (by decide) next
        clear next
        have hw : IntKind.i64.wrap ((i : Int) + 1) = ((i + 1 : Nat) : Int) := by rw [wr64 (by omega)]; rfl
        have hw2 : (((i : Nat) : Int) + 1).toNat = i + 1 := by omega
        simp only [dT, dF, nltT, nltF, nleT, nleF, neqT, neqF, ieqT, ieqF, ineT, ineF, notT, notF, andT, andF, orT, orF, Int.toNat_natCast, Nat.zero_add, hw, hw2] at *
        repeat' apply And.intro
        all_goals first | trivial | rfl | exact hw.symm | (intro p _; first | rfl | exact hl_yes (by omega) (okS_yes (by assumption) (by omega)) _ p | exact hl_no (Or.inl (by omega)) _ p | exact hl_no (Or.inr (okS_no (by assumption) (by omega))) _ p | exact hl_no (Or.inr (okS_bad (by assumption))) _ p | exact hl_yes (by omega) (by simp [okS, *]) _ p | exact hl_no (by simp [okS, *]) _ p)

theorem nwEI_p0 (N : Nat) (L V : Ix → Int) (i : Nat) :
    isEnd (evTill Tryd.prog sumsF 100 (behind Tryd.f30 0) 900 30 (headOf Tryd.f30 0) (envAt Tryd.f30.ntmps (nwI 85 N i)) (setE 60 N L V ++ sideE 85 zI zI (hlG i L V L) (hlG i L V V) zB) ⟨[.s false], 90⟩) (endP ([((101 : Nat), Rn.to (85 : Nat))]) (vP 101) (sideE 101 zI zI (hlG N L V L) (hlG N L V V) zB) 120) =
    (OkL [(decide ((↑i : Int) < (↑N : Int)), false)] ∧ (0 : Nat) = (0 : Nat) ∧ (19 : Nat) = (19 : Nat) ∧ ((∀ (i : Nat), i < (19 : Nat) → zI [i] = zI [i]) ∧ ∀ (i : Nat), i < (19 : Nat) → zI [i] = zI [i]) ∧ ((∀ (i_1 : Nat), i_1 < (19 : Nat) → hlG N L V L [i_1] = hlG i L V L [i_1]) ∧ ∀ (i_1 : Nat), i_1 < (19 : Nat) → hlG N L V V [i_1] = hlG i L V V [i_1]) ∧ ∀ (i : Nat), i < (19 : Nat) → zB [i] = zB [i]) := by kernel_rfl

set_option maxHeartbeats 4000000 in
theorem nwEI (N : Nat) (L V : Ix → Int) (i : Nat) (hi : i ≤ N) (he : i = N) (hN : N ≤ 100) :
    RunsTo Tryd.prog 30 (headOf Tryd.f30 0) (envAt Tryd.f30.ntmps (nwI 85 N i)) (Sx.look (setE 60 N L V ++ sideE 85 zI zI (hlG i L V L) (hlG i L V V) zB)) 80 (vP 101) (Sx.look (sideE 101 zI zI (hlG N L V L) (hlG N L V V) zB)) 120 := by
  have gg0 : (decide ((↑i : Int) < (↑N : Int))) = false := by first | (simp (disch := omega) only [dT, dF, nltT, nltF, nleT, nleF, neqT, neqF, ieqT, ieqF, ineT, ineF, notT, notF, andT, andF, orT, orF, wr64s, Int.toNat_natCast, Nat.zero_add, Nat.add_zero] at *; omega) | (simp (disch := omega) only [dT, dF, nltT, nltF, nleT, nleF, neqT, neqF, ieqT, ieqF, ineT, ineF, notT, notF, andT, andF, orT, orF, wr64s, Int.toNat_natCast, Nat.zero_add, Nat.add_zero] at *; done) | (simp_all; done)
  refine runs_last baseF (Sx.Ends.of (nwEI_p0 N L V i) ⟨(okc gg0 okn), ?_⟩) (by kernel_rfl) rfl (gtL (by decide)) (by decide)
  simp only [dT, dF, nltT, nltF, nleT, nleF, neqT, neqF, ieqT, ieqF, ineT, ineF, notT, notF, andT, andF, orT, orF] at *
  repeat' apply And.intro
  all_goals first | trivial | rfl | (intro p _; first | rfl | (have h1 : i = N := (by omega); subst h1; rfl) | exact (hl_all (by omega) (by omega) _ p).symm)

theorem nw0R_p0 (N : Nat) (L V : Ix → Int) :
    isMore (evTill Tryd.prog sumsF 100 (behind Tryd.f40 0) 900 40 [.code (bodyOf Tryd.f40)] (envOf [setV 60 N] Tryd.f40.ntmps) (setE 60 N L V ++ []) ⟨[], 80⟩) (moreP (headOf Tryd.f40 0) ([((85 : Nat), Rn.to (80 : Nat))]) Tryd.f40.ntmps (nwR 85 N 0) (refE 85 zI zI (hlG 0 L V L) (hlG 0 L V V) zB) 120) =
    (OkL [] ∧ headOf Tryd.f40 (0 : Nat) = headOf Tryd.f40 (0 : Nat) ∧ (((0 : Nat) = (0 : Nat) ∧ N = N) ∧ (0 : Nat) = (0 : Nat) ∧ (↑(0 : Nat) : Int) = (0 : Int)) ∧ ((19 : Nat) = (19 : Nat) ∧ (∀ (i : Nat), i < (19 : Nat) → zI [i] = (0 : Int)) ∧ ∀ (i : Nat), i < (19 : Nat) → zI [i] = (0 : Int)) ∧ ((19 : Nat) = (19 : Nat) ∧ (∀ (i : Nat), i < (19 : Nat) → hlG (0 : Nat) L V L [i] = (0 : Int)) ∧ ∀ (i : Nat), i < (19 : Nat) → hlG (0 : Nat) L V V [i] = (0 : Int)) ∧ (19 : Nat) = (19 : Nat) ∧ ∀ (i : Nat), i < (19 : Nat) → zB [i] = false) := by kernel_rfl

set_option maxHeartbeats 4000000 in
theorem nw0R (N : Nat) (L V : Ix → Int) (v : SV) (L' : HF) (next : RunsTo Tryd.prog 40 (headOf Tryd.f40 0) (envAt Tryd.f40.ntmps (nwR 85 N 0)) (Sx.look (setE 60 N L V ++ refE 85 zI zI (hlG 0 L V L) (hlG 0 L V V) zB)) 80 v L' 120) :
    RunsTo Tryd.prog 40 [.code (bodyOf Tryd.f40)] (envOf [setV 60 N] Tryd.f40.ntmps) (Sx.look (setE 60 N L V ++ [])) 80 v L' 120 := by
  refine runs_more baseF (More.of (nw0R_p0 N L V) ⟨okn, rfl, ?_⟩) (by kernel_rfl) (by kernel_rfl) rfl (gtL (by decide)) (by decide) next
  clear next
  simp [hl_zero, zI, zB]

theorem nwNR_p0 (N : Nat) (L V : Ix → Int) (i : Nat) :
    isMore (evTill Tryd.prog sumsF 100 (behind Tryd.f40 0) 900 40 (headOf Tryd.f40 0) (envAt Tryd.f40.ntmps (nwR 85 N i)) (setE 60 N L V ++ refE 85 zI zI (hlG i L V L) (hlG i L V V) zB) ⟨[.s true, .s true, .s true, .s true, .s true, .t, .s false], 90⟩) (moreP (headOf Tryd.f40 0) ([]) Tryd.f40.ntmps (nwR 85 N (i + 1)) (refE 85 zI zI (hlG (i + 1) L V L) (hlG (i + 1) L V V) zB) 120) =
    (OkL [(decide ((↑i : Int) < (↑N : Int)), true), (decide ((↑i : Int) < (18 : Int)), true), (decide ((0 : Int) ≤ (↑i : Int) ∧ (↑i : Int) < (↑N : Int)), true), (((0 : Nat) + (↑i : Int).toNat).blt N, true), (((0 : Nat) + (↑i : Int).toNat).blt N, true), (fineB (L [(0 : Nat) + (↑i : Int).toNat]) (V [(0 : Nat) + (↑i : Int).toNat]), false)] ∧ headOf Tryd.f40 (0 : Nat) = headOf Tryd.f40 (0 : Nat) ∧ (((0 : Nat) = (0 : Nat) ∧ N = N) ∧ (0 : Nat) = (0 : Nat) ∧ (↑(i + (1 : Nat)) : Int) = IntKind.i64.wrap ((↑i : Int) + (1 : Int))) ∧ ((19 : Nat) = (19 : Nat) ∧ (∀ (i : Nat), i < (19 : Nat) → zI [i] = zI [i]) ∧ ∀ (i : Nat), i < (19 : Nat) → zI [i] = zI [i]) ∧ ((19 : Nat) = (19 : Nat) ∧ (∀ (i_1 : Nat), i_1 < (19 : Nat) → hlG (i + (1 : Nat)) L V L [i_1] = hlG i L V L [i_1]) ∧ ∀ (i_1 : Nat), i_1 < (19 : Nat) → hlG (i + (1 : Nat)) L V V [i_1] = hlG i L V V [i_1]) ∧ (19 : Nat) = (19 : Nat) ∧ ∀ (i : Nat), i < (19 : Nat) → zB [i] = zB [i]) := by kernel_rfl
theorem nwNR_p1 (N : Nat) (L V : Ix → Int) (i : Nat) :
    isMore (evTill Tryd.prog sumsF 100 (behind Tryd.f40 0) 900 40 (headOf Tryd.f40 0) (envAt Tryd.f40.ntmps (nwR 85 N i)) (setE 60 N L V ++ refE 85 zI zI (hlG i L V L) (hlG i L V V) zB) ⟨[.s true, .s true, .s true, .s true, .s true, .t, .s true, .s true, .s true, .s true, .s false], 90⟩) (moreP (headOf Tryd.f40 0) ([]) Tryd.f40.ntmps (nwR 85 N (i + 1)) (refE 85 zI zI (hlG (i + 1) L V L) (hlG (i + 1) L V V) zB) 120) =
    (OkL [(decide ((↑i : Int) < (↑N : Int)), true), (decide ((↑i : Int) < (18 : Int)), true), (decide ((0 : Int) ≤ (↑i : Int) ∧ (↑i : Int) < (↑N : Int)), true), (((0 : Nat) + (↑i : Int).toNat).blt N, true), (((0 : Nat) + (↑i : Int).toNat).blt N, true), (fineB (L [(0 : Nat) + (↑i : Int).toNat]) (V [(0 : Nat) + (↑i : Int).toNat]), true), (decide ((0 : Int) ≤ (↑i : Int) ∧ (↑i : Int) < (↑N : Int)), true), (((0 : Nat) + (↑i : Int).toNat).blt N, true), (((0 : Nat) + (↑i : Int).toNat).blt N, true), (decide (L [(0 : Nat) + (↑i : Int).toNat] < (3 : Int)), false)] ∧ headOf Tryd.f40 (0 : Nat) = headOf Tryd.f40 (0 : Nat) ∧ (((0 : Nat) = (0 : Nat) ∧ N = N) ∧ (0 : Nat) = (0 : Nat) ∧ (↑(i + (1 : Nat)) : Int) = IntKind.i64.wrap ((↑i : Int) + (1 : Int))) ∧ ((19 : Nat) = (19 : Nat) ∧ (∀ (i : Nat), i < (19 : Nat) → zI [i] = zI [i]) ∧ ∀ (i : Nat), i < (19 : Nat) → zI [i] = zI [i]) ∧ ((19 : Nat) = (19 : Nat) ∧ (∀ (i_1 : Nat), i_1 < (19 : Nat) → hlG (i + (1 : Nat)) L V L [i_1] = hlG i L V L [i_1]) ∧ ∀ (i_1 : Nat), i_1 < (19 : Nat) → hlG (i + (1 : Nat)) L V V [i_1] = hlG i L V V [i_1]) ∧ (19 : Nat) = (19 : Nat) ∧ ∀ (i : Nat), i < (19 : Nat) → zB [i] = zB [i]) := by kernel_rfl
theorem nwNR_p2 (N : Nat) (L V : Ix → Int) (i : Nat) :
    isMore (evTill Tryd.prog sumsF 100 (behind Tryd.f40 0) 900 40 (headOf Tryd.f40 0) (envAt Tryd.f40.ntmps (nwR 85 N i)) (setE 60 N L V ++ refE 85 zI zI (hlG i L V L) (hlG i L V V) zB) ⟨[.s true, .s true, .s true, .s true, .s true, .t, .s true, .s true, .s true, .s true, .s true, .s true, .s true, .s true, .s true, .s true], 90⟩) (moreP (headOf Tryd.f40 0) ([]) Tryd.f40.ntmps (nwR 85 N (i + 1)) (refE 85 zI zI (hlG (i + 1) L V L) (hlG (i + 1) L V V) zB) 120) =
    (OkL [(decide ((↑i : Int) < (↑N : Int)), true), (decide ((↑i : Int) < (18 : Int)), true), (decide ((0 : Int) ≤ (↑i : Int) ∧ (↑i : Int) < (↑N : Int)), true), (((0 : Nat) + (↑i : Int).toNat).blt N, true), (((0 : Nat) + (↑i : Int).toNat).blt N, true), (fineB (L [(0 : Nat) + (↑i : Int).toNat]) (V [(0 : Nat) + (↑i : Int).toNat]), true), (decide ((0 : Int) ≤ (↑i : Int) ∧ (↑i : Int) < (↑N : Int)), true), (((0 : Nat) + (↑i : Int).toNat).blt N, true), (((0 : Nat) + (↑i : Int).toNat).blt N, true), (decide (L [(0 : Nat) + (↑i : Int).toNat] < (3 : Int)), true), (decide ((0 : Int) ≤ (↑i : Int) ∧ (↑i : Int) < (↑N : Int)), true), (((0 : Nat) + (↑i : Int).toNat).blt N, true), (((0 : Nat) + (↑i : Int).toNat).blt N, true), (decide ((0 : Int) ≤ IntKind.i64.wrap ((↑i : Int) + (1 : Int)) ∧ IntKind.i64.wrap ((↑i : Int) + (1 : Int)) < (↑(19 : Nat) : Int)), true), ((IntKind.i64.wrap ((↑i : Int) + (1 : Int))).toNat.blt (19 : Nat), true)] ∧ headOf Tryd.f40 (0 : Nat) = headOf Tryd.f40 (0 : Nat) ∧ (((0 : Nat) = (0 : Nat) ∧ N = N) ∧ (0 : Nat) = (0 : Nat) ∧ (↑(i + (1 : Nat)) : Int) = IntKind.i64.wrap ((↑i : Int) + (1 : Int))) ∧ ((19 : Nat) = (19 : Nat) ∧ (∀ (i : Nat), i < (19 : Nat) → zI [i] = zI [i]) ∧ ∀ (i : Nat), i < (19 : Nat) → zI [i] = zI [i]) ∧ ((19 : Nat) = (19 : Nat) ∧ (∀ (i_1 : Nat), i_1 < (19 : Nat) → hlG (i + (1 : Nat)) L V L [i_1] = upd (hlG i L V L) [(IntKind.i64.wrap ((↑i : Int) + (1 : Int))).toNat] (L [(0 : Nat) + (↑i : Int).toNat]) [i_1]) ∧ ∀ (i_1 : Nat), i_1 < (19 : Nat) → hlG (i + (1 : Nat)) L V V [i_1] = upd (hlG i L V V) [(IntKind.i64.wrap ((↑i : Int) + (1 : Int))).toNat] (V [(0 : Nat) + (↑i : Int).toNat]) [i_1]) ∧ (19 : Nat) = (19 : Nat) ∧ ∀ (i : Nat), i < (19 : Nat) → zB [i] = zB [i]) := by kernel_rfl

set_option maxHeartbeats 4000000 in
theorem nwNR (N : Nat) (L V : Ix → Int) (i : Nat) (hi : i < N) (hN : N ≤ 100) (h18 : i < 18) (v : SV) (L' : HF) (next : RunsTo Tryd.prog 40 (headOf Tryd.f40 0) (envAt Tryd.f40.ntmps (nwR 85 N (i + 1))) (Sx.look (setE 60 N L V ++ refE 85 zI zI (hlG (i + 1) L V L) (hlG (i + 1) L V V) zB)) 80 v L' 120) :
    RunsTo Tryd.prog 40 (headOf Tryd.f40 0) (envAt Tryd.f40.ntmps (nwR 85 N i)) (Sx.look (setE 60 N L V ++ refE 85 zI zI (hlG i L V L) (hlG i L V V) zB)) 80 v L' 120 := by
  have gg0 : (decide ((↑i : Int) < (↑N : Int))) = true := by clear next; first | (simp (disch := omega) only [dT, dF, nltT, nltF, nleT, nleF, neqT, neqF, ieqT, ieqF, ineT, ineF, notT, notF, andT, andF, orT, orF, wr64s, Int.toNat_natCast, Nat.zero_add, Nat.add_zero] at *; omega) | (simp (disch := omega) only [dT, dF, nltT, nltF, nleT, nleF, neqT, neqF, ieqT, ieqF, ineT, ineF, notT, notF, andT, andF, orT, orF, wr64s, Int.toNat_natCast, Nat.zero_add, Nat.add_zero] at *; done) | (simp_all; done)
  have gg1 : (decide ((↑i : Int) < (18 : Int))) = true := by clear next; first | (simp (disch := omega) only [dT, dF, nltT, nltF, nleT, nleF, neqT, neqF, ieqT, ieqF, ineT, ineF, notT, notF, andT, andF, orT, orF, wr64s, Int.toNat_natCast, Nat.zero_add, Nat.add_zero] at *; omega) | (simp (disch := omega) only [dT, dF, nltT, nltF, nleT, nleF, neqT, neqF, ieqT, ieqF, ineT, ineF, notT, notF, andT, andF, orT, orF, wr64s, Int.toNat_natCast, Nat.zero_add, Nat.add_zero] at *; done) | (simp_all; done)
  have gg2 : (decide ((0 : Int) ≤ (↑i : Int) ∧ (↑i : Int) < (↑N : Int))) = true := by clear next; first | (simp (disch := omega) only [dT, dF, nltT, nltF, nleT, nleF, neqT, neqF, ieqT, ieqF, ineT, ineF, notT, notF, andT, andF, orT, orF, wr64s, Int.toNat_natCast, Nat.zero_add, Nat.add_zero] at *; omega) | (simp (disch := omega) only [dT, dF, nltT, nltF, nleT, nleF, neqT, neqF, ieqT, ieqF, ineT, ineF, notT, notF, andT, andF, orT, orF, wr64s, Int.toNat_natCast, Nat.zero_add, Nat.add_zero] at *; done) | (simp_all; done)
  have gg3 : (((0 : Nat) + (↑i : Int).toNat).blt N) = true := by clear next; first | (simp (disch := omega) only [dT, dF, nltT, nltF, nleT, nleF, neqT, neqF, ieqT, ieqF, ineT, ineF, notT, notF, andT, andF, orT, orF, wr64s, Int.toNat_natCast, Nat.zero_add, Nat.add_zero] at *; omega) | (simp (disch := omega) only [dT, dF, nltT, nltF, nleT, nleF, neqT, neqF, ieqT, ieqF, ineT, ineF, notT, notF, andT, andF, orT, orF, wr64s, Int.toNat_natCast, Nat.zero_add, Nat.add_zero] at *; done) | (simp_all; done)
  refine bcase (c := (fineB (L [(0 : Nat) + (↑i : Int).toNat]) (V [(0 : Nat) + (↑i : Int).toNat]))) (fun gg4 => ?_) (fun gg4 => ?_)
  · refine runs_more baseF (More.of (nwNR_p0 N L V i) ⟨(okc gg0 (okc gg1 (okc gg2 (okc gg3 (okc gg3 (okc gg4 okn)))))), rfl, ?_⟩) (by kernel_rfl) (by kernel_rfl) rfl (gtL (by decide)) (by decide) next
    clear next
    have hw : IntKind.i64.wrap ((i : Int) + 1) = ((i + 1 : Nat) : Int) := by rw [wr64 (by omega)]; rfl
    have hw2 : (((i : Nat) : Int) + 1).toNat = i + 1 := by omega
    simp only [dT, dF, nltT, nltF, nleT, nleF, neqT, neqF, ieqT, ieqF, ineT, ineF, notT, notF, andT, andF, orT, orF, Int.toNat_natCast, Nat.zero_add, hw, hw2] at *
    repeat' apply And.intro
    all_goals first | trivial | rfl | exact hw.symm | (intro p _; first | rfl | exact hl_yes (by omega) (okS_yes (by assumption) (by omega)) _ p | exact hl_no (Or.inl (by omega)) _ p | exact hl_no (Or.inr (okS_no (by assumption) (by omega))) _ p | exact hl_no (Or.inr (okS_bad (by assumption))) _ p | exact hl_yes (by omega) (by simp [okS, *]) _ p | exact hl_no (by simp [okS, *]) _ p)
  · refine bcase (c := (decide (L [(0 : Nat) + (↑i : Int).toNat] < (3 : Int)))) (fun gg5 => ?_) (fun gg5 => ?_)
    · refine runs_more baseF (More.of (nwNR_p1 N L V i) ⟨(okc gg0 (okc gg1 (okc gg2 (okc gg3 (okc gg3 (okc gg4 (okc gg2 (okc gg3 (okc gg3 (okc gg5 okn)))))))))), rfl, ?_⟩) (by kernel_rfl) (by kernel_rfl) rfl (gtL (by decide)) (by decide) next
      clear next
      have hw : IntKind.i64.wrap ((i : Int) + 1) = ((i + 1 : Nat) : Int) := by rw [wr64 (by omega)]; rfl
      have hw2 : (((i : Nat) : Int) + 1).toNat = i + 1 := by omega
      simp only [dT, dF, nltT, nltF, nleT, nleF, neqT, neqF, ieqT, ieqF, ineT, ineF, notT, notF, andT, andF, orT, orF, Int.toNat_natCast, Nat.zero_add, hw, hw2] at *
      repeat' apply And.intro
      all_goals first | trivial | rfl | exact hw.symm | (intro p _; first | rfl | exact hl_yes (by omega) (okS_yes (by assumption) (by omega)) _ p | exact hl_no (Or.inl (by omega)) _ p | exact hl_no (Or.inr (okS_no (by assumption) (by omega))) _ p | exact hl_no (Or.inr (okS_bad (by assumption))) _ p | exact hl_yes (by omega) (by simp [okS, *]) _ p | exact hl_no (by simp [okS, *]) _ p)
    · have gg6 : (decide ((0 : Int) ≤ IntKind.i64.wrap ((↑i : Int) + (1 : Int)) ∧ IntKind.i64.wrap ((↑i : Int) + (1 : Int)) < (↑(19 : Nat) : Int))) = true := by clear next; first | (simp (disch := omega) only [dT, dF, nltT, nltF, nleT, nleF, neqT, neqF, ieqT, ieqF, ineT, ineF, notT, notF, andT, andF, orT, orF, wr64s, Int.toNat_natCast, Nat.zero_add, Nat.add_zero] at *; omega) | (simp (disch := omega) only [dT, dF, nltT, nltF, nleT, nleF, neqT, neqF, ieqT, ieqF, ineT, ineF, notT, notF, andT, andF, orT, orF, wr64s, Int.toNat_natCast, Nat.zero_add, Nat.add_zero] at *; done) | (simp_all; done)
      have gg7 : ((IntKind.i64.wrap ((↑i : Int) + (1 : Int))).toNat.blt (19 : Nat)) = true := by clear next; first | (simp (disch := omega) only [dT, dF, nltT, nltF, nleT, nleF, neqT, neqF, ieqT, ieqF, ineT, ineF, notT, notF, andT, andF, orT, orF, wr64s, Int.toNat_natCast, Nat.zero_add, Nat.add_zero] at *; omega) | (simp (disch := omega) only [dT, dF, nltT, nltF, nleT, nleF, neqT, neqF, ieqT, ieqF, ineT, ineF, notT, notF, andT, andF, orT, orF, wr64s, Int.toNat_natCast, Nat.zero_add, Nat.add_zero] at *; done) | (simp_all; done)
      refine runs_more baseF (More.of (nwNR_p2 N L V i) ⟨(okc gg0 (okc gg1 (okc gg2 (okc gg3 (okc gg3 (okc gg4 (okc gg2 (okc gg3 (okc gg3 (okc gg5 (okc gg2 (okc gg3 (okc gg3 (okc gg6 (okc gg7 okn))))))))))))))), rfl, ?_⟩) (by kernel_rfl) (by kernel_rfl) rfl (gtL (by decide)) (by decide) next
      clear next
      have hw : IntKind.i64.wrap ((i : Int) + 1) = ((i + 1 : Nat) : Int) := by rw [wr64 (by omega)]; rfl
      have hw2 : (((i : Nat) : Int) + 1).toNat = i + 1 := by omega
      simp only [dT, dF, nltT, nltF, nleT, nleF, neqT, neqF, ieqT, ieqF, ineT, ineF, notT, notF, andT, andF, orT, orF, Int.toNat_natCast, Nat.zero_add, hw, hw2] at *
      repeat' apply And.intro
      all_goals first | trivial | rfl | exact hw.symm | (intro p _; first | rfl | exact hl_yes (by omega) (okS_yes (by assumption) (by omega)) _ p | exact hl_no (Or.inl (by omega)) _ p | exact hl_no (Or.inr (okS_no (by assumption) (by omega))) _ p | exact hl_no (Or.inr (okS_bad (by assumption))) _ p | exact hl_yes (by omega) (by simp [okS, *]) _ p | exact hl_no (by simp [okS, *]) _ p)

theorem nwER_p0 (N : Nat) (L V : Ix → Int) (i : Nat) :
    isEnd (evTill Tryd.prog sumsF 100 (behind Tryd.f40 0) 900 40 (headOf Tryd.f40 0) (envAt Tryd.f40.ntmps (nwR 85 N i)) (setE 60 N L V ++ refE 85 zI zI (hlG i L V L) (hlG i L V V) zB) ⟨[.s false], 90⟩) (endP ([((101 : Nat), Rn.to (85 : Nat))]) (vP 101) (refE 101 zI zI (hlG N L V L) (hlG N L V V) zB) 120) =
    (OkL [(decide ((↑i : Int) < (↑N : Int)), false)] ∧ (0 : Nat) = (0 : Nat) ∧ ((19 : Nat) = (19 : Nat) ∧ (∀ (i : Nat), i < (19 : Nat) → zI [i] = zI [i]) ∧ ∀ (i : Nat), i < (19 : Nat) → zI [i] = zI [i]) ∧ ((19 : Nat) = (19 : Nat) ∧ (∀ (i_1 : Nat), i_1 < (19 : Nat) → hlG N L V L [i_1] = hlG i L V L [i_1]) ∧ ∀ (i_1 : Nat), i_1 < (19 : Nat) → hlG N L V V [i_1] = hlG i L V V [i_1]) ∧ (19 : Nat) = (19 : Nat) ∧ ∀ (i : Nat), i < (19 : Nat) → zB [i] = zB [i]) := by kernel_rfl
theorem nwER_p1 (N : Nat) (L V : Ix → Int) (i : Nat) :
    isEnd (evTill Tryd.prog sumsF 100 (behind Tryd.f40 0) 900 40 (headOf Tryd.f40 0) (envAt Tryd.f40.ntmps (nwR 85 N i)) (setE 60 N L V ++ refE 85 zI zI (hlG i L V L) (hlG i L V V) zB) ⟨[.s true, .s false], 90⟩) (endP ([((101 : Nat), Rn.to (85 : Nat))]) (vP 101) (refE 101 zI zI (hlG N L V L) (hlG N L V V) zB) 120) =
    (OkL [(decide ((↑i : Int) < (↑N : Int)), true), (decide ((↑i : Int) < (18 : Int)), false)] ∧ (0 : Nat) = (0 : Nat) ∧ ((19 : Nat) = (19 : Nat) ∧ (∀ (i : Nat), i < (19 : Nat) → zI [i] = zI [i]) ∧ ∀ (i : Nat), i < (19 : Nat) → zI [i] = zI [i]) ∧ ((19 : Nat) = (19 : Nat) ∧ (∀ (i_1 : Nat), i_1 < (19 : Nat) → hlG N L V L [i_1] = hlG i L V L [i_1]) ∧ ∀ (i_1 : Nat), i_1 < (19 : Nat) → hlG N L V V [i_1] = hlG i L V V [i_1]) ∧ (19 : Nat) = (19 : Nat) ∧ ∀ (i : Nat), i < (19 : Nat) → zB [i] = zB [i]) := by kernel_rfl

set_option maxHeartbeats 4000000 in
theorem nwER (N : Nat) (L V : Ix → Int) (i : Nat) (hi : i ≤ N) (he : i = N ∨ i = 18) (hN : N ≤ 100) :
    RunsTo Tryd.prog 40 (headOf Tryd.f40 0) (envAt Tryd.f40.ntmps (nwR 85 N i)) (Sx.look (setE 60 N L V ++ refE 85 zI zI (hlG i L V L) (hlG i L V V) zB)) 80 (vP 101) (Sx.look (refE 101 zI zI (hlG N L V L) (hlG N L V V) zB)) 120 := by
  refine bcase (c := (decide ((↑i : Int) < (↑N : Int)))) (fun gg0 => ?_) (fun gg0 => ?_)
  · refine runs_last baseF (Sx.Ends.of (nwER_p0 N L V i) ⟨(okc gg0 okn), ?_⟩) (by kernel_rfl) rfl (gtL (by decide)) (by decide)
    simp only [dT, dF, nltT, nltF, nleT, nleF, neqT, neqF, ieqT, ieqF, ineT, ineF, notT, notF, andT, andF, orT, orF] at *
    repeat' apply And.intro
    all_goals first | trivial | rfl | (intro p _; first | rfl | (have h1 : i = N := (by omega); subst h1; rfl) | exact (hl_all (by omega) (by omega) _ p).symm)
  · have gg1 : (decide ((↑i : Int) < (18 : Int))) = false := by first | (simp (disch := omega) only [dT, dF, nltT, nltF, nleT, nleF, neqT, neqF, ieqT, ieqF, ineT, ineF, notT, notF, andT, andF, orT, orF, wr64s, Int.toNat_natCast, Nat.zero_add, Nat.add_zero] at *; omega) | (simp (disch := omega) only [dT, dF, nltT, nltF, nleT, nleF, neqT, neqF, ieqT, ieqF, ineT, ineF, notT, notF, andT, andF, orT, orF, wr64s, Int.toNat_natCast, Nat.zero_add, Nat.add_zero] at *; done) | (simp_all; done)
    refine runs_last baseF (Sx.Ends.of (nwER_p1 N L V i) ⟨(okc gg0 (okc gg1 okn)), ?_⟩) (by kernel_rfl) rfl (gtL (by decide)) (by decide)
    simp only [dT, dF, nltT, nltF, nleT, nleF, neqT, neqF, ieqT, ieqF, ineT, ineF, notT, notF, andT, andF, orT, orF] at *
    repeat' apply And.intro
    all_goals first | trivial | rfl | (intro p _; first | rfl | (have h1 : i = N := (by omega); subst h1; rfl) | exact (hl_all (by omega) (by omega) _ p).symm)

theorem nwLI (N : Nat) (L V : Ix → Int) (hN : N ≤ 100) : ∀ (k i : Nat), i + k = N → RunsTo Tryd.prog 30 (headOf Tryd.f30 0) (envAt Tryd.f30.ntmps (nwI 85 N i)) (Sx.look (setE 60 N L V ++ sideE 85 zI zI (hlG i L V L) (hlG i L V V) zB)) 80 (vP 101) (Sx.look (sideE 101 zI zI (hlG N L V L) (hlG N L V V) zB)) 120 := by
  intro k
  induction k with
  | zero => intro i hi; exact nwEI N L V i (by omega) (by omega) hN
  | succ k ih =>
    intro i hi
    exact nwNI N L V i (by omega) hN _ _ (ih (i + 1) (by omega))
theorem newI (N : Nat) (L V : Ix → Int) (hN : N ≤ 100) : RunsTo Tryd.prog 30 [.code (bodyOf Tryd.f30)] (envOf [setV 60 N] Tryd.f30.ntmps) (Sx.look (setE 60 N L V ++ [])) 80 (vP 101) (Sx.look (sideE 101 zI zI (hlG N L V L) (hlG N L V V) zB)) 120 := nw0I N L V _ _ (nwLI N L V hN N 0 (by omega))
def newIPC : PC := { args := [.v (.vl 60 2 0)], heap := [⟨60, false, 2, .ta 0 (.tc (.vi .i64 1) (.tc (.vi .i64 2) .t0))⟩], gs := [], G := 16, tp := 140, n := 80, n' := 120, cond := fun e => decide (eN e 0 ≤ 100), v := fun e => vP 101, post := fun e => sideE 101 zI zI (hlG (eN e 0) (eI e 1) (eI e 2) (eI e 1)) (hlG (eN e 0) (eI e 1) (eI e 2) (eI e 2)) zB }
theorem newI_pc : PC.Runs Tryd.prog 30 Tryd.f30 (bodyOf Tryd.f30) newIPC := ⟨Tryd.func30, by kernel_rfl, (fun g hg => by cases hg), fun e H hc => newI (eN e 0) (eI e 1) (eI e 2) (of_decide_eq_true hc)⟩

theorem nwLR (N : Nat) (L V : Ix → Int) (hN : N ≤ 100) : ∀ (k i : Nat), i + k = N → i ≤ 18 → RunsTo Tryd.prog 40 (headOf Tryd.f40 0) (envAt Tryd.f40.ntmps (nwR 85 N i)) (Sx.look (setE 60 N L V ++ refE 85 zI zI (hlG i L V L) (hlG i L V V) zB)) 80 (vP 101) (Sx.look (refE 101 zI zI (hlG N L V L) (hlG N L V V) zB)) 120 := by
  intro k
  induction k with
  | zero => intro i hi h18; exact nwER N L V i (by omega) (by omega) hN
  | succ k ih =>
    intro i hi h18
    by_cases h2 : i < 18
    · exact nwNR N L V i (by omega) hN h2 _ _ (ih (i + 1) (by omega) (by omega))
    · exact nwER N L V i (by omega) (by omega) hN
theorem newR (N : Nat) (L V : Ix → Int) (hN : N ≤ 100) : RunsTo Tryd.prog 40 [.code (bodyOf Tryd.f40)] (envOf [setV 60 N] Tryd.f40.ntmps) (Sx.look (setE 60 N L V ++ [])) 80 (vP 101) (Sx.look (refE 101 zI zI (hlG N L V L) (hlG N L V V) zB)) 120 := nw0R N L V _ _ (nwLR N L V hN N 0 (by omega) (by omega))
def newRPC : PC := { args := [.v (.vl 60 2 0)], heap := [⟨60, false, 2, .ta 0 (.tc (.vi .i64 1) (.tc (.vi .i64 2) .t0))⟩], gs := [], G := 16, tp := 140, n := 80, n' := 120, cond := fun e => decide (eN e 0 ≤ 100), v := fun e => vP 101, post := fun e => refE 101 zI zI (hlG (eN e 0) (eI e 1) (eI e 2) (eI e 1)) (hlG (eN e 0) (eI e 1) (eI e 2) (eI e 2)) zB }
theorem newR_pc : PC.Runs Tryd.prog 40 Tryd.f40 (bodyOf Tryd.f40) newRPC := ⟨Tryd.func40, by kernel_rfl, (fun g hg => by cases hg), fun e H hc => newR (eN e 0) (eI e 1) (eI e 2) (of_decide_eq_true hc)⟩

theorem st0_p0 (N : Nat) (L V : Ix → Int) :
    isMore (evTill Tryd.prog [] 100 (behind Tryd.f41 0) 900 41 [.code (bodyOf Tryd.f41)] (envOf [setV 60 N] Tryd.f41.ntmps) (setE 60 N L V ++ []) ⟨[], 80⟩) (moreP (headOf Tryd.f41 0) ([((85 : Nat), Rn.to (80 : Nat))]) Tryd.f41.ntmps (stE 85 N 0) (rowO 85 0 L V) 120) =
    (OkL [] ∧ headOf Tryd.f41 (0 : Nat) = headOf Tryd.f41 (0 : Nat) ∧ (((0 : Nat) = (0 : Nat) ∧ (0 : Nat) = (0 : Nat)) ∧ ((0 : Nat) = (0 : Nat) ∧ N = N) ∧ (↑N : Int) = (↑N : Int) ∧ (↑(0 : Nat) : Int) = (0 : Int)) ∧ (0 : Nat) = (0 : Nat) ∧ (∀ (i : Nat), i < (0 : Nat) → L [i] = (0 : Int)) ∧ ∀ (i : Nat), i < (0 : Nat) → V [i] = (0 : Int)) := by kernel_rfl

set_option maxHeartbeats 4000000 in
theorem st0 (N : Nat) (L V : Ix → Int) (v : SV) (L' : HF) (next : RunsTo Tryd.prog 41 (headOf Tryd.f41 0) (envAt Tryd.f41.ntmps (stE 85 N 0)) (Sx.look (setE 60 N L V ++ rowO 85 0 L V)) 80 v L' 120) :
    RunsTo Tryd.prog 41 [.code (bodyOf Tryd.f41)] (envOf [setV 60 N] Tryd.f41.ntmps) (Sx.look (setE 60 N L V ++ [])) 80 v L' 120 := by
  refine runs_more baseO (More.of (st0_p0 N L V) ⟨okn, rfl, ?_⟩) (by kernel_rfl) (by kernel_rfl) rfl (gtL (by decide)) (by decide) next
  clear next
  simp

theorem stN_p0 (N : Nat) (L V : Ix → Int) (i : Nat) :
    isMore (evTill Tryd.prog [] 100 (behind Tryd.f41 0) 900 41 (headOf Tryd.f41 0) (envAt Tryd.f41.ntmps (stE 85 N i)) (setE 60 N L V ++ rowO 85 i L V) ⟨[.s true, .s true, .s true, .s true, .t, .s true, .s true], 90⟩) (moreP (headOf Tryd.f41 0) ([((85 : Nat), Rn.to (92 : Nat))]) Tryd.f41.ntmps (stE 85 N (i + 1)) (rowO 85 (i + 1) L V) 120) =
    (OkL [(decide ((↑i : Int) < (↑N : Int)), true), (decide ((0 : Int) ≤ (↑i : Int) ∧ (↑i : Int) < (↑N : Int)), true), (((0 : Nat) + (↑i : Int).toNat).blt N, true), (((0 : Nat) + (↑i : Int).toNat).blt N, true), (((0 : Nat) + i).ble i, true), (decide (((2 : Nat) * (i + (1 : Nat)) + (192 : Nat)) * (16 : Nat) ≤ (281474976710656 : Nat)), true)] ∧   headOf Tryd.f41 (0 : Nat) = headOf Tryd.f41 (0 : Nat) ∧     (((0 : Nat) = (0 : Nat) ∧ i + (1 : Nat) = i + (1 : Nat)) ∧ ((0 : Nat) = (0 : Nat) ∧ N = N) ∧ (↑N : Int) = (↑N : Int) ∧ (↑(i + (1 : Nat)) : Int) = IntKind.i64.wrap ((↑i : Int) + (1 : Int))) ∧       i + (1 : Nat) = i + (1 : Nat) ∧         (∀ (i_1 : Nat),             i_1 < i + (1 : Nat) →               L [i_1] =                 appF i (0 : Nat) L                   (fun js =>                     L                       (((0 : Nat) + (↑i : Int).toNat) ::                         List.tail                           (match js with                           | j :: r => (sum [] + j) :: r                           | [] => [])))                   [i_1]) ∧           ∀ (i_1 : Nat),             i_1 < i + (1 : Nat) →               V [i_1] =                 appF i (0 : Nat) V                   (fun js =>                     V                       (((0 : Nat) + (↑i : Int).toNat) ::                         List.tail                           (match js with                           | j :: r => (sum [] + j) :: r                           | [] => [])))                   [i_1]) := by kernel_rfl

set_option maxHeartbeats 4000000 in
theorem stN (N : Nat) (L V : Ix → Int) (i : Nat) (hi : i < N) (hN : N ≤ 100) (v : SV) (L' : HF) (next : RunsTo Tryd.prog 41 (headOf Tryd.f41 0) (envAt Tryd.f41.ntmps (stE 85 N (i + 1))) (Sx.look (setE 60 N L V ++ rowO 85 (i + 1) L V)) 80 v L' 120) :
    RunsTo Tryd.prog 41 (headOf Tryd.f41 0) (envAt Tryd.f41.ntmps (stE 85 N i)) (Sx.look (setE 60 N L V ++ rowO 85 i L V)) 80 v L' 120 := by
  have gg0 : (decide ((↑i : Int) < (↑N : Int))) = true := by clear next; first | (simp (disch := omega) only [dT, dF, nltT, nltF, nleT, nleF, neqT, neqF, ieqT, ieqF, ineT, ineF, notT, notF, andT, andF, orT, orF, wr64s, Int.toNat_natCast, Nat.zero_add, Nat.add_zero] at *; omega) | (simp (disch := omega) only [dT, dF, nltT, nltF, nleT, nleF, neqT, neqF, ieqT, ieqF, ineT, ineF, notT, notF, andT, andF, orT, orF, wr64s, Int.toNat_natCast, Nat.zero_add, Nat.add_zero] at *; done) | (simp_all; done)
  have gg1 : (decide ((0 : Int) ≤ (↑i : Int) ∧ (↑i : Int) < (↑N : Int))) = true := by clear next; first | (simp (disch := omega) only [dT, dF, nltT, nltF, nleT, nleF, neqT, neqF, ieqT, ieqF, ineT, ineF, notT, notF, andT, andF, orT, orF, wr64s, Int.toNat_natCast, Nat.zero_add, Nat.add_zero] at *; omega) | (simp (disch := omega) only [dT, dF, nltT, nltF, nleT, nleF, neqT, neqF, ieqT, ieqF, ineT, ineF, notT, notF, andT, andF, orT, orF, wr64s, Int.toNat_natCast, Nat.zero_add, Nat.add_zero] at *; done) | (simp_all; done)
  have gg2 : (((0 : Nat) + (↑i : Int).toNat).blt N) = true := by clear next; first | (simp (disch := omega) only [dT, dF, nltT, nltF, nleT, nleF, neqT, neqF, ieqT, ieqF, ineT, ineF, notT, notF, andT, andF, orT, orF, wr64s, Int.toNat_natCast, Nat.zero_add, Nat.add_zero] at *; omega) | (simp (disch := omega) only [dT, dF, nltT, nltF, nleT, nleF, neqT, neqF, ieqT, ieqF, ineT, ineF, notT, notF, andT, andF, orT, orF, wr64s, Int.toNat_natCast, Nat.zero_add, Nat.add_zero] at *; done) | (simp_all; done)
  have gg3 : (((0 : Nat) + i).ble i) = true := by clear next; first | (simp (disch := omega) only [dT, dF, nltT, nltF, nleT, nleF, neqT, neqF, ieqT, ieqF, ineT, ineF, notT, notF, andT, andF, orT, orF, wr64s, Int.toNat_natCast, Nat.zero_add, Nat.add_zero] at *; omega) | (simp (disch := omega) only [dT, dF, nltT, nltF, nleT, nleF, neqT, neqF, ieqT, ieqF, ineT, ineF, notT, notF, andT, andF, orT, orF, wr64s, Int.toNat_natCast, Nat.zero_add, Nat.add_zero] at *; done) | (simp_all; done)
  have gg4 : (decide (((2 : Nat) * (i + (1 : Nat)) + (192 : Nat)) * (16 : Nat) ≤ (281474976710656 : Nat))) = true := by clear next; first | (simp (disch := omega) only [dT, dF, nltT, nltF, nleT, nleF, neqT, neqF, ieqT, ieqF, ineT, ineF, notT, notF, andT, andF, orT, orF, wr64s, Int.toNat_natCast, Nat.zero_add, Nat.add_zero] at *; omega) | (simp (disch := omega) only [dT, dF, nltT, nltF, nleT, nleF, neqT, neqF, ieqT, ieqF, ineT, ineF, notT, notF, andT, andF, orT, orF, wr64s, Int.toNat_natCast, Nat.zero_add, Nat.add_zero] at *; done) | (simp_all; done)
  refine runs_more baseO (More.of (stN_p0 N L V i) ⟨(okc gg0 (okc gg1 (okc gg2 (okc gg2 (okc gg3 (okc gg4 okn)))))), rfl, ?_⟩) (by kernel_rfl) (by kernel_rfl) rfl (gtL (by decide)) (by decide) next
  clear next
  have hw : IntKind.i64.wrap ((i : Int) + 1) = ((i + 1 : Nat) : Int) := by rw [wr64 (by omega)]; rfl
  have ap : ∀ (W : Ix → Int) (p : Nat), p < i + 1 → W [p] = appF i 0 W (fun js => W [i]) [p] := fun W p hp => by
    simp only [appF, Nat.zero_add]
    by_cases h : p < i
    · rw [if_pos h]
    · rw [if_neg h, show p = i by omega]
  simp only [Int.toNat_natCast, Nat.zero_add, hw] at *
  repeat' apply And.intro
  all_goals first | trivial | rfl | exact hw.symm | (intro p hp; first | rfl | exact ap _ p hp)

theorem stE__p0 (N : Nat) (L V : Ix → Int) (i : Nat) :
    isEnd (evTill Tryd.prog [] 100 (behind Tryd.f41 0) 900 41 (headOf Tryd.f41 0) (envAt Tryd.f41.ntmps (stE 85 N i)) (setE 60 N L V ++ rowO 85 i L V) ⟨[.s false], 90⟩) (endP ([((101 : Nat), Rn.to (85 : Nat))]) (.v (.vl 101 (fun _ => 0) 2 [] (fun _ => N))) (rowO 101 N L V) 120) =
    (OkL [(decide ((↑i : Int) < (↑N : Int)), false)] ∧ ((0 : Nat) = (0 : Nat) ∧ N = i) ∧ N = i ∧ (∀ (i : Nat), i < N → L [i] = L [i]) ∧ ∀ (i : Nat), i < N → V [i] = V [i]) := by kernel_rfl

set_option maxHeartbeats 4000000 in
theorem stE_ (N : Nat) (L V : Ix → Int) (i : Nat) (he : i = N) (hN : N ≤ 100) :
    RunsTo Tryd.prog 41 (headOf Tryd.f41 0) (envAt Tryd.f41.ntmps (stE 85 N i)) (Sx.look (setE 60 N L V ++ rowO 85 i L V)) 80 (.v (.vl 101 (fun _ => 0) 2 [] (fun _ => N))) (Sx.look (rowO 101 N L V)) 120 := by
  have gg0 : (decide ((↑i : Int) < (↑N : Int))) = false := by first | (simp (disch := omega) only [dT, dF, nltT, nltF, nleT, nleF, neqT, neqF, ieqT, ieqF, ineT, ineF, notT, notF, andT, andF, orT, orF, wr64s, Int.toNat_natCast, Nat.zero_add, Nat.add_zero] at *; omega) | (simp (disch := omega) only [dT, dF, nltT, nltF, nleT, nleF, neqT, neqF, ieqT, ieqF, ineT, ineF, notT, notF, andT, andF, orT, orF, wr64s, Int.toNat_natCast, Nat.zero_add, Nat.add_zero] at *; done) | (simp_all; done)
  refine runs_last baseO (Sx.Ends.of (stE__p0 N L V i) ⟨(okc gg0 okn), ?_⟩) (by kernel_rfl) rfl (gtL (by decide)) (by decide)
  subst he
  simp

theorem stL (N : Nat) (L V : Ix → Int) (hN : N ≤ 100) : ∀ (k i : Nat), i + k = N → RunsTo Tryd.prog 41 (headOf Tryd.f41 0) (envAt Tryd.f41.ntmps (stE 85 N i)) (Sx.look (setE 60 N L V ++ rowO 85 i L V)) 80 (.v (.vl 101 (fun _ => 0) 2 [] (fun _ => N))) (Sx.look (rowO 101 N L V)) 120 := by
  intro k
  induction k with
  | zero => intro i hi; exact stE_ N L V i (by omega) hN
  | succ k ih => intro i hi; exact stN N L V i (by omega) hN _ _ (ih (i + 1) (by omega))
theorem settings (N : Nat) (L V : Ix → Int) (hN : N ≤ 100) : RunsTo Tryd.prog 41 [.code (bodyOf Tryd.f41)] (envOf [setV 60 N] Tryd.f41.ntmps) (Sx.look (setE 60 N L V ++ [])) 80 (.v (.vl 101 (fun _ => 0) 2 [] (fun _ => N))) (Sx.look (rowO 101 N L V)) 120 := st0 N L V _ _ (stL N L V hN N 0 (by omega))
def settingsPC : PC := { args := [.v (.vl 60 2 0)], heap := [⟨60, false, 2, .ta 0 (.tc (.vi .i64 1) (.tc (.vi .i64 2) .t0))⟩], gs := [], G := 16, tp := 140, n := 80, n' := 120, cond := fun e => decide (eN e 0 ≤ 100), v := fun e => .v (.vl 101 (fun _ => 0) 2 [] (fun _ => eN e 0)), post := fun e => rowO 101 (eN e 0) (eI e 1) (eI e 2) }
theorem settings_pc : PC.Runs Tryd.prog 41 Tryd.f41 (bodyOf Tryd.f41) settingsPC := ⟨Tryd.func41, by kernel_rfl, (fun g hg => by cases hg), fun e H hc => settings (eN e 0) (eI e 1) (eI e 2) (of_decide_eq_true hc)⟩

end Go.Proofs.YtdmkdmaofgjelaaDoor
