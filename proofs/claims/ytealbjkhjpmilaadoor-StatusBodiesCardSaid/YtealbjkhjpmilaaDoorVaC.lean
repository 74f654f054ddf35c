/- Codes: what the parts do. -/
import Derived.Test.YtealbjkhjpmilaaDoorChecked
import Derived.Test.YtealbjkhjpmilaaDoorSyWt
import Derived.Test.YtealbjkhjpmilaaDoorSyPl
set_option linter.unusedSimpArgs false
set_option linter.unusedVariables false
set_option maxRecDepth 100000
namespace Go.Proofs.YtealbjkhjpmilaaDoor
open Go.Sx

theorem goodP : PGood Tryd.prog := good_of (by kernel_rfl) (by kernel_rfl)
theorem gtopP : gtop Tryd.prog ≤ 100 := of_decide_eq_true (by kernel_rfl)
theorem gtopG : gtop Tryd.prog = 50 := of_decide_eq_true (by kernel_rfl)
theorem gtL {n : Nat} (h : 50 ≤ n) : gtop Tryd.prog ≤ n := Nat.le_trans (Nat.le_of_eq gtopG) h
theorem baseO : Base0 Tryd.prog [] := Base0.nil goodP
abbrev YES : SV := .v (.vb fun _ => true)
abbrev vN (a : Int) : SV := .v (.vi .i64 fun _ => a)
abbrev vU (a : Int) : SV := .v (.vi .u8 fun _ => a)
abbrev vB (a : Bool) : SV := .v (.vb fun _ => a)
abbrev vS (a : List UInt8) : SV := .v (.vs fun _ => a)
abbrev vP (l : Nat) : SV := .v (.vp l (fun _ => 0) [])
abbrev vL (l w n : Nat) : SV := .v (.vl l (fun _ => 0) w [] (fun _ => n))

def wordsT : List (List UInt8) := [[115,101],[110,111,112],[100,109],[98,114,107],[105,112],[97,111],[97,121,116],[101,99],[101,108],[103,97],[115,98],[119,105,108,108],[119,111,110,116],[100,111],[100,111,110,116],[105,97,99]]
def wF : Ix → List UInt8 := fun is => wordsT.getD (is.headD 0) []
def tabE : List Ent := [⟨6, false, none, 16, .ta 16 (.vs wF)⟩]
def wordC (c : Int) : List UInt8 := if 240 ≤ c ∧ c ≤ 255 then wF [(c - 240).toNat] else []
def ixF (F : Ix → List UInt8) (v : List UInt8) : Nat → Nat → Int
  | 0, _ => -1
  | k + 1, i => if v = F [i] then (i : Int) else ixF F v k (i + 1)
theorem ixF_ge (F : Ix → List UInt8) (v : List UInt8) : ∀ k i, -1 ≤ ixF F v k i ∧ ixF F v k i < i + k ∨ ixF F v k i = -1
  | 0, i => .inr rfl
  | k + 1, i => by
    have := ixF_ge F v k (i + 1)
    simp only [ixF]
    split <;> omega
def ix (w : List UInt8) : Int := ixF wF w 16 0
theorem woI_p0 (zz : Nat) :
    isEnd (evTill Tryd.prog [] 300 (99) 900 50 [.code (bodyOf Tryd.f50)] (envOf [] Tryd.f50.ntmps) ([] ++ ([])) ⟨[], 80⟩) (endP ([]) (vL 80 1 16) ([⟨80, true, none, 1, .ta 16 (.vs wF)⟩]) 110) =
    (OkL [] ∧ ((0 : Nat) = (0 : Nat) ∧ (16 : Nat) = (16 : Nat)) ∧ (16 : Nat) = (16 : Nat) ∧ ∀ (i : Nat), i < (16 : Nat) → wF [i] = upd (upd (upd (upd (upd (upd (upd (upd (upd (upd (upd (upd (upd (upd (upd (upd (fun is => []) [(0 : Nat)] [(115 : UInt8), (101 : UInt8)]) [(1 : Nat)] [(110 : UInt8), (111 : UInt8), (112 : UInt8)]) [(2 : Nat)] [(100 : UInt8), (109 : UInt8)]) [(3 : Nat)] [(98 : UInt8), (114 : UInt8), (107 : UInt8)]) [(4 : Nat)] [(105 : UInt8), (112 : UInt8)]) [(5 : Nat)] [(97 : UInt8), (111 : UInt8)]) [(6 : Nat)] [(97 : UInt8), (121 : UInt8), (116 : UInt8)]) [(7 : Nat)] [(101 : UInt8), (99 : UInt8)]) [(8 : Nat)] [(101 : UInt8), (108 : UInt8)]) [(9 : Nat)] [(103 : UInt8), (97 : UInt8)]) [(10 : Nat)] [(115 : UInt8), (98 : UInt8)]) [(11 : Nat)] [(119 : UInt8), (105 : UInt8), (108 : UInt8), (108 : UInt8)]) [(12 : Nat)] [(119 : UInt8), (111 : UInt8), (110 : UInt8), (116 : UInt8)]) [(13 : Nat)] [(100 : UInt8), (111 : UInt8)]) [(14 : Nat)] [(100 : UInt8), (111 : UInt8), (110 : UInt8), (116 : UInt8)]) [(15 : Nat)] [(105 : UInt8), (97 : UInt8), (99 : UInt8)] [i]) := by kernel_rfl

set_option maxHeartbeats 4000000 in
theorem woI (zz : Nat)  :
    RunsTo Tryd.prog 50 [.code (bodyOf Tryd.f50)] (envOf [] Tryd.f50.ntmps) (Sx.look ([] ++ ([]))) 80 (vL 80 1 16) (Sx.look ([⟨80, true, none, 1, .ta 16 (.vs wF)⟩])) 110 := by
  refine runs_last baseO (Sx.Ends.of (woI_p0 zz) ⟨?oo, ?rr⟩) (by kernel_rfl) rfl (gtL (by decide)) (by decide)
  case oo =>
    refine okn
    all_goals ((try simp (disch := omega) only [SS]); first | done | omega | assumption | (simp (disch := omega) only [SS] at *; first | done | omega | assumption) | (simp_all; done) | grind)
  case rr =>
    refine ⟨?_, ?_⟩ <;> first | trivial | skip
    all_goals (repeat' apply And.intro) <;> first | trivial | (intro i hi; have hc : i = 0 ∨ i = 1 ∨ i = 2 ∨ i = 3 ∨ i = 4 ∨ i = 5 ∨ i = 6 ∨ i = 7 ∨ i = 8 ∨ i = 9 ∨ i = 10 ∨ i = 11 ∨ i = 12 ∨ i = 13 ∨ i = 14 ∨ i = 15 := (by omega); rcases hc with rfl | rfl | rfl | rfl | rfl | rfl | rfl | rfl | rfl | rfl | rfl | rfl | rfl | rfl | rfl | rfl <;> rfl)

def woP : PC := { args := [], heap := [], gs := [], G := 25, tp := 223, n := 80, n' := 110, cond := fun e => true, v := fun e => vL 80 1 16, post := fun e => [⟨80, true, none, 1, .ta 16 (.vs wF)⟩] }
theorem woP_pc : PC.Runs Tryd.prog 50 Tryd.f50 (bodyOf Tryd.f50) woP := ⟨Tryd.func50, by kernel_rfl, (fun g hg => by first | cases hg | (revert g; decide)), fun e H hc => by
  have hc : (true) = true := hc
  try simp only [Bool.and_eq_true, decide_eq_true_eq, Nat.beq_eq] at hc
  exact woI 0⟩
theorem alI_p0 (zz : Nat) :
    isEnd (evTill Tryd.prog [] 900 (99) 900 42 [.code (bodyOf Tryd.f42)] (envOf [] Tryd.f42.ntmps) ([] ++ ([])) ⟨[.t, .f, .f, .f, .f, .f, .t, .t, .f, .f, .f, .f, .f, .f, .f, .t, .t, .t, .f, .f, .f, .f, .f, .f, .f, .f, .f, .f, .f, .t, .t, .t, .f, .t, .t, .t, .t], 80⟩) (endP ([]) (YES) ([]) 200) =
    (OkL [] ∧ true = true ∧ True) := by kernel_rfl

set_option maxHeartbeats 4000000 in
theorem alI (zz : Nat)  :
    RunsTo Tryd.prog 42 [.code (bodyOf Tryd.f42)] (envOf [] Tryd.f42.ntmps) (Sx.look ([] ++ ([]))) 80 (YES) (Sx.look ([])) 200 := by
  refine runs_last baseO (Sx.Ends.of (alI_p0 zz) ⟨?oo, ?rr⟩) (by kernel_rfl) rfl (gtL (by decide)) (by decide)
  case oo =>
    refine okn
    all_goals ((try simp (disch := omega) only [SS]); first | done | omega | assumption | (simp (disch := omega) only [SS] at *; first | done | omega | assumption) | (simp_all; done) | grind)
  case rr =>
    try simp (disch := omega) only [SS]
    repeat' apply And.intro
    all_goals first | exact True.intro | with_reducible rfl | omega | (intros; first | exact True.intro | with_reducible rfl | omega | (simp_all; done)) | (simp_all; done) | rfl

def alP : PC := { args := [], heap := [], gs := [], G := 25, tp := 223, n := 80, n' := 200, cond := fun e => true, v := fun e => YES, post := fun e => [] }
theorem alP_pc : PC.Runs Tryd.prog 42 Tryd.f42 (bodyOf Tryd.f42) alP := ⟨Tryd.func42, by kernel_rfl, (fun g hg => by first | cases hg | (revert g; decide)), fun e H hc => by
  have hc : (true) = true := hc
  try simp only [Bool.and_eq_true, decide_eq_true_eq, Nat.beq_eq] at hc
  exact alI 0⟩
theorem ixStart_p0 (F : Ix → List UInt8) (w : List UInt8) :
    isMore (evTill Tryd.prog [] 300 (behind Tryd.f80 0) 900 80 [.code (bodyOf Tryd.f80)] (envOf [.v (.va 60 [] 1 0 16 16), vS w] Tryd.f80.ntmps) ([⟨60, false, none, 16, .ta 16 (.vs F)⟩] ++ ([])) ⟨[], 80⟩) (moreP (headOf Tryd.f80 0) ([]) Tryd.f80.ntmps ([(0, .v (.va 60 [] 1 0 16 16)), (1, vS w), (7, vN 16), (8, vN 0)]) ([]) 140) =
    (OkL [] ∧ headOf Tryd.f80 (0 : Nat) = headOf Tryd.f80 (0 : Nat) ∧ (((0 : Nat) = (0 : Nat) ∧ (16 : Nat) = (16 : Nat) ∧ (16 : Nat) = (16 : Nat)) ∧ w = w ∧ (16 : Int) = (↑(16 : Nat) : Int) ∧ (0 : Int) = (0 : Int)) ∧ True) := by kernel_rfl

set_option maxHeartbeats 4000000 in
theorem ixStart (F : Ix → List UInt8) (w : List UInt8)  (v : SV) (L' : HF) (next : RunsTo Tryd.prog 80 (headOf Tryd.f80 0) (envAt Tryd.f80.ntmps ([(0, .v (.va 60 [] 1 0 16 16)), (1, vS w), (7, vN 16), (8, vN 0)])) (Sx.look ([⟨60, false, none, 16, .ta 16 (.vs F)⟩] ++ ([]))) 80 (v) (L') 140) :
    RunsTo Tryd.prog 80 [.code (bodyOf Tryd.f80)] (envOf [.v (.va 60 [] 1 0 16 16), vS w] Tryd.f80.ntmps) (Sx.look ([⟨60, false, none, 16, .ta 16 (.vs F)⟩] ++ ([]))) 80 (v) (L') 140 := by
  refine runs_more baseO (More.of (ixStart_p0 F w) ⟨?oo, rfl, ?rr⟩) (by kernel_rfl) (by kernel_rfl) rfl (gtL (by decide)) (by decide) next
  case oo =>
    clear next
    refine okn
    all_goals ((try simp (disch := omega) only [SS]); first | done | omega | assumption | (simp (disch := omega) only [SS] at *; first | done | omega | assumption) | (simp_all; done) | grind)
  case rr =>
    clear next
    try simp (disch := omega) only [SS]
    repeat' apply And.intro
    all_goals first | exact True.intro | with_reducible rfl | omega | (intros; first | exact True.intro | with_reducible rfl | omega | (simp_all; done)) | (simp_all; done) | rfl

theorem ixRound_p0 (F : Ix → List UInt8) (w : List UInt8) (i : Nat) :
    isMore (evTill Tryd.prog [] 300 (behind Tryd.f80 0) 900 80 (headOf Tryd.f80 0) (envAt Tryd.f80.ntmps ([(0, .v (.va 60 [] 1 0 16 16)), (1, vS w), (7, vN 16), (8, vN i)])) ([⟨60, false, none, 16, .ta 16 (.vs F)⟩] ++ ([])) ⟨[.s true, .s true, .s true, .s false], 110⟩) (moreP (headOf Tryd.f80 0) ([]) Tryd.f80.ntmps ([(0, .v (.va 60 [] 1 0 16 16)), (1, vS w), (7, vN 16), (8, vN (i + 1))]) ([]) 140) =
    (OkL [(decide ((↑i : Int) < (16 : Int)), true), (decide ((0 : Int) ≤ (↑i : Int) ∧ (↑i : Int) < (↑(16 : Nat) : Int)), true), (((0 : Nat) + (↑i : Int).toNat).blt (16 : Nat), true), (w == F [(0 : Nat) + (↑i : Int).toNat], false)] ∧ headOf Tryd.f80 (0 : Nat) = headOf Tryd.f80 (0 : Nat) ∧ (((0 : Nat) = (0 : Nat) ∧ (16 : Nat) = (16 : Nat) ∧ (16 : Nat) = (16 : Nat)) ∧ w = w ∧ (16 : Int) = (16 : Int) ∧ (↑i : Int) + (1 : Int) = IntKind.i64.wrap ((↑i : Int) + (1 : Int))) ∧ True) := by kernel_rfl

set_option maxHeartbeats 4000000 in
theorem ixRound (F : Ix → List UInt8) (w : List UInt8) (i : Nat) (hi : i < 16) (hn : w ≠ F [i]) (v : SV) (L' : HF) (next : RunsTo Tryd.prog 80 (headOf Tryd.f80 0) (envAt Tryd.f80.ntmps ([(0, .v (.va 60 [] 1 0 16 16)), (1, vS w), (7, vN 16), (8, vN (i + 1))])) (Sx.look ([⟨60, false, none, 16, .ta 16 (.vs F)⟩] ++ ([]))) 80 (v) (L') 140) :
    RunsTo Tryd.prog 80 (headOf Tryd.f80 0) (envAt Tryd.f80.ntmps ([(0, .v (.va 60 [] 1 0 16 16)), (1, vS w), (7, vN 16), (8, vN i)])) (Sx.look ([⟨60, false, none, 16, .ta 16 (.vs F)⟩] ++ ([]))) 80 (v) (L') 140 := by
  have hw : IntKind.i64.wrap ((i : Int) + 1) = ((i + 1 : Nat) : Int) := by rw [wr64 (by omega)]; rfl
  refine runs_more baseO (More.of (ixRound_p0 F w i) ⟨?oo, rfl, ?rr⟩) (by kernel_rfl) (by kernel_rfl) rfl (gtL (by decide)) (by decide) next
  case oo =>
    clear next
    refine (okc ?_ (okc ?_ (okc ?_ (okc ?_ okn))))
    all_goals ((try simp (disch := omega) only [SS, hw]); first | done | omega | assumption | (simp (disch := omega) only [SS, hw] at *; first | done | omega | assumption) | (simp_all; done) | grind)
  case rr =>
    clear next
    try simp (disch := omega) only [SS, hw]
    repeat' apply And.intro
    all_goals first | exact True.intro | with_reducible rfl | omega | (intros; first | exact True.intro | with_reducible rfl | omega | (simp_all; done)) | (simp_all; done) | rfl

theorem ixHit_p0 (F : Ix → List UInt8) (w : List UInt8) (i : Nat) :
    isEnd (evTill Tryd.prog [] 300 (99) 900 80 (headOf Tryd.f80 0) (envAt Tryd.f80.ntmps ([(0, .v (.va 60 [] 1 0 16 16)), (1, vS w), (7, vN 16), (8, vN i)])) ([⟨60, false, none, 16, .ta 16 (.vs F)⟩] ++ ([])) ⟨[.s true, .s true, .s true, .s true], 110⟩) (endP ([]) (vN i) ([]) 140) =
    (OkL [(decide ((↑i : Int) < (16 : Int)), true), (decide ((0 : Int) ≤ (↑i : Int) ∧ (↑i : Int) < (↑(16 : Nat) : Int)), true), (((0 : Nat) + (↑i : Int).toNat).blt (16 : Nat), true), (w == F [(0 : Nat) + (↑i : Int).toNat], true)] ∧ (↑i : Int) = (↑i : Int) ∧ True) := by kernel_rfl

set_option maxHeartbeats 4000000 in
theorem ixHit (F : Ix → List UInt8) (w : List UInt8) (i : Nat) (hi : i < 16) (hn : w = F [i]) :
    RunsTo Tryd.prog 80 (headOf Tryd.f80 0) (envAt Tryd.f80.ntmps ([(0, .v (.va 60 [] 1 0 16 16)), (1, vS w), (7, vN 16), (8, vN i)])) (Sx.look ([⟨60, false, none, 16, .ta 16 (.vs F)⟩] ++ ([]))) 80 (vN i) (Sx.look ([])) 140 := by
  refine runs_last baseO (Sx.Ends.of (ixHit_p0 F w i) ⟨?oo, ?rr⟩) (by kernel_rfl) rfl (gtL (by decide)) (by decide)
  case oo =>
    refine (okc ?_ (okc ?_ (okc ?_ (okc ?_ okn))))
    all_goals ((try simp (disch := omega) only [SS]); first | done | omega | assumption | (simp (disch := omega) only [SS] at *; first | done | omega | assumption) | (simp_all; done) | grind)
  case rr =>
    try simp (disch := omega) only [SS]
    repeat' apply And.intro
    all_goals first | exact True.intro | with_reducible rfl | omega | (intros; first | exact True.intro | with_reducible rfl | omega | (simp_all; done)) | (simp_all; done) | rfl

theorem ixMiss_p0 (F : Ix → List UInt8) (w : List UInt8) (i : Nat) :
    isEnd (evTill Tryd.prog [] 300 (99) 900 80 (headOf Tryd.f80 0) (envAt Tryd.f80.ntmps ([(0, .v (.va 60 [] 1 0 16 16)), (1, vS w), (7, vN 16), (8, vN i)])) ([⟨60, false, none, 16, .ta 16 (.vs F)⟩] ++ ([])) ⟨[.s false], 110⟩) (endP ([]) (vN (-1)) ([]) 140) =
    (OkL [(decide ((↑i : Int) < (16 : Int)), false)] ∧ (-1 : Int) = (-1 : Int) ∧ True) := by kernel_rfl

set_option maxHeartbeats 4000000 in
theorem ixMiss (F : Ix → List UInt8) (w : List UInt8) (i : Nat) (hi : i = 16) :
    RunsTo Tryd.prog 80 (headOf Tryd.f80 0) (envAt Tryd.f80.ntmps ([(0, .v (.va 60 [] 1 0 16 16)), (1, vS w), (7, vN 16), (8, vN i)])) (Sx.look ([⟨60, false, none, 16, .ta 16 (.vs F)⟩] ++ ([]))) 80 (vN (-1)) (Sx.look ([])) 140 := by
  refine runs_last baseO (Sx.Ends.of (ixMiss_p0 F w i) ⟨?oo, ?rr⟩) (by kernel_rfl) rfl (gtL (by decide)) (by decide)
  case oo =>
    refine (okc ?_ okn)
    all_goals ((try simp (disch := omega) only [SS]); first | done | omega | assumption | (simp (disch := omega) only [SS] at *; first | done | omega | assumption) | (simp_all; done) | grind)
  case rr =>
    try simp (disch := omega) only [SS]
    repeat' apply And.intro
    all_goals first | exact True.intro | with_reducible rfl | omega | (intros; first | exact True.intro | with_reducible rfl | omega | (simp_all; done)) | (simp_all; done) | rfl

theorem ixI (F : Ix → List UInt8) (w : List UInt8) : RunsTo Tryd.prog 80 [.code (bodyOf Tryd.f80)] (envOf [.v (.va 60 [] 1 0 16 16), vS w] Tryd.f80.ntmps) (Sx.look ([⟨60, false, none, 16, .ta 16 (.vs F)⟩] ++ ([]))) 80 (vN (ixF F w 16 0)) (Sx.look []) 140 := by
  refine ixStart F w _ _ ?_
  suffices h : ∀ (k i : Nat), i + k = 16 → RunsTo Tryd.prog 80 (headOf Tryd.f80 0) (envAt Tryd.f80.ntmps ([(0, .v (.va 60 [] 1 0 16 16)), (1, vS w), (7, vN 16), (8, vN i)])) (Sx.look ([⟨60, false, none, 16, .ta 16 (.vs F)⟩] ++ ([]))) 80 (vN (ixF F w k i)) (Sx.look []) 140 from h 16 0 (by omega)
  intro k
  induction k with
  | zero => intro i hi; obtain rfl : i = 16 := by omega
            exact ixMiss F w 16 rfl
  | succ k ih =>
    intro i hi
    simp only [ixF]
    by_cases hn : w = F [i]
    · rw [if_pos hn]; exact ixHit F w i (by omega) hn
    · rw [if_neg hn]; exact ixRound F w i (by omega) hn _ _ (ih (i + 1) (by omega))
def ixP : PC := { args := [.v (.va 60 1 0 1 2), .v (.vs 3)], heap := [⟨60, false, 16, .tn 16 (.vs 5)⟩], gs := [], G := 25, tp := 223, n := 80, n' := 140, cond := fun e => decide (eN e 0 = 0) && decide (eN e 1 = 16) && decide (eN e 2 = 16), v := fun e => vN (ixF (eS e 5) (eS e 3 []) 16 0), post := fun e => [] }
theorem ixP_pc : PC.Runs Tryd.prog 80 Tryd.f80 (bodyOf Tryd.f80) ixP := ⟨Tryd.func80, by kernel_rfl, (fun g hg => by first | cases hg | (revert g; decide)), fun e H hc => by
  have hc : (decide (eN e 0 = 0) && decide (eN e 1 = 16) && decide (eN e 2 = 16)) = true := hc
  try simp only [Bool.and_eq_true, decide_eq_true_eq, Nat.beq_eq] at hc
  exact by obtain ⟨⟨h1, h2⟩, h3⟩ := hc; have t := ixI (eS e 5) (eS e 3 []); simp only [ixP, PC.pre, PC.cargs, textsIn, sentEnts, List.map, PE.inst, PF.inst, PA.inst, PT.inst, cst, h1, h2, h3, List.nil_append, List.append_nil]; exact t⟩
def sumsW : List (FuncId × Summ) := [(50, woP.summ 50)]
theorem baseW : Base0 Tryd.prog sumsW := (baseO.cons Tryd.func50 (by kernel_rfl) (PC.summ_ok woP_pc gtopG))
theorem rwStart_p0 (c : Int) :
    isMore (evTill Tryd.prog sumsW 300 (behind Tryd.f46 0) 900 46 [.code (bodyOf Tryd.f46)] (envOf [vN c] Tryd.f46.ntmps) ([] ++ ([])) ⟨[.t], 80⟩) (moreP (headOf Tryd.f46 0) ([]) Tryd.f46.ntmps ([(0, vN c), (5, vL 80 1 16), (6, vN 16), (7, vN 0)]) ([⟨80, true, none, 1, .ta 16 (.vs wF)⟩]) 140) =
    (OkL [] ∧ headOf Tryd.f46 (0 : Nat) = headOf Tryd.f46 (0 : Nat) ∧ (c = c ∧ ((0 : Nat) = (0 : Nat) ∧ (16 : Nat) = (16 : Nat)) ∧ (16 : Int) = (↑(16 : Nat) : Int) ∧ (0 : Int) = (0 : Int)) ∧ (16 : Nat) = (16 : Nat) ∧ ∀ (i : Nat), i < (16 : Nat) → wF [i] = wF [i]) := by kernel_rfl

set_option maxHeartbeats 4000000 in
theorem rwStart (c : Int)  (v : SV) (L' : HF) (next : RunsTo Tryd.prog 46 (headOf Tryd.f46 0) (envAt Tryd.f46.ntmps ([(0, vN c), (5, vL 80 1 16), (6, vN 16), (7, vN 0)])) (Sx.look ([] ++ ([⟨80, true, none, 1, .ta 16 (.vs wF)⟩]))) 80 (v) (L') 140) :
    RunsTo Tryd.prog 46 [.code (bodyOf Tryd.f46)] (envOf [vN c] Tryd.f46.ntmps) (Sx.look ([] ++ ([]))) 80 (v) (L') 140 := by
  refine runs_more baseW (More.of (rwStart_p0 c) ⟨?oo, rfl, ?rr⟩) (by kernel_rfl) (by kernel_rfl) rfl (gtL (by decide)) (by decide) next
  case oo =>
    clear next
    refine okn
    all_goals ((try simp (disch := omega) only [SS]); first | done | omega | assumption | (simp (disch := omega) only [SS] at *; first | done | omega | assumption) | (simp_all; done) | grind)
  case rr =>
    clear next
    try simp (disch := omega) only [SS]
    repeat' apply And.intro
    all_goals first | exact True.intro | with_reducible rfl | omega | (intros; first | exact True.intro | with_reducible rfl | omega | (simp_all; done)) | (simp_all; done) | rfl

theorem rwRound_p0 (c : Int) (i : Nat) :
    isMore (evTill Tryd.prog sumsW 300 (behind Tryd.f46 0) 900 46 (headOf Tryd.f46 0) (envAt Tryd.f46.ntmps ([(0, vN c), (5, vL 80 1 16), (6, vN 16), (7, vN i)])) ([] ++ ([⟨80, true, none, 1, .ta 16 (.vs wF)⟩])) ⟨[.s true, .s true, .s true, .s true, .s false], 110⟩) (moreP (headOf Tryd.f46 0) ([]) Tryd.f46.ntmps ([(0, vN c), (5, vL 80 1 16), (6, vN 16), (7, vN (i + 1))]) ([⟨80, true, none, 1, .ta 16 (.vs wF)⟩]) 140) =
    (OkL [(decide ((↑i : Int) < (16 : Int)), true), (decide ((0 : Int) ≤ (↑i : Int) ∧ (↑i : Int) < (↑(16 : Nat) : Int)), true), (((0 : Nat) + (↑i : Int).toNat).blt (16 : Nat), true), (((0 : Nat) + (↑i : Int).toNat).blt (16 : Nat), true), (IntKind.i64.wrap ((↑i : Int) + (240 : Int)) == c, false)] ∧ headOf Tryd.f46 (0 : Nat) = headOf Tryd.f46 (0 : Nat) ∧ (c = c ∧ ((0 : Nat) = (0 : Nat) ∧ (16 : Nat) = (16 : Nat)) ∧ (16 : Int) = (16 : Int) ∧ (↑i : Int) + (1 : Int) = IntKind.i64.wrap ((↑i : Int) + (1 : Int))) ∧ (16 : Nat) = (16 : Nat) ∧ ∀ (i : Nat), i < (16 : Nat) → wF [i] = wF [i]) := by kernel_rfl

set_option maxHeartbeats 4000000 in
theorem rwRound (c : Int) (i : Nat) (hi : i < 16) (hn : (i : Int) + 240 ≠ c) (v : SV) (L' : HF) (next : RunsTo Tryd.prog 46 (headOf Tryd.f46 0) (envAt Tryd.f46.ntmps ([(0, vN c), (5, vL 80 1 16), (6, vN 16), (7, vN (i + 1))])) (Sx.look ([] ++ ([⟨80, true, none, 1, .ta 16 (.vs wF)⟩]))) 80 (v) (L') 140) :
    RunsTo Tryd.prog 46 (headOf Tryd.f46 0) (envAt Tryd.f46.ntmps ([(0, vN c), (5, vL 80 1 16), (6, vN 16), (7, vN i)])) (Sx.look ([] ++ ([⟨80, true, none, 1, .ta 16 (.vs wF)⟩]))) 80 (v) (L') 140 := by
  have hw : IntKind.i64.wrap ((i : Int) + 1) = ((i + 1 : Nat) : Int) := by rw [wr64 (by omega)]; rfl
  have hv : IntKind.i64.wrap ((i : Int) + 240) = (i : Int) + 240 := wr64 (by omega)
  refine runs_more baseW (More.of (rwRound_p0 c i) ⟨?oo, rfl, ?rr⟩) (by kernel_rfl) (by kernel_rfl) rfl (gtL (by decide)) (by decide) next
  case oo =>
    clear next
    refine (okc ?_ (okc ?_ (okc ?_ (okc ?_ (okc ?_ okn)))))
    all_goals ((try simp (disch := omega) only [SS, hw, hv]); first | done | omega | assumption | (simp (disch := omega) only [SS, hw, hv] at *; first | done | omega | assumption) | (simp_all; done) | grind)
  case rr =>
    clear next
    try simp (disch := omega) only [SS, hw, hv]
    repeat' apply And.intro
    all_goals first | exact True.intro | with_reducible rfl | omega | (intros; first | exact True.intro | with_reducible rfl | omega | (simp_all; done)) | (simp_all; done) | rfl

theorem rwHit_p0 (c : Int) (i : Nat) :
    isEnd (evTill Tryd.prog sumsW 300 (99) 900 46 (headOf Tryd.f46 0) (envAt Tryd.f46.ntmps ([(0, vN c), (5, vL 80 1 16), (6, vN 16), (7, vN i)])) ([] ++ ([⟨80, true, none, 1, .ta 16 (.vs wF)⟩])) ⟨[.s true, .s true, .s true, .s true, .s true], 110⟩) (endP ([]) (vS (wF [i])) ([]) 140) =
    (OkL [(decide ((↑i : Int) < (16 : Int)), true), (decide ((0 : Int) ≤ (↑i : Int) ∧ (↑i : Int) < (↑(16 : Nat) : Int)), true), (((0 : Nat) + (↑i : Int).toNat).blt (16 : Nat), true), (((0 : Nat) + (↑i : Int).toNat).blt (16 : Nat), true), (IntKind.i64.wrap ((↑i : Int) + (240 : Int)) == c, true)] ∧ wF [i] = wF [(0 : Nat) + (↑i : Int).toNat] ∧ True) := by kernel_rfl

set_option maxHeartbeats 4000000 in
theorem rwHit (c : Int) (i : Nat) (hi : i < 16) (hn : (i : Int) + 240 = c) :
    RunsTo Tryd.prog 46 (headOf Tryd.f46 0) (envAt Tryd.f46.ntmps ([(0, vN c), (5, vL 80 1 16), (6, vN 16), (7, vN i)])) (Sx.look ([] ++ ([⟨80, true, none, 1, .ta 16 (.vs wF)⟩]))) 80 (vS (wF [i])) (Sx.look ([])) 140 := by
  have hw : IntKind.i64.wrap ((i : Int) + 1) = ((i + 1 : Nat) : Int) := by rw [wr64 (by omega)]; rfl
  have hv : IntKind.i64.wrap ((i : Int) + 240) = (i : Int) + 240 := wr64 (by omega)
  refine runs_last baseW (Sx.Ends.of (rwHit_p0 c i) ⟨?oo, ?rr⟩) (by kernel_rfl) rfl (gtL (by decide)) (by decide)
  case oo =>
    refine (okc ?_ (okc ?_ (okc ?_ (okc ?_ (okc ?_ okn)))))
    all_goals ((try simp (disch := omega) only [SS, hw, hv]); first | done | omega | assumption | (simp (disch := omega) only [SS, hw, hv] at *; first | done | omega | assumption) | (simp_all; done) | grind)
  case rr =>
    try simp (disch := omega) only [SS, hw, hv]
    repeat' apply And.intro
    all_goals first | exact True.intro | with_reducible rfl | omega | (intros; first | exact True.intro | with_reducible rfl | omega | (simp_all; done)) | (simp_all; done) | rfl

theorem rwMiss_p0 (c : Int) (i : Nat) :
    isEnd (evTill Tryd.prog sumsW 300 (99) 900 46 (headOf Tryd.f46 0) (envAt Tryd.f46.ntmps ([(0, vN c), (5, vL 80 1 16), (6, vN 16), (7, vN i)])) ([] ++ ([⟨80, true, none, 1, .ta 16 (.vs wF)⟩])) ⟨[.s false], 110⟩) (endP ([]) (vS []) ([]) 140) =
    (OkL [(decide ((↑i : Int) < (16 : Int)), false)] ∧ ([] : List UInt8) = [] ∧ True) := by kernel_rfl

set_option maxHeartbeats 4000000 in
theorem rwMiss (c : Int) (i : Nat) (hi : i = 16) :
    RunsTo Tryd.prog 46 (headOf Tryd.f46 0) (envAt Tryd.f46.ntmps ([(0, vN c), (5, vL 80 1 16), (6, vN 16), (7, vN i)])) (Sx.look ([] ++ ([⟨80, true, none, 1, .ta 16 (.vs wF)⟩]))) 80 (vS []) (Sx.look ([])) 140 := by
  refine runs_last baseW (Sx.Ends.of (rwMiss_p0 c i) ⟨?oo, ?rr⟩) (by kernel_rfl) rfl (gtL (by decide)) (by decide)
  case oo =>
    refine (okc ?_ okn)
    all_goals ((try simp (disch := omega) only [SS]); first | done | omega | assumption | (simp (disch := omega) only [SS] at *; first | done | omega | assumption) | (simp_all; done) | grind)
  case rr =>
    try simp (disch := omega) only [SS]
    repeat' apply And.intro
    all_goals first | exact True.intro | with_reducible rfl | omega | (intros; first | exact True.intro | with_reducible rfl | omega | (simp_all; done)) | (simp_all; done) | rfl

theorem rwI (c : Int) : RunsTo Tryd.prog 46 [.code (bodyOf Tryd.f46)] (envOf [vN c] Tryd.f46.ntmps) (Sx.look ([] ++ ([]))) 80 (vS (wordC c)) (Sx.look []) 140 := by
  refine rwStart c _ _ ?_
  suffices h : ∀ (k i : Nat), i + k = 16 → (240 ≤ c ∧ c ≤ 255 → (i : Int) + 240 ≤ c) → RunsTo Tryd.prog 46 (headOf Tryd.f46 0) (envAt Tryd.f46.ntmps ([(0, vN c), (5, vL 80 1 16), (6, vN 16), (7, vN i)])) (Sx.look ([] ++ ([⟨80, true, none, 1, .ta 16 (.vs wF)⟩]))) 80 (vS (wordC c)) (Sx.look []) 140 from h 16 0 (by omega) (by omega)
  intro k
  induction k with
  | zero => intro i hi hc; obtain rfl : i = 16 := by omega
            have : wordC c = [] := if_neg (by omega)
            rw [this]
            exact rwMiss c 16 rfl
  | succ k ih =>
    intro i hi hc
    by_cases hn : (i : Int) + 240 = c
    · have : wordC c = wF [i] := by unfold wordC; rw [if_pos (by omega), show (c - 240).toNat = i by omega]
      rw [this]; exact rwHit c i (by omega) hn
    · exact rwRound c i (by omega) hn _ _ (ih (i + 1) (by omega) (by omega))
def rwP : PC := { args := [.v (.vi .i64 0)], heap := [], gs := [], G := 25, tp := 223, n := 80, n' := 140, cond := fun e => true, v := fun e => vS (wordC (eI e 0 [])), post := fun e => [] }
theorem rwP_pc : PC.Runs Tryd.prog 46 Tryd.f46 (bodyOf Tryd.f46) rwP := ⟨Tryd.func46, by kernel_rfl, (fun g hg => by first | cases hg | (revert g; decide)), fun e H hc => by
  have hc : (true) = true := hc
  try simp only [Bool.and_eq_true, decide_eq_true_eq, Nat.beq_eq] at hc
  exact rwI (eI e 0 [])⟩
end Go.Proofs.YtealbjkhjpmilaaDoor
