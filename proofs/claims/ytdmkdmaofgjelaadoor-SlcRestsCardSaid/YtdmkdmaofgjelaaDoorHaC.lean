/- Special characters, by acts: what the parts do. -/
import Derived.Test.YtdmkdmaofgjelaaDoorChecked
import Derived.Test.YtdmkdmaofgjelaaDoorSyPl
set_option linter.unusedSimpArgs false
set_option linter.unusedVariables false
set_option maxRecDepth 100000
namespace Go.Proofs.YtdmkdmaofgjelaaDoor
open Go.Sx

def setE (p N : Nat) (L V : Ix → Int) : List Ent := [⟨p, false, none, 2, .ta N (.tc (.vi .i64 L) (.tc (.vi .i64 V) .t0))⟩]
def setV (p N : Nat) : SV := .v (.vl p (fun _ => 0) 2 [] (fun _ => N))
def sideE (p : Nat) (hL hV oL oV : Ix → Int) (wt : Ix → Bool) : List Ent := [⟨p, true, none, 95, .tc (.ta 19 (.tc (.tc (.vi .i64 hL) (.tc (.vi .i64 hV) .t0)) (.tc (.tc (.vi .i64 oL) (.tc (.vi .i64 oV) .t0)) (.tc (.vb wt) .t0)))) .t0⟩]
def refE (p : Nat) (hL hV oL oV : Ix → Int) (wt : Ix → Bool) : List Ent := [⟨p, true, none, 95, .tc (.ta 19 (.tc (.vi .i64 hL) (.tc (.vi .i64 hV) .t0))) (.tc (.ta 19 (.tc (.vi .i64 oL) (.tc (.vi .i64 oV) .t0))) (.tc (.ta 19 (.vb wt)) .t0))⟩]
def triT (f l v : Int) (a : Bool) : Tr := .tc (.vi .i64 fun _ => f) (.tc (.tc (.vi .i64 fun _ => l) (.tc (.vi .i64 fun _ => v) .t0)) (.tc (.vb fun _ => a) .t0))
def setT (l v : Int) : Tr := .tc (.vi .i64 fun _ => l) (.tc (.vi .i64 fun _ => v) .t0)
abbrev vN (a : Int) : SV := .v (.vi .i64 fun _ => a)
abbrev vP (p : Nat) : SV := .v (.vp p (fun _ => 0) [])

theorem goodP : PGood Tryd.prog := good_of (by kernel_rfl) (by kernel_rfl)
theorem gtopP : gtop Tryd.prog ≤ 100 := of_decide_eq_true (by kernel_rfl)
theorem gtop32 : gtop Tryd.prog = 32 := of_decide_eq_true (by kernel_rfl)
theorem gtL {n : Nat} (h : 32 ≤ n) : gtop Tryd.prog ≤ n := Nat.le_trans (Nat.le_of_eq gtop32) h
theorem baseO : Base0 Tryd.prog [] := Base0.nil goodP
abbrev YES : SV := .v (.vb fun _ => true)
def fineB (l v : Int) : Bool := decide (0 ≤ l) && decide (l ≤ 3) && decide (0 ≤ v) && decide (v ≤ 255) && (!(decide (l = 0) || decide (l = 3)) || decide (v = 0))
def rightT (f l v : Int) : Bool := decide (1 ≤ f) && decide (f ≤ 18) && fineB l v
def zI : Ix → Int := fun _ => 0
def zB : Ix → Bool := fun _ => false

theorem fineI_p0 (l v : Int) :
    isEnd (evTill Tryd.prog [] 100 (99) 900 60 [.code (bodyOf Tryd.f60)] (envOf [.agg (setT l v)] Tryd.f60.ntmps) ([]) ⟨[.s false, .s false], 80⟩) (endP ([]) (.v (.vb fun _ => fineB l v)) [] 100) =
    (OkL [(l == (0 : Int), false), (decide (l ≥ (0 : Int)), false)] ∧ fineB l v = false ∧ True) := by kernel_rfl
theorem fineI_p1 (l v : Int) :
    isEnd (evTill Tryd.prog [] 100 (99) 900 60 [.code (bodyOf Tryd.f60)] (envOf [.agg (setT l v)] Tryd.f60.ntmps) ([]) ⟨[.s false, .s true, .s false], 80⟩) (endP ([]) (.v (.vb fun _ => fineB l v)) [] 100) =
    (OkL [(l == (0 : Int), false), (decide (l ≥ (0 : Int)), true), (decide (l ≤ (3 : Int)), false)] ∧ fineB l v = false ∧ True) := by kernel_rfl
theorem fineI_p2 (l v : Int) :
    isEnd (evTill Tryd.prog [] 100 (99) 900 60 [.code (bodyOf Tryd.f60)] (envOf [.agg (setT l v)] Tryd.f60.ntmps) ([]) ⟨[.s false, .s true, .s true, .s false], 80⟩) (endP ([]) (.v (.vb fun _ => fineB l v)) [] 100) =
    (OkL [(l == (0 : Int), false), (decide (l ≥ (0 : Int)), true), (decide (l ≤ (3 : Int)), true), (decide (v ≥ (0 : Int)), false)] ∧ fineB l v = false ∧ True) := by kernel_rfl
theorem fineI_p3 (l v : Int) :
    isEnd (evTill Tryd.prog [] 100 (99) 900 60 [.code (bodyOf Tryd.f60)] (envOf [.agg (setT l v)] Tryd.f60.ntmps) ([]) ⟨[.s false, .s true, .s true, .s true, .s false], 80⟩) (endP ([]) (.v (.vb fun _ => fineB l v)) [] 100) =
    (OkL [(l == (0 : Int), false), (decide (l ≥ (0 : Int)), true), (decide (l ≤ (3 : Int)), true), (decide (v ≥ (0 : Int)), true), (decide (v ≤ (255 : Int)), false)] ∧ fineB l v = false ∧ True) := by kernel_rfl
theorem fineI_p4 (l v : Int) :
    isEnd (evTill Tryd.prog [] 100 (99) 900 60 [.code (bodyOf Tryd.f60)] (envOf [.agg (setT l v)] Tryd.f60.ntmps) ([]) ⟨[.s false, .s true, .s true, .s true, .s true, .s false], 80⟩) (endP ([]) (.v (.vb fun _ => fineB l v)) [] 100) =
    (OkL [(l == (0 : Int), false), (decide (l ≥ (0 : Int)), true), (decide (l ≤ (3 : Int)), true), (decide (v ≥ (0 : Int)), true), (decide (v ≤ (255 : Int)), true), (!l == (3 : Int), false)] ∧ fineB l v = (v == (0 : Int)) ∧ True) := by kernel_rfl
theorem fineI_p5 (l v : Int) :
    isEnd (evTill Tryd.prog [] 100 (99) 900 60 [.code (bodyOf Tryd.f60)] (envOf [.agg (setT l v)] Tryd.f60.ntmps) ([]) ⟨[.s false, .s true, .s true, .s true, .s true, .s true], 80⟩) (endP ([]) (.v (.vb fun _ => fineB l v)) [] 100) =
    (OkL [(l == (0 : Int), false), (decide (l ≥ (0 : Int)), true), (decide (l ≤ (3 : Int)), true), (decide (v ≥ (0 : Int)), true), (decide (v ≤ (255 : Int)), true), (!l == (3 : Int), true)] ∧ fineB l v = true ∧ True) := by kernel_rfl
theorem fineI_p6 (l v : Int) :
    isEnd (evTill Tryd.prog [] 100 (99) 900 60 [.code (bodyOf Tryd.f60)] (envOf [.agg (setT l v)] Tryd.f60.ntmps) ([]) ⟨[.s true, .s true, .s true, .s false], 80⟩) (endP ([]) (.v (.vb fun _ => fineB l v)) [] 100) =
    (OkL [(l == (0 : Int), true), (decide (l ≥ (0 : Int)), true), (decide (l ≤ (3 : Int)), true), (decide (v ≥ (0 : Int)), false)] ∧ fineB l v = false ∧ True) := by kernel_rfl
theorem fineI_p7 (l v : Int) :
    isEnd (evTill Tryd.prog [] 100 (99) 900 60 [.code (bodyOf Tryd.f60)] (envOf [.agg (setT l v)] Tryd.f60.ntmps) ([]) ⟨[.s true, .s true, .s true, .s true, .s false], 80⟩) (endP ([]) (.v (.vb fun _ => fineB l v)) [] 100) =
    (OkL [(l == (0 : Int), true), (decide (l ≥ (0 : Int)), true), (decide (l ≤ (3 : Int)), true), (decide (v ≥ (0 : Int)), true), (decide (v ≤ (255 : Int)), false)] ∧ fineB l v = false ∧ True) := by kernel_rfl
theorem fineI_p8 (l v : Int) :
    isEnd (evTill Tryd.prog [] 100 (99) 900 60 [.code (bodyOf Tryd.f60)] (envOf [.agg (setT l v)] Tryd.f60.ntmps) ([]) ⟨[.s true, .s true, .s true, .s true, .s true], 80⟩) (endP ([]) (.v (.vb fun _ => fineB l v)) [] 100) =
    (OkL [(l == (0 : Int), true), (decide (l ≥ (0 : Int)), true), (decide (l ≤ (3 : Int)), true), (decide (v ≥ (0 : Int)), true), (decide (v ≤ (255 : Int)), true)] ∧ fineB l v = (v == (0 : Int)) ∧ True) := by kernel_rfl

set_option maxHeartbeats 4000000 in
theorem fineI (l v : Int)  :
    RunsTo Tryd.prog 60 [.code (bodyOf Tryd.f60)] (envOf [.agg (setT l v)] Tryd.f60.ntmps) (Sx.look ([])) 80 (.v (.vb fun _ => fineB l v)) (Sx.look ([])) 100 := by
  refine bcase (c := (l == (0 : Int))) (fun gg0 => ?_) (fun gg0 => ?_)
  · refine bcase (c := (decide (l ≥ (0 : Int)))) (fun gg1 => ?_) (fun gg1 => ?_)
    · refine runs_last baseO (Sx.Ends.of (fineI_p0 l v) ⟨(okc gg0 (okc gg1 okn)), ?_⟩) (by kernel_rfl) rfl (gtL (by decide)) (by decide)
      simp only [dT, dF, nltT, nltF, nleT, nleF, neqT, neqF, ieqT, ieqF, ineT, ineF, notT, notF, andT, andF, orT, orF] at *
      refine ⟨?_, trivial⟩
      rw [Bool.eq_iff_iff]
      simp [fineB]
      all_goals omega
    · refine bcase (c := (decide (l ≤ (3 : Int)))) (fun gg2 => ?_) (fun gg2 => ?_)
      · refine runs_last baseO (Sx.Ends.of (fineI_p1 l v) ⟨(okc gg0 (okc gg1 (okc gg2 okn))), ?_⟩) (by kernel_rfl) rfl (gtL (by decide)) (by decide)
        simp only [dT, dF, nltT, nltF, nleT, nleF, neqT, neqF, ieqT, ieqF, ineT, ineF, notT, notF, andT, andF, orT, orF] at *
        refine ⟨?_, trivial⟩
        rw [Bool.eq_iff_iff]
        simp [fineB]
        all_goals omega
      · refine bcase (c := (decide (v ≥ (0 : Int)))) (fun gg3 => ?_) (fun gg3 => ?_)
        · refine runs_last baseO (Sx.Ends.of (fineI_p2 l v) ⟨(okc gg0 (okc gg1 (okc gg2 (okc gg3 okn)))), ?_⟩) (by kernel_rfl) rfl (gtL (by decide)) (by decide)
          simp only [dT, dF, nltT, nltF, nleT, nleF, neqT, neqF, ieqT, ieqF, ineT, ineF, notT, notF, andT, andF, orT, orF] at *
          refine ⟨?_, trivial⟩
          rw [Bool.eq_iff_iff]
          simp [fineB]
          all_goals omega
        · refine bcase (c := (decide (v ≤ (255 : Int)))) (fun gg4 => ?_) (fun gg4 => ?_)
          · refine runs_last baseO (Sx.Ends.of (fineI_p3 l v) ⟨(okc gg0 (okc gg1 (okc gg2 (okc gg3 (okc gg4 okn))))), ?_⟩) (by kernel_rfl) rfl (gtL (by decide)) (by decide)
            simp only [dT, dF, nltT, nltF, nleT, nleF, neqT, neqF, ieqT, ieqF, ineT, ineF, notT, notF, andT, andF, orT, orF] at *
            refine ⟨?_, trivial⟩
            rw [Bool.eq_iff_iff]
            simp [fineB]
            all_goals omega
          · refine bcase (c := (!l == (3 : Int))) (fun gg5 => ?_) (fun gg5 => ?_)
            · refine runs_last baseO (Sx.Ends.of (fineI_p4 l v) ⟨(okc gg0 (okc gg1 (okc gg2 (okc gg3 (okc gg4 (okc gg5 okn)))))), ?_⟩) (by kernel_rfl) rfl (gtL (by decide)) (by decide)
              simp only [dT, dF, nltT, nltF, nleT, nleF, neqT, neqF, ieqT, ieqF, ineT, ineF, notT, notF, andT, andF, orT, orF] at *
              refine ⟨?_, trivial⟩
              rw [Bool.eq_iff_iff]
              simp [fineB]
              all_goals omega
            · refine runs_last baseO (Sx.Ends.of (fineI_p5 l v) ⟨(okc gg0 (okc gg1 (okc gg2 (okc gg3 (okc gg4 (okc gg5 okn)))))), ?_⟩) (by kernel_rfl) rfl (gtL (by decide)) (by decide)
              simp only [dT, dF, nltT, nltF, nleT, nleF, neqT, neqF, ieqT, ieqF, ineT, ineF, notT, notF, andT, andF, orT, orF] at *
              refine ⟨?_, trivial⟩
              rw [Bool.eq_iff_iff]
              simp [fineB]
              all_goals omega
  · have gg1 : (decide (l ≥ (0 : Int))) = true := by first | (simp (disch := omega) only [dT, dF, nltT, nltF, nleT, nleF, neqT, neqF, ieqT, ieqF, ineT, ineF, notT, notF, andT, andF, orT, orF, wr64s, Int.toNat_natCast, Nat.zero_add, Nat.add_zero] at *; omega) | (simp (disch := omega) only [dT, dF, nltT, nltF, nleT, nleF, neqT, neqF, ieqT, ieqF, ineT, ineF, notT, notF, andT, andF, orT, orF, wr64s, Int.toNat_natCast, Nat.zero_add, Nat.add_zero] at *; done) | (simp_all; done)
    have gg2 : (decide (l ≤ (3 : Int))) = true := by first | (simp (disch := omega) only [dT, dF, nltT, nltF, nleT, nleF, neqT, neqF, ieqT, ieqF, ineT, ineF, notT, notF, andT, andF, orT, orF, wr64s, Int.toNat_natCast, Nat.zero_add, Nat.add_zero] at *; omega) | (simp (disch := omega) only [dT, dF, nltT, nltF, nleT, nleF, neqT, neqF, ieqT, ieqF, ineT, ineF, notT, notF, andT, andF, orT, orF, wr64s, Int.toNat_natCast, Nat.zero_add, Nat.add_zero] at *; done) | (simp_all; done)
    refine bcase (c := (decide (v ≥ (0 : Int)))) (fun gg3 => ?_) (fun gg3 => ?_)
    · refine runs_last baseO (Sx.Ends.of (fineI_p6 l v) ⟨(okc gg0 (okc gg1 (okc gg2 (okc gg3 okn)))), ?_⟩) (by kernel_rfl) rfl (gtL (by decide)) (by decide)
      simp only [dT, dF, nltT, nltF, nleT, nleF, neqT, neqF, ieqT, ieqF, ineT, ineF, notT, notF, andT, andF, orT, orF] at *
      refine ⟨?_, trivial⟩
      rw [Bool.eq_iff_iff]
      simp [fineB]
      all_goals omega
    · refine bcase (c := (decide (v ≤ (255 : Int)))) (fun gg4 => ?_) (fun gg4 => ?_)
      · refine runs_last baseO (Sx.Ends.of (fineI_p7 l v) ⟨(okc gg0 (okc gg1 (okc gg2 (okc gg3 (okc gg4 okn))))), ?_⟩) (by kernel_rfl) rfl (gtL (by decide)) (by decide)
        simp only [dT, dF, nltT, nltF, nleT, nleF, neqT, neqF, ieqT, ieqF, ineT, ineF, notT, notF, andT, andF, orT, orF] at *
        refine ⟨?_, trivial⟩
        rw [Bool.eq_iff_iff]
        simp [fineB]
        all_goals omega
      · refine runs_last baseO (Sx.Ends.of (fineI_p8 l v) ⟨(okc gg0 (okc gg1 (okc gg2 (okc gg3 (okc gg4 okn))))), ?_⟩) (by kernel_rfl) rfl (gtL (by decide)) (by decide)
        simp only [dT, dF, nltT, nltF, nleT, nleF, neqT, neqF, ieqT, ieqF, ineT, ineF, notT, notF, andT, andF, orT, orF] at *
        refine ⟨?_, trivial⟩
        rw [Bool.eq_iff_iff]
        simp [fineB]
        all_goals omega

theorem fineR_p0 (l v : Int) :
    isEnd (evTill Tryd.prog [] 100 (99) 900 62 [.code (bodyOf Tryd.f62)] (envOf [.agg (setT l v)] Tryd.f62.ntmps) ([]) ⟨[.s false, .s false, .s false, .s false], 80⟩) (endP ([]) (.v (.vb fun _ => fineB l v)) [] 100) =
    (OkL [(l == (0 : Int), false), (l == (3 : Int), false), (l == (1 : Int), false), (l == (2 : Int), false)] ∧ fineB l v = false ∧ True) := by kernel_rfl
theorem fineR_p1 (l v : Int) :
    isEnd (evTill Tryd.prog [] 100 (99) 900 62 [.code (bodyOf Tryd.f62)] (envOf [.agg (setT l v)] Tryd.f62.ntmps) ([]) ⟨[.s false, .s false, .s false, .s true, .s false], 80⟩) (endP ([]) (.v (.vb fun _ => fineB l v)) [] 100) =
    (OkL [(l == (0 : Int), false), (l == (3 : Int), false), (l == (1 : Int), false), (l == (2 : Int), true), (decide (v ≥ (0 : Int)), false)] ∧ fineB l v = false ∧ True) := by kernel_rfl
theorem fineR_p2 (l v : Int) :
    isEnd (evTill Tryd.prog [] 100 (99) 900 62 [.code (bodyOf Tryd.f62)] (envOf [.agg (setT l v)] Tryd.f62.ntmps) ([]) ⟨[.s false, .s false, .s false, .s true, .s true], 80⟩) (endP ([]) (.v (.vb fun _ => fineB l v)) [] 100) =
    (OkL [(l == (0 : Int), false), (l == (3 : Int), false), (l == (1 : Int), false), (l == (2 : Int), true), (decide (v ≥ (0 : Int)), true)] ∧ fineB l v = decide (v < (256 : Int)) ∧ True) := by kernel_rfl
theorem fineR_p3 (l v : Int) :
    isEnd (evTill Tryd.prog [] 100 (99) 900 62 [.code (bodyOf Tryd.f62)] (envOf [.agg (setT l v)] Tryd.f62.ntmps) ([]) ⟨[.s false, .s false, .s true, .s false], 80⟩) (endP ([]) (.v (.vb fun _ => fineB l v)) [] 100) =
    (OkL [(l == (0 : Int), false), (l == (3 : Int), false), (l == (1 : Int), true), (decide (v ≥ (0 : Int)), false)] ∧ fineB l v = false ∧ True) := by kernel_rfl
theorem fineR_p4 (l v : Int) :
    isEnd (evTill Tryd.prog [] 100 (99) 900 62 [.code (bodyOf Tryd.f62)] (envOf [.agg (setT l v)] Tryd.f62.ntmps) ([]) ⟨[.s false, .s false, .s true, .s true], 80⟩) (endP ([]) (.v (.vb fun _ => fineB l v)) [] 100) =
    (OkL [(l == (0 : Int), false), (l == (3 : Int), false), (l == (1 : Int), true), (decide (v ≥ (0 : Int)), true)] ∧ fineB l v = decide (v < (256 : Int)) ∧ True) := by kernel_rfl
theorem fineR_p5 (l v : Int) :
    isEnd (evTill Tryd.prog [] 100 (99) 900 62 [.code (bodyOf Tryd.f62)] (envOf [.agg (setT l v)] Tryd.f62.ntmps) ([]) ⟨[.s false, .s true], 80⟩) (endP ([]) (.v (.vb fun _ => fineB l v)) [] 100) =
    (OkL [(l == (0 : Int), false), (l == (3 : Int), true)] ∧ fineB l v = (v == (0 : Int)) ∧ True) := by kernel_rfl
theorem fineR_p6 (l v : Int) :
    isEnd (evTill Tryd.prog [] 100 (99) 900 62 [.code (bodyOf Tryd.f62)] (envOf [.agg (setT l v)] Tryd.f62.ntmps) ([]) ⟨[.s true], 80⟩) (endP ([]) (.v (.vb fun _ => fineB l v)) [] 100) =
    (OkL [(l == (0 : Int), true)] ∧ fineB l v = (v == (0 : Int)) ∧ True) := by kernel_rfl

set_option maxHeartbeats 4000000 in
theorem fineR (l v : Int)  :
    RunsTo Tryd.prog 62 [.code (bodyOf Tryd.f62)] (envOf [.agg (setT l v)] Tryd.f62.ntmps) (Sx.look ([])) 80 (.v (.vb fun _ => fineB l v)) (Sx.look ([])) 100 := by
  refine bcase (c := (l == (0 : Int))) (fun gg0 => ?_) (fun gg0 => ?_)
  · refine bcase (c := (l == (3 : Int))) (fun gg1 => ?_) (fun gg1 => ?_)
    · refine bcase (c := (l == (1 : Int))) (fun gg2 => ?_) (fun gg2 => ?_)
      · refine bcase (c := (l == (2 : Int))) (fun gg3 => ?_) (fun gg3 => ?_)
        · refine runs_last baseO (Sx.Ends.of (fineR_p0 l v) ⟨(okc gg0 (okc gg1 (okc gg2 (okc gg3 okn)))), ?_⟩) (by kernel_rfl) rfl (gtL (by decide)) (by decide)
          simp only [dT, dF, nltT, nltF, nleT, nleF, neqT, neqF, ieqT, ieqF, ineT, ineF, notT, notF, andT, andF, orT, orF] at *
          refine ⟨?_, trivial⟩
          rw [Bool.eq_iff_iff]
          simp [fineB]
          all_goals omega
        · refine bcase (c := (decide (v ≥ (0 : Int)))) (fun gg4 => ?_) (fun gg4 => ?_)
          · refine runs_last baseO (Sx.Ends.of (fineR_p1 l v) ⟨(okc gg0 (okc gg1 (okc gg2 (okc gg3 (okc gg4 okn))))), ?_⟩) (by kernel_rfl) rfl (gtL (by decide)) (by decide)
            simp only [dT, dF, nltT, nltF, nleT, nleF, neqT, neqF, ieqT, ieqF, ineT, ineF, notT, notF, andT, andF, orT, orF] at *
            refine ⟨?_, trivial⟩
            rw [Bool.eq_iff_iff]
            simp [fineB]
            all_goals omega
          · refine runs_last baseO (Sx.Ends.of (fineR_p2 l v) ⟨(okc gg0 (okc gg1 (okc gg2 (okc gg3 (okc gg4 okn))))), ?_⟩) (by kernel_rfl) rfl (gtL (by decide)) (by decide)
            simp only [dT, dF, nltT, nltF, nleT, nleF, neqT, neqF, ieqT, ieqF, ineT, ineF, notT, notF, andT, andF, orT, orF] at *
            refine ⟨?_, trivial⟩
            rw [Bool.eq_iff_iff]
            simp [fineB]
            all_goals omega
      · refine bcase (c := (decide (v ≥ (0 : Int)))) (fun gg3 => ?_) (fun gg3 => ?_)
        · refine runs_last baseO (Sx.Ends.of (fineR_p3 l v) ⟨(okc gg0 (okc gg1 (okc gg2 (okc gg3 okn)))), ?_⟩) (by kernel_rfl) rfl (gtL (by decide)) (by decide)
          simp only [dT, dF, nltT, nltF, nleT, nleF, neqT, neqF, ieqT, ieqF, ineT, ineF, notT, notF, andT, andF, orT, orF] at *
          refine ⟨?_, trivial⟩
          rw [Bool.eq_iff_iff]
          simp [fineB]
          all_goals omega
        · refine runs_last baseO (Sx.Ends.of (fineR_p4 l v) ⟨(okc gg0 (okc gg1 (okc gg2 (okc gg3 okn)))), ?_⟩) (by kernel_rfl) rfl (gtL (by decide)) (by decide)
          simp only [dT, dF, nltT, nltF, nleT, nleF, neqT, neqF, ieqT, ieqF, ineT, ineF, notT, notF, andT, andF, orT, orF] at *
          refine ⟨?_, trivial⟩
          rw [Bool.eq_iff_iff]
          simp [fineB]
          all_goals omega
    · refine runs_last baseO (Sx.Ends.of (fineR_p5 l v) ⟨(okc gg0 (okc gg1 okn)), ?_⟩) (by kernel_rfl) rfl (gtL (by decide)) (by decide)
      simp only [dT, dF, nltT, nltF, nleT, nleF, neqT, neqF, ieqT, ieqF, ineT, ineF, notT, notF, andT, andF, orT, orF] at *
      refine ⟨?_, trivial⟩
      rw [Bool.eq_iff_iff]
      simp [fineB]
      all_goals omega
  · refine runs_last baseO (Sx.Ends.of (fineR_p6 l v) ⟨(okc gg0 okn), ?_⟩) (by kernel_rfl) rfl (gtL (by decide)) (by decide)
    simp only [dT, dF, nltT, nltF, nleT, nleF, neqT, neqF, ieqT, ieqF, ineT, ineF, notT, notF, andT, andF, orT, orF] at *
    refine ⟨?_, trivial⟩
    rw [Bool.eq_iff_iff]
    simp [fineB]
    all_goals omega

def finePC : PC := { args := [.agg (.tc (.vi .i64 0) (.tc (.vi .i64 1) .t0))], heap := [], gs := [], G := 16, tp := 140, n := 80, n' := 100, cond := fun _ => true, v := fun e => .v (.vb fun _ => fineB (eI e 0 []) (eI e 1 [])), post := fun _ => [] }
theorem fineI_pc : PC.Runs Tryd.prog 60 Tryd.f60 (bodyOf Tryd.f60) finePC := ⟨Tryd.func60, by kernel_rfl, (fun g hg => by cases hg), fun e H _ => fineI (eI e 0 []) (eI e 1 [])⟩
theorem fineR_pc : PC.Runs Tryd.prog 62 Tryd.f62 (bodyOf Tryd.f62) finePC := ⟨Tryd.func62, by kernel_rfl, (fun g hg => by cases hg), fun e H _ => fineR (eI e 0 []) (eI e 1 [])⟩
def sumsF : List (FuncId × Summ) := [(60, finePC.summ 32), (62, finePC.summ 32)]
theorem baseF : Base0 Tryd.prog sumsF := (baseO.cons Tryd.func62 (by kernel_rfl) (PC.summ_ok fineR_pc gtop32)).cons Tryd.func60 (by kernel_rfl) (PC.summ_ok fineI_pc gtop32)

theorem rightI_p0 (f l v : Int) (a : Bool) :
    isEnd (evTill Tryd.prog sumsF 100 (99) 900 47 [.code (bodyOf Tryd.f47)] (envOf [.agg (triT f l v a)] Tryd.f47.ntmps) ([]) ⟨[.s false], 80⟩) (endP ([]) (.v (.vb fun _ => rightT f l v)) [] 120) =
    (OkL [(decide (f ≥ (1 : Int)), false)] ∧ rightT f l v = false ∧ True) := by kernel_rfl
theorem rightI_p1 (f l v : Int) (a : Bool) :
    isEnd (evTill Tryd.prog sumsF 100 (99) 900 47 [.code (bodyOf Tryd.f47)] (envOf [.agg (triT f l v a)] Tryd.f47.ntmps) ([]) ⟨[.s true, .s false], 80⟩) (endP ([]) (.v (.vb fun _ => rightT f l v)) [] 120) =
    (OkL [(decide (f ≥ (1 : Int)), true), (decide (f ≤ (18 : Int)), false)] ∧ rightT f l v = false ∧ True) := by kernel_rfl
theorem rightI_p2 (f l v : Int) (a : Bool) :
    isEnd (evTill Tryd.prog sumsF 100 (99) 900 47 [.code (bodyOf Tryd.f47)] (envOf [.agg (triT f l v a)] Tryd.f47.ntmps) ([]) ⟨[.s true, .s true, .t], 80⟩) (endP ([]) (.v (.vb fun _ => rightT f l v)) [] 120) =
    (OkL [(decide (f ≥ (1 : Int)), true), (decide (f ≤ (18 : Int)), true)] ∧ rightT f l v = fineB l v ∧ True) := by kernel_rfl

set_option maxHeartbeats 4000000 in
theorem rightI (f l v : Int) (a : Bool)  :
    RunsTo Tryd.prog 47 [.code (bodyOf Tryd.f47)] (envOf [.agg (triT f l v a)] Tryd.f47.ntmps) (Sx.look ([])) 80 (.v (.vb fun _ => rightT f l v)) (Sx.look ([])) 120 := by
  refine bcase (c := (decide (f ≥ (1 : Int)))) (fun gg0 => ?_) (fun gg0 => ?_)
  · refine runs_last baseF (Sx.Ends.of (rightI_p0 f l v a) ⟨(okc gg0 okn), ?_⟩) (by kernel_rfl) rfl (gtL (by decide)) (by decide)
    simp only [dT, dF, nltT, nltF, nleT, nleF, neqT, neqF, ieqT, ieqF, ineT, ineF, notT, notF, andT, andF, orT, orF] at *
    refine ⟨?_, trivial⟩
    simp [rightT, *]
    all_goals omega
  · refine bcase (c := (decide (f ≤ (18 : Int)))) (fun gg1 => ?_) (fun gg1 => ?_)
    · refine runs_last baseF (Sx.Ends.of (rightI_p1 f l v a) ⟨(okc gg0 (okc gg1 okn)), ?_⟩) (by kernel_rfl) rfl (gtL (by decide)) (by decide)
      simp only [dT, dF, nltT, nltF, nleT, nleF, neqT, neqF, ieqT, ieqF, ineT, ineF, notT, notF, andT, andF, orT, orF] at *
      refine ⟨?_, trivial⟩
      simp [rightT, *]
      all_goals omega
    · refine runs_last baseF (Sx.Ends.of (rightI_p2 f l v a) ⟨(okc gg0 (okc gg1 okn)), ?_⟩) (by kernel_rfl) rfl (gtL (by decide)) (by decide)
      simp only [dT, dF, nltT, nltF, nleT, nleF, neqT, neqF, ieqT, ieqF, ineT, ineF, notT, notF, andT, andF, orT, orF] at *
      refine ⟨?_, trivial⟩
      simp [rightT, *]
      all_goals omega

theorem rightR_p0 (f l v : Int) (a : Bool) :
    isEnd (evTill Tryd.prog sumsF 100 (99) 900 48 [.code (bodyOf Tryd.f48)] (envOf [.agg (triT f l v a)] Tryd.f48.ntmps) ([]) ⟨[.s false], 80⟩) (endP ([]) (.v (.vb fun _ => rightT f l v)) [] 120) =
    (OkL [(decide (f > (0 : Int)), false)] ∧ rightT f l v = false ∧ True) := by kernel_rfl
theorem rightR_p1 (f l v : Int) (a : Bool) :
    isEnd (evTill Tryd.prog sumsF 100 (99) 900 48 [.code (bodyOf Tryd.f48)] (envOf [.agg (triT f l v a)] Tryd.f48.ntmps) ([]) ⟨[.s true, .s false], 80⟩) (endP ([]) (.v (.vb fun _ => rightT f l v)) [] 120) =
    (OkL [(decide (f > (0 : Int)), true), (decide (f < (19 : Int)), false)] ∧ rightT f l v = false ∧ True) := by kernel_rfl
theorem rightR_p2 (f l v : Int) (a : Bool) :
    isEnd (evTill Tryd.prog sumsF 100 (99) 900 48 [.code (bodyOf Tryd.f48)] (envOf [.agg (triT f l v a)] Tryd.f48.ntmps) ([]) ⟨[.s true, .s true, .t], 80⟩) (endP ([]) (.v (.vb fun _ => rightT f l v)) [] 120) =
    (OkL [(decide (f > (0 : Int)), true), (decide (f < (19 : Int)), true)] ∧ rightT f l v = fineB l v ∧ True) := by kernel_rfl

set_option maxHeartbeats 4000000 in
theorem rightR (f l v : Int) (a : Bool)  :
    RunsTo Tryd.prog 48 [.code (bodyOf Tryd.f48)] (envOf [.agg (triT f l v a)] Tryd.f48.ntmps) (Sx.look ([])) 80 (.v (.vb fun _ => rightT f l v)) (Sx.look ([])) 120 := by
  refine bcase (c := (decide (f > (0 : Int)))) (fun gg0 => ?_) (fun gg0 => ?_)
  · refine runs_last baseF (Sx.Ends.of (rightR_p0 f l v a) ⟨(okc gg0 okn), ?_⟩) (by kernel_rfl) rfl (gtL (by decide)) (by decide)
    simp only [dT, dF, nltT, nltF, nleT, nleF, neqT, neqF, ieqT, ieqF, ineT, ineF, notT, notF, andT, andF, orT, orF] at *
    refine ⟨?_, trivial⟩
    simp [rightT, *]
    all_goals omega
  · refine bcase (c := (decide (f < (19 : Int)))) (fun gg1 => ?_) (fun gg1 => ?_)
    · refine runs_last baseF (Sx.Ends.of (rightR_p1 f l v a) ⟨(okc gg0 (okc gg1 okn)), ?_⟩) (by kernel_rfl) rfl (gtL (by decide)) (by decide)
      simp only [dT, dF, nltT, nltF, nleT, nleF, neqT, neqF, ieqT, ieqF, ineT, ineF, notT, notF, andT, andF, orT, orF] at *
      refine ⟨?_, trivial⟩
      simp [rightT, *]
      all_goals omega
    · refine runs_last baseF (Sx.Ends.of (rightR_p2 f l v a) ⟨(okc gg0 (okc gg1 okn)), ?_⟩) (by kernel_rfl) rfl (gtL (by decide)) (by decide)
      simp only [dT, dF, nltT, nltF, nleT, nleF, neqT, neqF, ieqT, ieqF, ineT, ineF, notT, notF, andT, andF, orT, orF] at *
      refine ⟨?_, trivial⟩
      simp [rightT, *]
      all_goals omega

def rightPC : PC := { args := [.agg (.tc (.vi .i64 0) (.tc (.tc (.vi .i64 1) (.tc (.vi .i64 2) .t0)) (.tc (.vb 3) .t0)))], heap := [], gs := [], G := 16, tp := 140, n := 80, n' := 120, cond := fun _ => true, v := fun e => .v (.vb fun _ => rightT (eI e 0 []) (eI e 1 []) (eI e 2 [])), post := fun _ => [] }
theorem rightI_pc : PC.Runs Tryd.prog 47 Tryd.f47 (bodyOf Tryd.f47) rightPC := ⟨Tryd.func47, by kernel_rfl, (fun g hg => by cases hg), fun e H _ => rightI (eI e 0 []) (eI e 1 []) (eI e 2 []) (eB e 3 [])⟩
theorem rightR_pc : PC.Runs Tryd.prog 48 Tryd.f48 (bodyOf Tryd.f48) rightPC := ⟨Tryd.func48, by kernel_rfl, (fun g hg => by cases hg), fun e H _ => rightR (eI e 0 []) (eI e 1 []) (eI e 2 []) (eB e 3 [])⟩

def cntF (wt : Ix → Bool) : Nat → Nat → Int
  | 0, _ => 0
  | k + 1, i => (if wt [i] = true then 1 else 0) + cntF wt k (i + 1)
theorem cntF_le (wt : Ix → Bool) : ∀ k i, 0 ≤ cntF wt k i ∧ cntF wt k i ≤ k
  | 0, i => by simp [cntF]
  | k + 1, i => by
    have := cntF_le wt k (i + 1)
    simp only [cntF]
    split <;> omega
def wtI (hL hV oL oV : Ix → Int) (wt : Ix → Bool) (c : Int) (i : Nat) : List (Nat × SV) := [(3, vN c), (9, .agg (.ta 19 (.tc (.tc (.vi .i64 hL) (.tc (.vi .i64 hV) .t0)) (.tc (.tc (.vi .i64 oL) (.tc (.vi .i64 oV) .t0)) (.tc (.vb wt) .t0))))), (10, vN i)]
def wtR (wt : Ix → Bool) (c : Int) (i : Nat) : List (Nat × SV) := [(3, vN c), (9, .agg (.ta 19 (.vb wt))), (10, vN i)]

theorem wt0I_p0 (hL hV oL oV : Ix → Int) (wt : Ix → Bool) :
    isMore (evTill Tryd.prog [] 100 (behind Tryd.f34 0) 900 34 [.code (bodyOf Tryd.f34)] (envOf [vP 60] Tryd.f34.ntmps) (sideE 60 hL hV oL oV wt) ⟨[], 80⟩) (moreP (headOf Tryd.f34 0) ([]) Tryd.f34.ntmps (wtI hL hV oL oV wt 0 0) (sideE 60 hL hV oL oV wt) 120) =
    (OkL [] ∧ headOf Tryd.f34 (0 : Nat) = headOf Tryd.f34 (0 : Nat) ∧ ((0 : Int) = (0 : Int) ∧ ((19 : Nat) = (19 : Nat) ∧ ((∀ (i : Nat), i < (19 : Nat) → hL [i] = hL [i]) ∧ ∀ (i : Nat), i < (19 : Nat) → hV [i] = hV [i]) ∧ ((∀ (i : Nat), i < (19 : Nat) → oL [i] = oL [i]) ∧ ∀ (i : Nat), i < (19 : Nat) → oV [i] = oV [i]) ∧ ∀ (i : Nat), i < (19 : Nat) → wt [i] = wt [i]) ∧ (↑(0 : Nat) : Int) = (0 : Int)) ∧ (19 : Nat) = (19 : Nat) ∧ ((∀ (i : Nat), i < (19 : Nat) → hL [i] = hL [i]) ∧ ∀ (i : Nat), i < (19 : Nat) → hV [i] = hV [i]) ∧ ((∀ (i : Nat), i < (19 : Nat) → oL [i] = oL [i]) ∧ ∀ (i : Nat), i < (19 : Nat) → oV [i] = oV [i]) ∧ ∀ (i : Nat), i < (19 : Nat) → wt [i] = wt [i]) := by kernel_rfl

set_option maxHeartbeats 4000000 in
theorem wt0I (hL hV oL oV : Ix → Int) (wt : Ix → Bool) (v : SV) (L : HF) (next : RunsTo Tryd.prog 34 (headOf Tryd.f34 0) (envAt Tryd.f34.ntmps (wtI hL hV oL oV wt 0 0)) (Sx.look ([] ++ sideE 60 hL hV oL oV wt)) 80 v L 120) :
    RunsTo Tryd.prog 34 [.code (bodyOf Tryd.f34)] (envOf [vP 60] Tryd.f34.ntmps) (Sx.look ([] ++ sideE 60 hL hV oL oV wt)) 80 v L 120 := by
  refine runs_more baseO (More.of (wt0I_p0 hL hV oL oV wt) ⟨okn, rfl, ?_⟩) (by kernel_rfl) (by kernel_rfl) rfl (gtL (by decide)) (by decide) next
  clear next
  simp

theorem wtNI_p0 (hL hV oL oV : Ix → Int) (wt : Ix → Bool) (c : Int) (i : Nat) :
    isMore (evTill Tryd.prog [] 100 (behind Tryd.f34 0) 900 34 (headOf Tryd.f34 0) (envAt Tryd.f34.ntmps (wtI hL hV oL oV wt c i)) (sideE 60 hL hV oL oV wt) ⟨[.s true, .s true, .s false], 80⟩) (moreP (headOf Tryd.f34 0) ([]) Tryd.f34.ntmps (wtI hL hV oL oV wt (c + (if wt [i] = true then 1 else 0)) (i + 1)) (sideE 60 hL hV oL oV wt) 120) =
    (OkL [(decide ((↑i : Int) < (19 : Int)), true), (decide ((0 : Int) ≤ (↑i : Int) ∧ (↑i : Int) < (↑(19 : Nat) : Int)), true), (wt [(↑i : Int).toNat], false)] ∧ headOf Tryd.f34 (0 : Nat) = headOf Tryd.f34 (0 : Nat) ∧ ((c + if wt [i] = true then (1 : Int) else (0 : Int)) = c ∧ ((19 : Nat) = (19 : Nat) ∧ ((∀ (i : Nat), i < (19 : Nat) → hL [i] = hL [i]) ∧ ∀ (i : Nat), i < (19 : Nat) → hV [i] = hV [i]) ∧ ((∀ (i : Nat), i < (19 : Nat) → oL [i] = oL [i]) ∧ ∀ (i : Nat), i < (19 : Nat) → oV [i] = oV [i]) ∧ ∀ (i : Nat), i < (19 : Nat) → wt [i] = wt [i]) ∧ (↑(i + (1 : Nat)) : Int) = IntKind.i64.wrap ((↑i : Int) + (1 : Int))) ∧ (19 : Nat) = (19 : Nat) ∧ ((∀ (i : Nat), i < (19 : Nat) → hL [i] = hL [i]) ∧ ∀ (i : Nat), i < (19 : Nat) → hV [i] = hV [i]) ∧ ((∀ (i : Nat), i < (19 : Nat) → oL [i] = oL [i]) ∧ ∀ (i : Nat), i < (19 : Nat) → oV [i] = oV [i]) ∧ ∀ (i : Nat), i < (19 : Nat) → wt [i] = wt [i]) := by kernel_rfl
theorem wtNI_p1 (hL hV oL oV : Ix → Int) (wt : Ix → Bool) (c : Int) (i : Nat) :
    isMore (evTill Tryd.prog [] 100 (behind Tryd.f34 0) 900 34 (headOf Tryd.f34 0) (envAt Tryd.f34.ntmps (wtI hL hV oL oV wt c i)) (sideE 60 hL hV oL oV wt) ⟨[.s true, .s true, .s true], 80⟩) (moreP (headOf Tryd.f34 0) ([]) Tryd.f34.ntmps (wtI hL hV oL oV wt (c + (if wt [i] = true then 1 else 0)) (i + 1)) (sideE 60 hL hV oL oV wt) 120) =
    (OkL [(decide ((↑i : Int) < (19 : Int)), true), (decide ((0 : Int) ≤ (↑i : Int) ∧ (↑i : Int) < (↑(19 : Nat) : Int)), true), (wt [(↑i : Int).toNat], true)] ∧ headOf Tryd.f34 (0 : Nat) = headOf Tryd.f34 (0 : Nat) ∧ ((c + if wt [i] = true then (1 : Int) else (0 : Int)) = IntKind.i64.wrap (c + (1 : Int)) ∧ ((19 : Nat) = (19 : Nat) ∧ ((∀ (i : Nat), i < (19 : Nat) → hL [i] = hL [i]) ∧ ∀ (i : Nat), i < (19 : Nat) → hV [i] = hV [i]) ∧ ((∀ (i : Nat), i < (19 : Nat) → oL [i] = oL [i]) ∧ ∀ (i : Nat), i < (19 : Nat) → oV [i] = oV [i]) ∧ ∀ (i : Nat), i < (19 : Nat) → wt [i] = wt [i]) ∧ (↑(i + (1 : Nat)) : Int) = IntKind.i64.wrap ((↑i : Int) + (1 : Int))) ∧ (19 : Nat) = (19 : Nat) ∧ ((∀ (i : Nat), i < (19 : Nat) → hL [i] = hL [i]) ∧ ∀ (i : Nat), i < (19 : Nat) → hV [i] = hV [i]) ∧ ((∀ (i : Nat), i < (19 : Nat) → oL [i] = oL [i]) ∧ ∀ (i : Nat), i < (19 : Nat) → oV [i] = oV [i]) ∧ ∀ (i : Nat), i < (19 : Nat) → wt [i] = wt [i]) := by kernel_rfl

set_option maxHeartbeats 4000000 in
theorem wtNI (hL hV oL oV : Ix → Int) (wt : Ix → Bool) (c : Int) (i : Nat) (hi : i < 19) (hc : 0 ≤ c ∧ c ≤ 19) (v : SV) (L : HF) (next : RunsTo Tryd.prog 34 (headOf Tryd.f34 0) (envAt Tryd.f34.ntmps (wtI hL hV oL oV wt (c + (if wt [i] = true then 1 else 0)) (i + 1))) (Sx.look ([] ++ sideE 60 hL hV oL oV wt)) 80 v L 120) :
    RunsTo Tryd.prog 34 (headOf Tryd.f34 0) (envAt Tryd.f34.ntmps (wtI hL hV oL oV wt c i)) (Sx.look ([] ++ sideE 60 hL hV oL oV wt)) 80 v L 120 := by
  have gg0 : (decide ((↑i : Int) < (19 : Int))) = true := by clear next; first | (simp (disch := omega) only [dT, dF, nltT, nltF, nleT, nleF, neqT, neqF, ieqT, ieqF, ineT, ineF, notT, notF, andT, andF, orT, orF, wr64s, Int.toNat_natCast, Nat.zero_add, Nat.add_zero] at *; omega) | (simp (disch := omega) only [dT, dF, nltT, nltF, nleT, nleF, neqT, neqF, ieqT, ieqF, ineT, ineF, notT, notF, andT, andF, orT, orF, wr64s, Int.toNat_natCast, Nat.zero_add, Nat.add_zero] at *; done) | (simp_all; done)
  have gg1 : (decide ((0 : Int) ≤ (↑i : Int) ∧ (↑i : Int) < (↑(19 : Nat) : Int))) = true := by clear next; first | (simp (disch := omega) only [dT, dF, nltT, nltF, nleT, nleF, neqT, neqF, ieqT, ieqF, ineT, ineF, notT, notF, andT, andF, orT, orF, wr64s, Int.toNat_natCast, Nat.zero_add, Nat.add_zero] at *; omega) | (simp (disch := omega) only [dT, dF, nltT, nltF, nleT, nleF, neqT, neqF, ieqT, ieqF, ineT, ineF, notT, notF, andT, andF, orT, orF, wr64s, Int.toNat_natCast, Nat.zero_add, Nat.add_zero] at *; done) | (simp_all; done)
  refine bcase (c := (wt [(↑i : Int).toNat])) (fun gg2 => ?_) (fun gg2 => ?_)
  · refine runs_more baseO (More.of (wtNI_p0 hL hV oL oV wt c i) ⟨(okc gg0 (okc gg1 (okc gg2 okn))), rfl, ?_⟩) (by kernel_rfl) (by kernel_rfl) rfl (gtL (by decide)) (by decide) next
    clear next
    simp (disch := omega) only [dT, dF, nltT, nltF, nleT, nleF, neqT, neqF, ieqT, ieqF, ineT, ineF, notT, notF, andT, andF, orT, orF, wr64s, Int.toNat_natCast, Nat.zero_add, Nat.add_zero] at *
    simp [*]
    all_goals first | omega | skip
  · refine runs_more baseO (More.of (wtNI_p1 hL hV oL oV wt c i) ⟨(okc gg0 (okc gg1 (okc gg2 okn))), rfl, ?_⟩) (by kernel_rfl) (by kernel_rfl) rfl (gtL (by decide)) (by decide) next
    clear next
    simp (disch := omega) only [dT, dF, nltT, nltF, nleT, nleF, neqT, neqF, ieqT, ieqF, ineT, ineF, notT, notF, andT, andF, orT, orF, wr64s, Int.toNat_natCast, Nat.zero_add, Nat.add_zero] at *
    simp [*]
    all_goals first | omega | skip

theorem wtEI_p0 (hL hV oL oV : Ix → Int) (wt : Ix → Bool) (c : Int) (i : Nat) :
    isEnd (evTill Tryd.prog [] 100 (behind Tryd.f34 0) 900 34 (headOf Tryd.f34 0) (envAt Tryd.f34.ntmps (wtI hL hV oL oV wt c i)) (sideE 60 hL hV oL oV wt) ⟨[.s false], 80⟩) (endP ([]) (vN c) (sideE 60 hL hV oL oV wt) 120) =
    (OkL [(decide ((↑i : Int) < (19 : Int)), false)] ∧ c = c ∧ (19 : Nat) = (19 : Nat) ∧ ((∀ (i : Nat), i < (19 : Nat) → hL [i] = hL [i]) ∧ ∀ (i : Nat), i < (19 : Nat) → hV [i] = hV [i]) ∧ ((∀ (i : Nat), i < (19 : Nat) → oL [i] = oL [i]) ∧ ∀ (i : Nat), i < (19 : Nat) → oV [i] = oV [i]) ∧ ∀ (i : Nat), i < (19 : Nat) → wt [i] = wt [i]) := by kernel_rfl

set_option maxHeartbeats 4000000 in
theorem wtEI (hL hV oL oV : Ix → Int) (wt : Ix → Bool) (c : Int) (i : Nat) (hi : 19 ≤ i) :
    RunsTo Tryd.prog 34 (headOf Tryd.f34 0) (envAt Tryd.f34.ntmps (wtI hL hV oL oV wt c i)) (Sx.look ([] ++ sideE 60 hL hV oL oV wt)) 80 (vN c) (Sx.look (sideE 60 hL hV oL oV wt)) 120 := by
  have gg0 : (decide ((↑i : Int) < (19 : Int))) = false := by first | (simp (disch := omega) only [dT, dF, nltT, nltF, nleT, nleF, neqT, neqF, ieqT, ieqF, ineT, ineF, notT, notF, andT, andF, orT, orF, wr64s, Int.toNat_natCast, Nat.zero_add, Nat.add_zero] at *; omega) | (simp (disch := omega) only [dT, dF, nltT, nltF, nleT, nleF, neqT, neqF, ieqT, ieqF, ineT, ineF, notT, notF, andT, andF, orT, orF, wr64s, Int.toNat_natCast, Nat.zero_add, Nat.add_zero] at *; done) | (simp_all; done)
  refine runs_last baseO (Sx.Ends.of (wtEI_p0 hL hV oL oV wt c i) ⟨(okc gg0 okn), ?_⟩) (by kernel_rfl) rfl (gtL (by decide)) (by decide)
  simp

theorem wtLI (hL hV oL oV : Ix → Int) (wt : Ix → Bool) : ∀ (k i : Nat) (c : Int), i + k = 19 → 0 ≤ c → c ≤ i → RunsTo Tryd.prog 34 (headOf Tryd.f34 0) (envAt Tryd.f34.ntmps (wtI hL hV oL oV wt c i)) (Sx.look ([] ++ sideE 60 hL hV oL oV wt)) 80 (vN (c + cntF wt k i)) (Sx.look (sideE 60 hL hV oL oV wt)) 120 := by
  intro k
  induction k with
  | zero =>
    intro i c hi h0 h1
    simp only [cntF, Int.add_zero]
    exact wtEI hL hV oL oV wt c i (by omega)
  | succ k ih =>
    intro i c hi h0 h1
    have hb : (0 : Int) ≤ (if wt [i] = true then 1 else 0) ∧ (if wt [i] = true then (1 : Int) else 0) ≤ 1 := by split <;> omega
    have := ih (i + 1) (c + (if wt [i] = true then 1 else 0)) (by omega) (by omega) (by omega)
    rw [Int.add_assoc] at this
    exact wtNI hL hV oL oV wt c i (by omega) ⟨h0, by omega⟩ _ _ this
theorem waitsI (hL hV oL oV : Ix → Int) (wt : Ix → Bool) : RunsTo Tryd.prog 34 [.code (bodyOf Tryd.f34)] (envOf [vP 60] Tryd.f34.ntmps) (Sx.look ([] ++ sideE 60 hL hV oL oV wt)) 80 (vN (cntF wt 19 0)) (Sx.look (sideE 60 hL hV oL oV wt)) 120 := by
  have := wtLI hL hV oL oV wt 19 0 0 rfl (by omega) (by omega)
  rw [Int.zero_add] at this
  exact wt0I hL hV oL oV wt _ _ this

theorem wt0R_p0 (hL hV oL oV : Ix → Int) (wt : Ix → Bool) :
    isMore (evTill Tryd.prog [] 100 (behind Tryd.f46 0) 900 46 [.code (bodyOf Tryd.f46)] (envOf [vP 60] Tryd.f46.ntmps) (refE 60 hL hV oL oV wt) ⟨[], 80⟩) (moreP (headOf Tryd.f46 0) ([]) Tryd.f46.ntmps (wtR wt 0 0) (refE 60 hL hV oL oV wt) 120) =
    (OkL [] ∧ headOf Tryd.f46 (0 : Nat) = headOf Tryd.f46 (0 : Nat) ∧ ((0 : Int) = (0 : Int) ∧ ((19 : Nat) = (19 : Nat) ∧ ∀ (i : Nat), i < (19 : Nat) → wt [i] = wt [i]) ∧ (↑(0 : Nat) : Int) = (0 : Int)) ∧ ((19 : Nat) = (19 : Nat) ∧ (∀ (i : Nat), i < (19 : Nat) → hL [i] = hL [i]) ∧ ∀ (i : Nat), i < (19 : Nat) → hV [i] = hV [i]) ∧ ((19 : Nat) = (19 : Nat) ∧ (∀ (i : Nat), i < (19 : Nat) → oL [i] = oL [i]) ∧ ∀ (i : Nat), i < (19 : Nat) → oV [i] = oV [i]) ∧ (19 : Nat) = (19 : Nat) ∧ ∀ (i : Nat), i < (19 : Nat) → wt [i] = wt [i]) := by kernel_rfl

set_option maxHeartbeats 4000000 in
theorem wt0R (hL hV oL oV : Ix → Int) (wt : Ix → Bool) (v : SV) (L : HF) (next : RunsTo Tryd.prog 46 (headOf Tryd.f46 0) (envAt Tryd.f46.ntmps (wtR wt 0 0)) (Sx.look ([] ++ refE 60 hL hV oL oV wt)) 80 v L 120) :
    RunsTo Tryd.prog 46 [.code (bodyOf Tryd.f46)] (envOf [vP 60] Tryd.f46.ntmps) (Sx.look ([] ++ refE 60 hL hV oL oV wt)) 80 v L 120 := by
  refine runs_more baseO (More.of (wt0R_p0 hL hV oL oV wt) ⟨okn, rfl, ?_⟩) (by kernel_rfl) (by kernel_rfl) rfl (gtL (by decide)) (by decide) next
  clear next
  simp

theorem wtNR_p0 (hL hV oL oV : Ix → Int) (wt : Ix → Bool) (c : Int) (i : Nat) :
    isMore (evTill Tryd.prog [] 100 (behind Tryd.f46 0) 900 46 (headOf Tryd.f46 0) (envAt Tryd.f46.ntmps (wtR wt c i)) (refE 60 hL hV oL oV wt) ⟨[.s true, .s true, .s false], 80⟩) (moreP (headOf Tryd.f46 0) ([]) Tryd.f46.ntmps (wtR wt (c + (if wt [i] = true then 1 else 0)) (i + 1)) (refE 60 hL hV oL oV wt) 120) =
    (OkL [(decide ((↑i : Int) < (19 : Int)), true), (decide ((0 : Int) ≤ (↑i : Int) ∧ (↑i : Int) < (↑(19 : Nat) : Int)), true), (wt [(↑i : Int).toNat], false)] ∧ headOf Tryd.f46 (0 : Nat) = headOf Tryd.f46 (0 : Nat) ∧ ((c + if wt [i] = true then (1 : Int) else (0 : Int)) = c ∧ ((19 : Nat) = (19 : Nat) ∧ ∀ (i : Nat), i < (19 : Nat) → wt [i] = wt [i]) ∧ (↑(i + (1 : Nat)) : Int) = IntKind.i64.wrap ((↑i : Int) + (1 : Int))) ∧ ((19 : Nat) = (19 : Nat) ∧ (∀ (i : Nat), i < (19 : Nat) → hL [i] = hL [i]) ∧ ∀ (i : Nat), i < (19 : Nat) → hV [i] = hV [i]) ∧ ((19 : Nat) = (19 : Nat) ∧ (∀ (i : Nat), i < (19 : Nat) → oL [i] = oL [i]) ∧ ∀ (i : Nat), i < (19 : Nat) → oV [i] = oV [i]) ∧ (19 : Nat) = (19 : Nat) ∧ ∀ (i : Nat), i < (19 : Nat) → wt [i] = wt [i]) := by kernel_rfl
theorem wtNR_p1 (hL hV oL oV : Ix → Int) (wt : Ix → Bool) (c : Int) (i : Nat) :
    isMore (evTill Tryd.prog [] 100 (behind Tryd.f46 0) 900 46 (headOf Tryd.f46 0) (envAt Tryd.f46.ntmps (wtR wt c i)) (refE 60 hL hV oL oV wt) ⟨[.s true, .s true, .s true], 80⟩) (moreP (headOf Tryd.f46 0) ([]) Tryd.f46.ntmps (wtR wt (c + (if wt [i] = true then 1 else 0)) (i + 1)) (refE 60 hL hV oL oV wt) 120) =
    (OkL [(decide ((↑i : Int) < (19 : Int)), true), (decide ((0 : Int) ≤ (↑i : Int) ∧ (↑i : Int) < (↑(19 : Nat) : Int)), true), (wt [(↑i : Int).toNat], true)] ∧ headOf Tryd.f46 (0 : Nat) = headOf Tryd.f46 (0 : Nat) ∧ ((c + if wt [i] = true then (1 : Int) else (0 : Int)) = IntKind.i64.wrap (c + (1 : Int)) ∧ ((19 : Nat) = (19 : Nat) ∧ ∀ (i : Nat), i < (19 : Nat) → wt [i] = wt [i]) ∧ (↑(i + (1 : Nat)) : Int) = IntKind.i64.wrap ((↑i : Int) + (1 : Int))) ∧ ((19 : Nat) = (19 : Nat) ∧ (∀ (i : Nat), i < (19 : Nat) → hL [i] = hL [i]) ∧ ∀ (i : Nat), i < (19 : Nat) → hV [i] = hV [i]) ∧ ((19 : Nat) = (19 : Nat) ∧ (∀ (i : Nat), i < (19 : Nat) → oL [i] = oL [i]) ∧ ∀ (i : Nat), i < (19 : Nat) → oV [i] = oV [i]) ∧ (19 : Nat) = (19 : Nat) ∧ ∀ (i : Nat), i < (19 : Nat) → wt [i] = wt [i]) := by kernel_rfl

set_option maxHeartbeats 4000000 in
theorem wtNR (hL hV oL oV : Ix → Int) (wt : Ix → Bool) (c : Int) (i : Nat) (hi : i < 19) (hc : 0 ≤ c ∧ c ≤ 19) (v : SV) (L : HF) (next : RunsTo Tryd.prog 46 (headOf Tryd.f46 0) (envAt Tryd.f46.ntmps (wtR wt (c + (if wt [i] = true then 1 else 0)) (i + 1))) (Sx.look ([] ++ refE 60 hL hV oL oV wt)) 80 v L 120) :
    RunsTo Tryd.prog 46 (headOf Tryd.f46 0) (envAt Tryd.f46.ntmps (wtR wt c i)) (Sx.look ([] ++ refE 60 hL hV oL oV wt)) 80 v L 120 := by
  have gg0 : (decide ((↑i : Int) < (19 : Int))) = true := by clear next; first | (simp (disch := omega) only [dT, dF, nltT, nltF, nleT, nleF, neqT, neqF, ieqT, ieqF, ineT, ineF, notT, notF, andT, andF, orT, orF, wr64s, Int.toNat_natCast, Nat.zero_add, Nat.add_zero] at *; omega) | (simp (disch := omega) only [dT, dF, nltT, nltF, nleT, nleF, neqT, neqF, ieqT, ieqF, ineT, ineF, notT, notF, andT, andF, orT, orF, wr64s, Int.toNat_natCast, Nat.zero_add, Nat.add_zero] at *; done) | (simp_all; done)
  have gg1 : (decide ((0 : Int) ≤ (↑i : Int) ∧ (↑i : Int) < (↑(19 : Nat) : Int))) = true := by clear next; first | (simp (disch := omega) only [dT, dF, nltT, nltF, nleT, nleF, neqT, neqF, ieqT, ieqF, ineT, ineF, notT, notF, andT, andF, orT, orF, wr64s, Int.toNat_natCast, Nat.zero_add, Nat.add_zero] at *; omega) | (simp (disch := omega) only [dT, dF, nltT, nltF, nleT, nleF, neqT, neqF, ieqT, ieqF, ineT, ineF, notT, notF, andT, andF, orT, orF, wr64s, Int.toNat_natCast, Nat.zero_add, Nat.add_zero] at *; done) | (simp_all; done)
  refine bcase (c := (wt [(↑i : Int).toNat])) (fun gg2 => ?_) (fun gg2 => ?_)
  · refine runs_more baseO (More.of (wtNR_p0 hL hV oL oV wt c i) ⟨(okc gg0 (okc gg1 (okc gg2 okn))), rfl, ?_⟩) (by kernel_rfl) (by kernel_rfl) rfl (gtL (by decide)) (by decide) next
    clear next
    simp (disch := omega) only [dT, dF, nltT, nltF, nleT, nleF, neqT, neqF, ieqT, ieqF, ineT, ineF, notT, notF, andT, andF, orT, orF, wr64s, Int.toNat_natCast, Nat.zero_add, Nat.add_zero] at *
    simp [*]
    all_goals first | omega | skip
  · refine runs_more baseO (More.of (wtNR_p1 hL hV oL oV wt c i) ⟨(okc gg0 (okc gg1 (okc gg2 okn))), rfl, ?_⟩) (by kernel_rfl) (by kernel_rfl) rfl (gtL (by decide)) (by decide) next
    clear next
    simp (disch := omega) only [dT, dF, nltT, nltF, nleT, nleF, neqT, neqF, ieqT, ieqF, ineT, ineF, notT, notF, andT, andF, orT, orF, wr64s, Int.toNat_natCast, Nat.zero_add, Nat.add_zero] at *
    simp [*]
    all_goals first | omega | skip

theorem wtER_p0 (hL hV oL oV : Ix → Int) (wt : Ix → Bool) (c : Int) (i : Nat) :
    isEnd (evTill Tryd.prog [] 100 (behind Tryd.f46 0) 900 46 (headOf Tryd.f46 0) (envAt Tryd.f46.ntmps (wtR wt c i)) (refE 60 hL hV oL oV wt) ⟨[.s false], 80⟩) (endP ([]) (vN c) (refE 60 hL hV oL oV wt) 120) =
    (OkL [(decide ((↑i : Int) < (19 : Int)), false)] ∧ c = c ∧ ((19 : Nat) = (19 : Nat) ∧ (∀ (i : Nat), i < (19 : Nat) → hL [i] = hL [i]) ∧ ∀ (i : Nat), i < (19 : Nat) → hV [i] = hV [i]) ∧ ((19 : Nat) = (19 : Nat) ∧ (∀ (i : Nat), i < (19 : Nat) → oL [i] = oL [i]) ∧ ∀ (i : Nat), i < (19 : Nat) → oV [i] = oV [i]) ∧ (19 : Nat) = (19 : Nat) ∧ ∀ (i : Nat), i < (19 : Nat) → wt [i] = wt [i]) := by kernel_rfl

set_option maxHeartbeats 4000000 in
theorem wtER (hL hV oL oV : Ix → Int) (wt : Ix → Bool) (c : Int) (i : Nat) (hi : 19 ≤ i) :
    RunsTo Tryd.prog 46 (headOf Tryd.f46 0) (envAt Tryd.f46.ntmps (wtR wt c i)) (Sx.look ([] ++ refE 60 hL hV oL oV wt)) 80 (vN c) (Sx.look (refE 60 hL hV oL oV wt)) 120 := by
  have gg0 : (decide ((↑i : Int) < (19 : Int))) = false := by first | (simp (disch := omega) only [dT, dF, nltT, nltF, nleT, nleF, neqT, neqF, ieqT, ieqF, ineT, ineF, notT, notF, andT, andF, orT, orF, wr64s, Int.toNat_natCast, Nat.zero_add, Nat.add_zero] at *; omega) | (simp (disch := omega) only [dT, dF, nltT, nltF, nleT, nleF, neqT, neqF, ieqT, ieqF, ineT, ineF, notT, notF, andT, andF, orT, orF, wr64s, Int.toNat_natCast, Nat.zero_add, Nat.add_zero] at *; done) | (simp_all; done)
  refine runs_last baseO (Sx.Ends.of (wtER_p0 hL hV oL oV wt c i) ⟨(okc gg0 okn), ?_⟩) (by kernel_rfl) rfl (gtL (by decide)) (by decide)
  simp

theorem wtLR (hL hV oL oV : Ix → Int) (wt : Ix → Bool) : ∀ (k i : Nat) (c : Int), i + k = 19 → 0 ≤ c → c ≤ i → RunsTo Tryd.prog 46 (headOf Tryd.f46 0) (envAt Tryd.f46.ntmps (wtR wt c i)) (Sx.look ([] ++ refE 60 hL hV oL oV wt)) 80 (vN (c + cntF wt k i)) (Sx.look (refE 60 hL hV oL oV wt)) 120 := by
  intro k
  induction k with
  | zero =>
    intro i c hi h0 h1
    simp only [cntF, Int.add_zero]
    exact wtER hL hV oL oV wt c i (by omega)
  | succ k ih =>
    intro i c hi h0 h1
    have hb : (0 : Int) ≤ (if wt [i] = true then 1 else 0) ∧ (if wt [i] = true then (1 : Int) else 0) ≤ 1 := by split <;> omega
    have := ih (i + 1) (c + (if wt [i] = true then 1 else 0)) (by omega) (by omega) (by omega)
    rw [Int.add_assoc] at this
    exact wtNR hL hV oL oV wt c i (by omega) ⟨h0, by omega⟩ _ _ this
theorem waitsR (hL hV oL oV : Ix → Int) (wt : Ix → Bool) : RunsTo Tryd.prog 46 [.code (bodyOf Tryd.f46)] (envOf [vP 60] Tryd.f46.ntmps) (Sx.look ([] ++ refE 60 hL hV oL oV wt)) 80 (vN (cntF wt 19 0)) (Sx.look (refE 60 hL hV oL oV wt)) 120 := by
  have := wtLR hL hV oL oV wt 19 0 0 rfl (by omega) (by omega)
  rw [Int.zero_add] at this
  exact wt0R hL hV oL oV wt _ _ this

def waitsIPC : PC := { args := [.v (.vp 60)], heap := [⟨60, true, 95, .tc (.tn 19 (.tc (.tc (.vi .i64 0) (.tc (.vi .i64 1) .t0)) (.tc (.tc (.vi .i64 2) (.tc (.vi .i64 3) .t0)) (.tc (.vb 4) .t0)))) .t0⟩], gs := [], G := 16, tp := 140, n := 80, n' := 120, cond := fun _ => true, v := fun e => vN (cntF (eB e 4) 19 0), post := fun e => sideE 60 (eI e 0) (eI e 1) (eI e 2) (eI e 3) (eB e 4) }
theorem waitsI_pc : PC.Runs Tryd.prog 34 Tryd.f34 (bodyOf Tryd.f34) waitsIPC := ⟨Tryd.func34, by kernel_rfl, (fun g hg => by cases hg), fun e H _ => waitsI (eI e 0) (eI e 1) (eI e 2) (eI e 3) (eB e 4)⟩
def waitsRPC : PC := { args := [.v (.vp 60)], heap := [⟨60, true, 95, .tc (.tn 19 (.tc (.vi .i64 0) (.tc (.vi .i64 1) .t0))) (.tc (.tn 19 (.tc (.vi .i64 2) (.tc (.vi .i64 3) .t0))) (.tc (.tn 19 (.vb 4)) .t0))⟩], gs := [], G := 16, tp := 140, n := 80, n' := 120, cond := fun _ => true, v := fun e => vN (cntF (eB e 4) 19 0), post := fun e => refE 60 (eI e 0) (eI e 1) (eI e 2) (eI e 3) (eB e 4) }
theorem waitsR_pc : PC.Runs Tryd.prog 46 Tryd.f46 (bodyOf Tryd.f46) waitsRPC := ⟨Tryd.func46, by kernel_rfl, (fun g hg => by cases hg), fun e H _ => waitsR (eI e 0) (eI e 1) (eI e 2) (eI e 3) (eB e 4)⟩
end Go.Proofs.YtdmkdmaofgjelaaDoor
