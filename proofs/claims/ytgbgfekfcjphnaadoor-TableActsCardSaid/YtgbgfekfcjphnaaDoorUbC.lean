/- Tables, act by act: lists, and what the document says of a state. -/
import Derived.Test.YtgbgfekfcjphnaaDoorUaC
set_option linter.unusedSimpArgs false
set_option linter.unusedVariables false
set_option maxRecDepth 100000
namespace Go.Proofs.YtgbgfekfcjphnaaDoor
open Go.Sx


def sumsS : List (FuncId × Summ) := [(35, stfPC.summ 32)]
theorem baseS : Base0 Tryd.prog sumsS := baseO.cons Tryd.func35 (by kernel_rfl) (PC.summ_ok stf_pc gtop32)
def onM (K : Ix → Int) (O : Ix → Bool) (sd : Int) : Nat → List Int
  | 0 => []
  | n + 1 => if (sd = 0 ∨ sd = 1) ∧ K [sd.toNat, n] = 1 ∧ O [sd.toNat, n] = false then onM K O sd n ++ [(n : Int)] else onM K O sd n
theorem onM_len {K : Ix → Int} {O : Ix → Bool} {sd : Int} : ∀ i, (onM K O sd i).length ≤ i
  | 0 => by simp [onM]
  | i + 1 => by
    have := onM_len (K := K) (O := O) (sd := sd) i
    simp only [onM]
    split
    · simp only [List.length_append, List.length_cons, List.length_nil]; omega
    · omega
theorem onM_yes {K : Ix → Int} {O : Ix → Bool} {sd : Int} {n : Nat} (h : (sd = 0 ∨ sd = 1) ∧ K [sd.toNat, n] = 1 ∧ O [sd.toNat, n] = false) : onM K O sd (n + 1) = onM K O sd n ++ [(n : Int)] := by simp only [onM, if_pos h]
theorem onM_no {K : Ix → Int} {O : Ix → Bool} {sd : Int} {n : Nat} (h : ¬ ((sd = 0 ∨ sd = 1) ∧ K [sd.toNat, n] = 1 ∧ O [sd.toNat, n] = false)) : onM K O sd (n + 1) = onM K O sd n := by simp only [onM, if_neg h]
theorem onR_yes {RS RO RK : Ix → Int} {R : Nat} {sd : Int} {n : Nat} (h : kOf RK (fnd RS RO sd n R 0) = 1) : onR RS RO RK R sd (n + 1) = onR RS RO RK R sd n ++ [(n : Int)] := by simp only [onR, if_pos h]
theorem onR_no {RS RO RK : Ix → Int} {R : Nat} {sd : Int} {n : Nat} (h : ¬ kOf RK (fnd RS RO sd n R 0) = 1) : onR RS RO RK R sd (n + 1) = onR RS RO RK R sd n := by simp only [onR, if_neg h]
def liE (l : Nat) (q : List Int) : List Ent := [⟨l, true, none, 1, .ta q.length (.vi .i64 (liI q))⟩]
def lsE (sd : Int) (n c : Nat) : List (Nat × SV) := [(0, vP 60), (1, vN sd), (5, vL 85 1 c), (7, vN n)]
def lrE (sd : Int) (n c : Nat) : List (Nat × SV) := [(0, vP 60), (1, vN sd), (5, vL 85 1 c), (6, vN n)]
def siE (N M i : Nat) : List (Nat × SV) := [(1, vL 61 1 M), (12, vL 60 1 N), (13, vN N), (14, vN i)]

theorem refH0_p0 (is g : Bool) :
    isEnd (evTill Tryd.prog [] 300 (99) 900 17 [.code (bodyOf Tryd.f17)] (envOf [.agg (stT 0 false), .v (.vb fun _ => is), .v (.vb fun _ => g)] Tryd.f17.ntmps) ([]) ⟨[.t, .t, .t, .t, .t, .f, .s false, .t, .s false, .t, .t, .t], 80⟩) (endP ([]) (.tup [(true, moveT (hearK 0 false is g) false (hearS 0 false is g) (hearW 0 is)), (false, .vi .i64 fun _ => 0)]) [] 200) =
    (OkL [(!is, false), (g, false)] ∧ (((hearK (0 : Int) false is g = upd (upd (upd (upd (upd (upd (fun is => (0 : Int)) [(0 : Nat)] (0 : Int)) [(1 : Nat)] (1 : Int)) [(2 : Nat)] (0 : Int)) [(3 : Nat)] (1 : Int)) [(4 : Nat)] (1 : Int)) [(5 : Nat)] (2 : Int) [(0 : Nat)] ∧ false = false) ∧ hearS (0 : Int) false is g = upd (upd (upd (upd (upd (upd (fun is => (0 : Int)) [(0 : Nat)] (2 : Int)) [(1 : Nat)] (0 : Int)) [(2 : Nat)] (0 : Int)) [(3 : Nat)] (0 : Int)) [(4 : Nat)] (0 : Int)) [(5 : Nat)] (2 : Int) [(0 : Nat)] ∧ hearW (0 : Int) is = false) ∧ (0 : Int) = (0 : Int) ∧ True) ∧ True) := by kernel_rfl
theorem refH0_p1 (is g : Bool) :
    isEnd (evTill Tryd.prog [] 300 (99) 900 17 [.code (bodyOf Tryd.f17)] (envOf [.agg (stT 0 false), .v (.vb fun _ => is), .v (.vb fun _ => g)] Tryd.f17.ntmps) ([]) ⟨[.t, .t, .t, .t, .t, .f, .s false, .t, .s true], 80⟩) (endP ([]) (.tup [(true, moveT (hearK 0 false is g) false (hearS 0 false is g) (hearW 0 is)), (false, .vi .i64 fun _ => 0)]) [] 200) =
    (OkL [(!is, false), (g, true)] ∧ (((hearK (0 : Int) false is g = (1 : Int) ∧ false = false) ∧ hearS (0 : Int) false is g = (1 : Int) ∧ hearW (0 : Int) is = false) ∧ (0 : Int) = (0 : Int) ∧ True) ∧ True) := by kernel_rfl
theorem refH0_p2 (is g : Bool) :
    isEnd (evTill Tryd.prog [] 300 (99) 900 17 [.code (bodyOf Tryd.f17)] (envOf [.agg (stT 0 false), .v (.vb fun _ => is), .v (.vb fun _ => g)] Tryd.f17.ntmps) ([]) ⟨[.t, .t, .t, .t, .t, .f, .s true, .t, .t, .t], 80⟩) (endP ([]) (.tup [(true, moveT (hearK 0 false is g) false (hearS 0 false is g) (hearW 0 is)), (false, .vi .i64 fun _ => 0)]) [] 200) =
    (OkL [(!is, true)] ∧ (((hearK (0 : Int) false is g = upd (upd (upd (upd (upd (upd (fun is => (0 : Int)) [(0 : Nat)] (0 : Int)) [(1 : Nat)] (0 : Int)) [(2 : Nat)] (0 : Int)) [(3 : Nat)] (3 : Int)) [(4 : Nat)] (0 : Int)) [(5 : Nat)] (0 : Int) [(0 : Nat)] ∧ false = false) ∧ hearS (0 : Int) false is g = upd (upd (upd (upd (upd (upd (fun is => (0 : Int)) [(0 : Nat)] (0 : Int)) [(1 : Nat)] (2 : Int)) [(2 : Nat)] (0 : Int)) [(3 : Nat)] (1 : Int)) [(4 : Nat)] (0 : Int)) [(5 : Nat)] (0 : Int) [(0 : Nat)] ∧ hearW (0 : Int) is = false) ∧ (0 : Int) = (0 : Int) ∧ True) ∧ True) := by kernel_rfl

set_option maxHeartbeats 4000000 in
theorem refH0 (is g : Bool)  :
    RunsTo Tryd.prog 17 [.code (bodyOf Tryd.f17)] (envOf [.agg (stT 0 false), .v (.vb fun _ => is), .v (.vb fun _ => g)] Tryd.f17.ntmps) (Sx.look ([])) 80 ((.tup [(true, moveT (hearK 0 false is g) false (hearS 0 false is g) (hearW 0 is)), (false, .vi .i64 fun _ => 0)])) (Sx.look ([])) 200 := by
  refine bcase (c := (!is)) (fun gg0 => ?_) (fun gg0 => ?_)
  · refine bcase (c := (g)) (fun gg1 => ?_) (fun gg1 => ?_)
    · refine runs_last baseO (Sx.Ends.of (refH0_p0 is g) ⟨(okc gg0 (okc gg1 okn)), ?_⟩) (by kernel_rfl) rfl (gtL (by decide)) (by decide)
      cases is <;> cases g <;> simp_all (config := {decide := true}) [hearK, hearS, hearW, upd]
    · refine runs_last baseO (Sx.Ends.of (refH0_p1 is g) ⟨(okc gg0 (okc gg1 okn)), ?_⟩) (by kernel_rfl) rfl (gtL (by decide)) (by decide)
      cases is <;> cases g <;> simp_all (config := {decide := true}) [hearK, hearS, hearW, upd]
  · refine runs_last baseO (Sx.Ends.of (refH0_p2 is g) ⟨(okc gg0 okn), ?_⟩) (by kernel_rfl) rfl (gtL (by decide)) (by decide)
    cases is <;> cases g <;> simp_all (config := {decide := true}) [hearK, hearS, hearW, upd]

theorem refH1_p0 (is g : Bool) :
    isEnd (evTill Tryd.prog [] 300 (99) 900 17 [.code (bodyOf Tryd.f17)] (envOf [.agg (stT 1 false), .v (.vb fun _ => is), .v (.vb fun _ => g)] Tryd.f17.ntmps) ([]) ⟨[.t, .t, .t, .t, .f, .t, .t, .t, .t, .t, .f, .s false, .f, .t, .t, .t], 80⟩) (endP ([]) (.tup [(true, moveT (hearK 1 false is g) false (hearS 1 false is g) (hearW 1 is)), (false, .vi .i64 fun _ => 0)]) [] 200) =
    (OkL [(!is, false)] ∧ (((hearK (1 : Int) false is g = upd (upd (upd (upd (upd (upd (fun is => (0 : Int)) [(0 : Nat)] (0 : Int)) [(1 : Nat)] (1 : Int)) [(2 : Nat)] (0 : Int)) [(3 : Nat)] (1 : Int)) [(4 : Nat)] (1 : Int)) [(5 : Nat)] (2 : Int) [(1 : Nat)] ∧ false = false) ∧ hearS (1 : Int) false is g = upd (upd (upd (upd (upd (upd (fun is => (0 : Int)) [(0 : Nat)] (2 : Int)) [(1 : Nat)] (0 : Int)) [(2 : Nat)] (0 : Int)) [(3 : Nat)] (0 : Int)) [(4 : Nat)] (0 : Int)) [(5 : Nat)] (2 : Int) [(1 : Nat)] ∧ hearW (1 : Int) is = false) ∧ (0 : Int) = (0 : Int) ∧ True) ∧ True) := by kernel_rfl
theorem refH1_p1 (is g : Bool) :
    isEnd (evTill Tryd.prog [] 300 (99) 900 17 [.code (bodyOf Tryd.f17)] (envOf [.agg (stT 1 false), .v (.vb fun _ => is), .v (.vb fun _ => g)] Tryd.f17.ntmps) ([]) ⟨[.t, .t, .t, .t, .f, .t, .t, .t, .t, .t, .f, .s true, .t, .t, .t], 80⟩) (endP ([]) (.tup [(true, moveT (hearK 1 false is g) false (hearS 1 false is g) (hearW 1 is)), (false, .vi .i64 fun _ => 0)]) [] 200) =
    (OkL [(!is, true)] ∧ (((hearK (1 : Int) false is g = upd (upd (upd (upd (upd (upd (fun is => (0 : Int)) [(0 : Nat)] (0 : Int)) [(1 : Nat)] (0 : Int)) [(2 : Nat)] (0 : Int)) [(3 : Nat)] (3 : Int)) [(4 : Nat)] (0 : Int)) [(5 : Nat)] (0 : Int) [(1 : Nat)] ∧ false = false) ∧ hearS (1 : Int) false is g = upd (upd (upd (upd (upd (upd (fun is => (0 : Int)) [(0 : Nat)] (0 : Int)) [(1 : Nat)] (2 : Int)) [(2 : Nat)] (0 : Int)) [(3 : Nat)] (1 : Int)) [(4 : Nat)] (0 : Int)) [(5 : Nat)] (0 : Int) [(1 : Nat)] ∧ hearW (1 : Int) is = false) ∧ (0 : Int) = (0 : Int) ∧ True) ∧ True) := by kernel_rfl

set_option maxHeartbeats 4000000 in
theorem refH1 (is g : Bool)  :
    RunsTo Tryd.prog 17 [.code (bodyOf Tryd.f17)] (envOf [.agg (stT 1 false), .v (.vb fun _ => is), .v (.vb fun _ => g)] Tryd.f17.ntmps) (Sx.look ([])) 80 ((.tup [(true, moveT (hearK 1 false is g) false (hearS 1 false is g) (hearW 1 is)), (false, .vi .i64 fun _ => 0)])) (Sx.look ([])) 200 := by
  refine bcase (c := (!is)) (fun gg0 => ?_) (fun gg0 => ?_)
  · refine runs_last baseO (Sx.Ends.of (refH1_p0 is g) ⟨(okc gg0 okn), ?_⟩) (by kernel_rfl) rfl (gtL (by decide)) (by decide)
    cases is <;> cases g <;> simp_all (config := {decide := true}) [hearK, hearS, hearW, upd]
  · refine runs_last baseO (Sx.Ends.of (refH1_p1 is g) ⟨(okc gg0 okn), ?_⟩) (by kernel_rfl) rfl (gtL (by decide)) (by decide)
    cases is <;> cases g <;> simp_all (config := {decide := true}) [hearK, hearS, hearW, upd]

theorem refH2_p0 (is g : Bool) :
    isEnd (evTill Tryd.prog [] 300 (99) 900 17 [.code (bodyOf Tryd.f17)] (envOf [.agg (stT 2 false), .v (.vb fun _ => is), .v (.vb fun _ => g)] Tryd.f17.ntmps) ([]) ⟨[.t, .t, .t, .t, .f, .t, .t, .t, .t, .f, .t, .t, .t, .t, .t, .f, .s false, .f, .t, .t, .t], 80⟩) (endP ([]) (.tup [(true, moveT (hearK 2 false is g) false (hearS 2 false is g) (hearW 2 is)), (false, .vi .i64 fun _ => 0)]) [] 200) =
    (OkL [(!is, false)] ∧ (((hearK (2 : Int) false is g = upd (upd (upd (upd (upd (upd (fun is => (0 : Int)) [(0 : Nat)] (0 : Int)) [(1 : Nat)] (1 : Int)) [(2 : Nat)] (0 : Int)) [(3 : Nat)] (1 : Int)) [(4 : Nat)] (1 : Int)) [(5 : Nat)] (2 : Int) [(2 : Nat)] ∧ false = false) ∧ hearS (2 : Int) false is g = upd (upd (upd (upd (upd (upd (fun is => (0 : Int)) [(0 : Nat)] (2 : Int)) [(1 : Nat)] (0 : Int)) [(2 : Nat)] (0 : Int)) [(3 : Nat)] (0 : Int)) [(4 : Nat)] (0 : Int)) [(5 : Nat)] (2 : Int) [(2 : Nat)] ∧ hearW (2 : Int) is = true) ∧ (0 : Int) = (0 : Int) ∧ True) ∧ True) := by kernel_rfl
theorem refH2_p1 (is g : Bool) :
    isEnd (evTill Tryd.prog [] 300 (99) 900 17 [.code (bodyOf Tryd.f17)] (envOf [.agg (stT 2 false), .v (.vb fun _ => is), .v (.vb fun _ => g)] Tryd.f17.ntmps) ([]) ⟨[.t, .t, .t, .t, .f, .t, .t, .t, .t, .f, .t, .t, .t, .t, .t, .f, .s true, .t, .t, .t], 80⟩) (endP ([]) (.tup [(true, moveT (hearK 2 false is g) false (hearS 2 false is g) (hearW 2 is)), (false, .vi .i64 fun _ => 0)]) [] 200) =
    (OkL [(!is, true)] ∧ (((hearK (2 : Int) false is g = upd (upd (upd (upd (upd (upd (fun is => (0 : Int)) [(0 : Nat)] (0 : Int)) [(1 : Nat)] (0 : Int)) [(2 : Nat)] (0 : Int)) [(3 : Nat)] (3 : Int)) [(4 : Nat)] (0 : Int)) [(5 : Nat)] (0 : Int) [(2 : Nat)] ∧ false = false) ∧ hearS (2 : Int) false is g = upd (upd (upd (upd (upd (upd (fun is => (0 : Int)) [(0 : Nat)] (0 : Int)) [(1 : Nat)] (2 : Int)) [(2 : Nat)] (0 : Int)) [(3 : Nat)] (1 : Int)) [(4 : Nat)] (0 : Int)) [(5 : Nat)] (0 : Int) [(2 : Nat)] ∧ hearW (2 : Int) is = false) ∧ (0 : Int) = (0 : Int) ∧ True) ∧ True) := by kernel_rfl

set_option maxHeartbeats 4000000 in
theorem refH2 (is g : Bool)  :
    RunsTo Tryd.prog 17 [.code (bodyOf Tryd.f17)] (envOf [.agg (stT 2 false), .v (.vb fun _ => is), .v (.vb fun _ => g)] Tryd.f17.ntmps) (Sx.look ([])) 80 ((.tup [(true, moveT (hearK 2 false is g) false (hearS 2 false is g) (hearW 2 is)), (false, .vi .i64 fun _ => 0)])) (Sx.look ([])) 200 := by
  refine bcase (c := (!is)) (fun gg0 => ?_) (fun gg0 => ?_)
  · refine runs_last baseO (Sx.Ends.of (refH2_p0 is g) ⟨(okc gg0 okn), ?_⟩) (by kernel_rfl) rfl (gtL (by decide)) (by decide)
    cases is <;> cases g <;> simp_all (config := {decide := true}) [hearK, hearS, hearW, upd]
  · refine runs_last baseO (Sx.Ends.of (refH2_p1 is g) ⟨(okc gg0 okn), ?_⟩) (by kernel_rfl) rfl (gtL (by decide)) (by decide)
    cases is <;> cases g <;> simp_all (config := {decide := true}) [hearK, hearS, hearW, upd]

theorem refH3_p0 (is g : Bool) :
    isEnd (evTill Tryd.prog [] 300 (99) 900 17 [.code (bodyOf Tryd.f17)] (envOf [.agg (stT 2 true), .v (.vb fun _ => is), .v (.vb fun _ => g)] Tryd.f17.ntmps) ([]) ⟨[.t, .t, .t, .t, .f, .t, .t, .t, .t, .f, .t, .t, .t, .t, .f, .t, .t, .t, .t, .t, .f, .s false, .f, .t, .t, .t], 80⟩) (endP ([]) (.tup [(true, moveT (hearK 2 true is g) false (hearS 2 true is g) (hearW 2 is)), (false, .vi .i64 fun _ => 0)]) [] 200) =
    (OkL [(!is, false)] ∧ (((hearK (2 : Int) true is g = upd (upd (upd (upd (upd (upd (fun is => (0 : Int)) [(0 : Nat)] (0 : Int)) [(1 : Nat)] (1 : Int)) [(2 : Nat)] (0 : Int)) [(3 : Nat)] (1 : Int)) [(4 : Nat)] (1 : Int)) [(5 : Nat)] (2 : Int) [(3 : Nat)] ∧ false = false) ∧ hearS (2 : Int) true is g = upd (upd (upd (upd (upd (upd (fun is => (0 : Int)) [(0 : Nat)] (2 : Int)) [(1 : Nat)] (0 : Int)) [(2 : Nat)] (0 : Int)) [(3 : Nat)] (0 : Int)) [(4 : Nat)] (0 : Int)) [(5 : Nat)] (2 : Int) [(3 : Nat)] ∧ hearW (2 : Int) is = true) ∧ (0 : Int) = (0 : Int) ∧ True) ∧ True) := by kernel_rfl
theorem refH3_p1 (is g : Bool) :
    isEnd (evTill Tryd.prog [] 300 (99) 900 17 [.code (bodyOf Tryd.f17)] (envOf [.agg (stT 2 true), .v (.vb fun _ => is), .v (.vb fun _ => g)] Tryd.f17.ntmps) ([]) ⟨[.t, .t, .t, .t, .f, .t, .t, .t, .t, .f, .t, .t, .t, .t, .f, .t, .t, .t, .t, .t, .f, .s true, .t, .t, .t], 80⟩) (endP ([]) (.tup [(true, moveT (hearK 2 true is g) false (hearS 2 true is g) (hearW 2 is)), (false, .vi .i64 fun _ => 0)]) [] 200) =
    (OkL [(!is, true)] ∧ (((hearK (2 : Int) true is g = upd (upd (upd (upd (upd (upd (fun is => (0 : Int)) [(0 : Nat)] (0 : Int)) [(1 : Nat)] (0 : Int)) [(2 : Nat)] (0 : Int)) [(3 : Nat)] (3 : Int)) [(4 : Nat)] (0 : Int)) [(5 : Nat)] (0 : Int) [(3 : Nat)] ∧ false = false) ∧ hearS (2 : Int) true is g = upd (upd (upd (upd (upd (upd (fun is => (0 : Int)) [(0 : Nat)] (0 : Int)) [(1 : Nat)] (2 : Int)) [(2 : Nat)] (0 : Int)) [(3 : Nat)] (1 : Int)) [(4 : Nat)] (0 : Int)) [(5 : Nat)] (0 : Int) [(3 : Nat)] ∧ hearW (2 : Int) is = false) ∧ (0 : Int) = (0 : Int) ∧ True) ∧ True) := by kernel_rfl

set_option maxHeartbeats 4000000 in
theorem refH3 (is g : Bool)  :
    RunsTo Tryd.prog 17 [.code (bodyOf Tryd.f17)] (envOf [.agg (stT 2 true), .v (.vb fun _ => is), .v (.vb fun _ => g)] Tryd.f17.ntmps) (Sx.look ([])) 80 ((.tup [(true, moveT (hearK 2 true is g) false (hearS 2 true is g) (hearW 2 is)), (false, .vi .i64 fun _ => 0)])) (Sx.look ([])) 200 := by
  refine bcase (c := (!is)) (fun gg0 => ?_) (fun gg0 => ?_)
  · refine runs_last baseO (Sx.Ends.of (refH3_p0 is g) ⟨(okc gg0 okn), ?_⟩) (by kernel_rfl) rfl (gtL (by decide)) (by decide)
    cases is <;> cases g <;> simp_all (config := {decide := true}) [hearK, hearS, hearW, upd]
  · refine runs_last baseO (Sx.Ends.of (refH3_p1 is g) ⟨(okc gg0 okn), ?_⟩) (by kernel_rfl) rfl (gtL (by decide)) (by decide)
    cases is <;> cases g <;> simp_all (config := {decide := true}) [hearK, hearS, hearW, upd]

theorem refH4_p0 (is g : Bool) :
    isEnd (evTill Tryd.prog [] 300 (99) 900 17 [.code (bodyOf Tryd.f17)] (envOf [.agg (stT 3 false), .v (.vb fun _ => is), .v (.vb fun _ => g)] Tryd.f17.ntmps) ([]) ⟨[.t, .t, .t, .t, .f, .t, .t, .t, .t, .f, .t, .t, .t, .t, .f, .t, .t, .t, .t, .f, .t, .t, .t, .t, .t, .f, .s false, .f, .t, .t, .t], 80⟩) (endP ([]) (.tup [(true, moveT (hearK 3 false is g) false (hearS 3 false is g) (hearW 3 is)), (false, .vi .i64 fun _ => 0)]) [] 200) =
    (OkL [(!is, false)] ∧ (((hearK (3 : Int) false is g = upd (upd (upd (upd (upd (upd (fun is => (0 : Int)) [(0 : Nat)] (0 : Int)) [(1 : Nat)] (1 : Int)) [(2 : Nat)] (0 : Int)) [(3 : Nat)] (1 : Int)) [(4 : Nat)] (1 : Int)) [(5 : Nat)] (2 : Int) [(4 : Nat)] ∧ false = false) ∧ hearS (3 : Int) false is g = upd (upd (upd (upd (upd (upd (fun is => (0 : Int)) [(0 : Nat)] (2 : Int)) [(1 : Nat)] (0 : Int)) [(2 : Nat)] (0 : Int)) [(3 : Nat)] (0 : Int)) [(4 : Nat)] (0 : Int)) [(5 : Nat)] (2 : Int) [(4 : Nat)] ∧ hearW (3 : Int) is = false) ∧ (0 : Int) = (0 : Int) ∧ True) ∧ True) := by kernel_rfl
theorem refH4_p1 (is g : Bool) :
    isEnd (evTill Tryd.prog [] 300 (99) 900 17 [.code (bodyOf Tryd.f17)] (envOf [.agg (stT 3 false), .v (.vb fun _ => is), .v (.vb fun _ => g)] Tryd.f17.ntmps) ([]) ⟨[.t, .t, .t, .t, .f, .t, .t, .t, .t, .f, .t, .t, .t, .t, .f, .t, .t, .t, .t, .f, .t, .t, .t, .t, .t, .f, .s true, .t, .t, .t], 80⟩) (endP ([]) (.tup [(true, moveT (hearK 3 false is g) false (hearS 3 false is g) (hearW 3 is)), (false, .vi .i64 fun _ => 0)]) [] 200) =
    (OkL [(!is, true)] ∧ (((hearK (3 : Int) false is g = upd (upd (upd (upd (upd (upd (fun is => (0 : Int)) [(0 : Nat)] (0 : Int)) [(1 : Nat)] (0 : Int)) [(2 : Nat)] (0 : Int)) [(3 : Nat)] (3 : Int)) [(4 : Nat)] (0 : Int)) [(5 : Nat)] (0 : Int) [(4 : Nat)] ∧ false = false) ∧ hearS (3 : Int) false is g = upd (upd (upd (upd (upd (upd (fun is => (0 : Int)) [(0 : Nat)] (0 : Int)) [(1 : Nat)] (2 : Int)) [(2 : Nat)] (0 : Int)) [(3 : Nat)] (1 : Int)) [(4 : Nat)] (0 : Int)) [(5 : Nat)] (0 : Int) [(4 : Nat)] ∧ hearW (3 : Int) is = false) ∧ (0 : Int) = (0 : Int) ∧ True) ∧ True) := by kernel_rfl

set_option maxHeartbeats 4000000 in
theorem refH4 (is g : Bool)  :
    RunsTo Tryd.prog 17 [.code (bodyOf Tryd.f17)] (envOf [.agg (stT 3 false), .v (.vb fun _ => is), .v (.vb fun _ => g)] Tryd.f17.ntmps) (Sx.look ([])) 80 ((.tup [(true, moveT (hearK 3 false is g) false (hearS 3 false is g) (hearW 3 is)), (false, .vi .i64 fun _ => 0)])) (Sx.look ([])) 200 := by
  refine bcase (c := (!is)) (fun gg0 => ?_) (fun gg0 => ?_)
  · refine runs_last baseO (Sx.Ends.of (refH4_p0 is g) ⟨(okc gg0 okn), ?_⟩) (by kernel_rfl) rfl (gtL (by decide)) (by decide)
    cases is <;> cases g <;> simp_all (config := {decide := true}) [hearK, hearS, hearW, upd]
  · refine runs_last baseO (Sx.Ends.of (refH4_p1 is g) ⟨(okc gg0 okn), ?_⟩) (by kernel_rfl) rfl (gtL (by decide)) (by decide)
    cases is <;> cases g <;> simp_all (config := {decide := true}) [hearK, hearS, hearW, upd]

theorem refH5_p0 (is g : Bool) :
    isEnd (evTill Tryd.prog [] 300 (99) 900 17 [.code (bodyOf Tryd.f17)] (envOf [.agg (stT 3 true), .v (.vb fun _ => is), .v (.vb fun _ => g)] Tryd.f17.ntmps) ([]) ⟨[.t, .t, .t, .t, .f, .t, .t, .t, .t, .f, .t, .t, .t, .t, .f, .t, .t, .t, .t, .f, .t, .t, .t, .t, .f, .t, .t, .t, .t, .t, .f, .s false, .f, .t, .t, .t], 80⟩) (endP ([]) (.tup [(true, moveT (hearK 3 true is g) false (hearS 3 true is g) (hearW 3 is)), (false, .vi .i64 fun _ => 0)]) [] 200) =
    (OkL [(!is, false)] ∧ (((hearK (3 : Int) true is g = upd (upd (upd (upd (upd (upd (fun is => (0 : Int)) [(0 : Nat)] (0 : Int)) [(1 : Nat)] (1 : Int)) [(2 : Nat)] (0 : Int)) [(3 : Nat)] (1 : Int)) [(4 : Nat)] (1 : Int)) [(5 : Nat)] (2 : Int) [(5 : Nat)] ∧ false = false) ∧ hearS (3 : Int) true is g = upd (upd (upd (upd (upd (upd (fun is => (0 : Int)) [(0 : Nat)] (2 : Int)) [(1 : Nat)] (0 : Int)) [(2 : Nat)] (0 : Int)) [(3 : Nat)] (0 : Int)) [(4 : Nat)] (0 : Int)) [(5 : Nat)] (2 : Int) [(5 : Nat)] ∧ hearW (3 : Int) is = false) ∧ (0 : Int) = (0 : Int) ∧ True) ∧ True) := by kernel_rfl
theorem refH5_p1 (is g : Bool) :
    isEnd (evTill Tryd.prog [] 300 (99) 900 17 [.code (bodyOf Tryd.f17)] (envOf [.agg (stT 3 true), .v (.vb fun _ => is), .v (.vb fun _ => g)] Tryd.f17.ntmps) ([]) ⟨[.t, .t, .t, .t, .f, .t, .t, .t, .t, .f, .t, .t, .t, .t, .f, .t, .t, .t, .t, .f, .t, .t, .t, .t, .f, .t, .t, .t, .t, .t, .f, .s true, .t, .t, .t], 80⟩) (endP ([]) (.tup [(true, moveT (hearK 3 true is g) false (hearS 3 true is g) (hearW 3 is)), (false, .vi .i64 fun _ => 0)]) [] 200) =
    (OkL [(!is, true)] ∧ (((hearK (3 : Int) true is g = upd (upd (upd (upd (upd (upd (fun is => (0 : Int)) [(0 : Nat)] (0 : Int)) [(1 : Nat)] (0 : Int)) [(2 : Nat)] (0 : Int)) [(3 : Nat)] (3 : Int)) [(4 : Nat)] (0 : Int)) [(5 : Nat)] (0 : Int) [(5 : Nat)] ∧ false = false) ∧ hearS (3 : Int) true is g = upd (upd (upd (upd (upd (upd (fun is => (0 : Int)) [(0 : Nat)] (0 : Int)) [(1 : Nat)] (2 : Int)) [(2 : Nat)] (0 : Int)) [(3 : Nat)] (1 : Int)) [(4 : Nat)] (0 : Int)) [(5 : Nat)] (0 : Int) [(5 : Nat)] ∧ hearW (3 : Int) is = false) ∧ (0 : Int) = (0 : Int) ∧ True) ∧ True) := by kernel_rfl

set_option maxHeartbeats 4000000 in
theorem refH5 (is g : Bool)  :
    RunsTo Tryd.prog 17 [.code (bodyOf Tryd.f17)] (envOf [.agg (stT 3 true), .v (.vb fun _ => is), .v (.vb fun _ => g)] Tryd.f17.ntmps) (Sx.look ([])) 80 ((.tup [(true, moveT (hearK 3 true is g) false (hearS 3 true is g) (hearW 3 is)), (false, .vi .i64 fun _ => 0)])) (Sx.look ([])) 200 := by
  refine bcase (c := (!is)) (fun gg0 => ?_) (fun gg0 => ?_)
  · refine runs_last baseO (Sx.Ends.of (refH5_p0 is g) ⟨(okc gg0 okn), ?_⟩) (by kernel_rfl) rfl (gtL (by decide)) (by decide)
    cases is <;> cases g <;> simp_all (config := {decide := true}) [hearK, hearS, hearW, upd]
  · refine runs_last baseO (Sx.Ends.of (refH5_p1 is g) ⟨(okc gg0 okn), ?_⟩) (by kernel_rfl) rfl (gtL (by decide)) (by decide)
    cases is <;> cases g <;> simp_all (config := {decide := true}) [hearK, hearS, hearW, upd]

theorem six {k : Int} {o : Bool} (h : rtB k o = true) : (k = 0 ∧ o = false) ∨ (k = 1 ∧ o = false) ∨ (k = 2 ∧ o = false) ∨ (k = 2 ∧ o = true) ∨ (k = 3 ∧ o = false) ∨ (k = 3 ∧ o = true) := by
  obtain ⟨h1, h2, h3⟩ := rtB_ok h
  cases o with
  | false => simp; omega
  | true => have := h3 rfl; simp; omega
theorem refH (k : Int) (o is g : Bool) (hr : rtB k o = true) : RunsTo Tryd.prog 17 [.code (bodyOf Tryd.f17)] (envOf [.agg (stT k o), .v (.vb fun _ => is), .v (.vb fun _ => g)] Tryd.f17.ntmps) (Sx.look ([])) 80 ((.tup [(true, moveT (hearK k o is g) false (hearS k o is g) (hearW k is)), (false, .vi .i64 fun _ => 0)])) (Sx.look ([])) 200 := by
  rcases six hr with ⟨rfl, rfl⟩ | ⟨rfl, rfl⟩ | ⟨rfl, rfl⟩ | ⟨rfl, rfl⟩ | ⟨rfl, rfl⟩ | ⟨rfl, rfl⟩
  · exact refH0 is g
  · exact refH1 is g
  · exact refH2 is g
  · exact refH3 is g
  · exact refH4 is g
  · exact refH5 is g

theorem refA0_p0 (z : Nat) :
    isEnd (evTill Tryd.prog [] 300 (99) 900 18 [.code (bodyOf Tryd.f18)] (envOf [.agg (stT 0 false), .v (.vb fun _ => true)] Tryd.f18.ntmps) ([]) ⟨[.t, .t, .t, .t, .t, .f, .t, .t, .t, .t, .t, .t, .t, .f], 80⟩) (endP ([]) (.tup [(true, moveT (askK 0 false true) (askO 0 false true) (askS 0 false true) false), (false, .vi .i64 fun _ => 0)]) [] 200) =
    (OkL [] ∧ (((askK (0 : Int) false true = upd (upd (upd (upd (upd (upd (fun is => (0 : Int)) [(0 : Nat)] (3 : Int)) [(1 : Nat)] (0 : Int)) [(2 : Nat)] (2 : Int)) [(3 : Nat)] (0 : Int)) [(4 : Nat)] (0 : Int)) [(5 : Nat)] (3 : Int) [(0 : Nat)] ∧ false = false) ∧ askS (0 : Int) false true = upd (upd (upd (upd (upd (upd (fun is => (0 : Int)) [(0 : Nat)] (1 : Int)) [(1 : Nat)] (9 : Int)) [(2 : Nat)] (0 : Int)) [(3 : Nat)] (9 : Int)) [(4 : Nat)] (9 : Int)) [(5 : Nat)] (0 : Int) [(0 : Nat)] ∧ false = false) ∧ (0 : Int) = (0 : Int) ∧ True) ∧ True) := by kernel_rfl

set_option maxHeartbeats 4000000 in
theorem refA0 (z : Nat)  :
    RunsTo Tryd.prog 18 [.code (bodyOf Tryd.f18)] (envOf [.agg (stT 0 false), .v (.vb fun _ => true)] Tryd.f18.ntmps) (Sx.look ([])) 80 ((.tup [(true, moveT (askK 0 false true) (askO 0 false true) (askS 0 false true) false), (false, .vi .i64 fun _ => 0)])) (Sx.look ([])) 200 := by
  refine runs_last baseO (Sx.Ends.of (refA0_p0 z) ⟨okn, ?_⟩) (by kernel_rfl) rfl (gtL (by decide)) (by decide)
  simp (config := {decide := true}) [askK, askO, askS, askE, upd]

theorem refX0_p0 (z : Nat) :
    isEnd (evTill Tryd.prog [] 300 (99) 900 18 [.code (bodyOf Tryd.f18)] (envOf [.agg (stT 0 false), .v (.vb fun _ => false)] Tryd.f18.ntmps) ([]) ⟨[.t, .t, .t, .t, .t, .f, .t, .t, .t, .f, .t], 80⟩) (endP ([]) (.tup [(true, moveT 0 false 0 false), (false, .vi .i64 fun _ => 10)]) [] 200) =
    (OkL [] ∧ ((((0 : Int) = (0 : Int) ∧ false = false) ∧ (0 : Int) = (0 : Int) ∧ false = false) ∧ (10 : Int) = (10 : Int) ∧ True) ∧ True) := by kernel_rfl

set_option maxHeartbeats 4000000 in
theorem refX0 (z : Nat)  :
    RunsTo Tryd.prog 18 [.code (bodyOf Tryd.f18)] (envOf [.agg (stT 0 false), .v (.vb fun _ => false)] Tryd.f18.ntmps) (Sx.look ([])) 80 ((.tup [(true, moveT 0 false 0 false), (false, .vi .i64 fun _ => 10)])) (Sx.look ([])) 200 := by
  refine runs_last baseO (Sx.Ends.of (refX0_p0 z) ⟨okn, ?_⟩) (by kernel_rfl) rfl (gtL (by decide)) (by decide)
  simp (config := {decide := true}) [askK, askO, askS, askE, upd]

theorem refX1_p0 (z : Nat) :
    isEnd (evTill Tryd.prog [] 300 (99) 900 18 [.code (bodyOf Tryd.f18)] (envOf [.agg (stT 1 false), .v (.vb fun _ => true)] Tryd.f18.ntmps) ([]) ⟨[.t, .t, .t, .t, .f, .t, .t, .t, .t, .t, .f, .t, .t, .t, .t, .t, .t, .t, .t], 80⟩) (endP ([]) (.tup [(true, moveT 0 false 0 false), (false, .vi .i64 fun _ => 10)]) [] 200) =
    (OkL [] ∧ ((((0 : Int) = (0 : Int) ∧ false = false) ∧ (0 : Int) = (0 : Int) ∧ false = false) ∧ (10 : Int) = (10 : Int) ∧ True) ∧ True) := by kernel_rfl

set_option maxHeartbeats 4000000 in
theorem refX1 (z : Nat)  :
    RunsTo Tryd.prog 18 [.code (bodyOf Tryd.f18)] (envOf [.agg (stT 1 false), .v (.vb fun _ => true)] Tryd.f18.ntmps) (Sx.look ([])) 80 ((.tup [(true, moveT 0 false 0 false), (false, .vi .i64 fun _ => 10)])) (Sx.look ([])) 200 := by
  refine runs_last baseO (Sx.Ends.of (refX1_p0 z) ⟨okn, ?_⟩) (by kernel_rfl) rfl (gtL (by decide)) (by decide)
  simp (config := {decide := true}) [askK, askO, askS, askE, upd]

theorem refA1_p0 (z : Nat) :
    isEnd (evTill Tryd.prog [] 300 (99) 900 18 [.code (bodyOf Tryd.f18)] (envOf [.agg (stT 1 false), .v (.vb fun _ => false)] Tryd.f18.ntmps) ([]) ⟨[.t, .t, .t, .t, .f, .t, .t, .t, .t, .t, .f, .t, .t, .t, .f, .f], 80⟩) (endP ([]) (.tup [(true, moveT (askK 1 false false) (askO 1 false false) (askS 1 false false) false), (false, .vi .i64 fun _ => 0)]) [] 200) =
    (OkL [] ∧ (((askK (1 : Int) false false = upd (upd (upd (upd (upd (upd (fun is => (0 : Int)) [(0 : Nat)] (0 : Int)) [(1 : Nat)] (2 : Int)) [(2 : Nat)] (0 : Int)) [(3 : Nat)] (2 : Int)) [(4 : Nat)] (3 : Int)) [(5 : Nat)] (0 : Int) [(1 : Nat)] ∧ false = false) ∧ askS (1 : Int) false false = upd (upd (upd (upd (upd (upd (fun is => (0 : Int)) [(0 : Nat)] (9 : Int)) [(1 : Nat)] (2 : Int)) [(2 : Nat)] (9 : Int)) [(3 : Nat)] (0 : Int)) [(4 : Nat)] (0 : Int)) [(5 : Nat)] (9 : Int) [(1 : Nat)] ∧ false = false) ∧ (0 : Int) = (0 : Int) ∧ True) ∧ True) := by kernel_rfl

set_option maxHeartbeats 4000000 in
theorem refA1 (z : Nat)  :
    RunsTo Tryd.prog 18 [.code (bodyOf Tryd.f18)] (envOf [.agg (stT 1 false), .v (.vb fun _ => false)] Tryd.f18.ntmps) (Sx.look ([])) 80 ((.tup [(true, moveT (askK 1 false false) (askO 1 false false) (askS 1 false false) false), (false, .vi .i64 fun _ => 0)])) (Sx.look ([])) 200 := by
  refine runs_last baseO (Sx.Ends.of (refA1_p0 z) ⟨okn, ?_⟩) (by kernel_rfl) rfl (gtL (by decide)) (by decide)
  simp (config := {decide := true}) [askK, askO, askS, askE, upd]

theorem refA2_p0 (z : Nat) :
    isEnd (evTill Tryd.prog [] 300 (99) 900 18 [.code (bodyOf Tryd.f18)] (envOf [.agg (stT 2 false), .v (.vb fun _ => true)] Tryd.f18.ntmps) ([]) ⟨[.t, .t, .t, .t, .f, .t, .t, .t, .t, .f, .t, .t, .t, .t, .t, .f, .t, .t, .t, .t, .t, .t, .t, .f], 80⟩) (endP ([]) (.tup [(true, moveT (askK 2 false true) (askO 2 false true) (askS 2 false true) false), (false, .vi .i64 fun _ => 0)]) [] 200) =
    (OkL [] ∧ (((askK (2 : Int) false true = upd (upd (upd (upd (upd (upd (fun is => (0 : Int)) [(0 : Nat)] (3 : Int)) [(1 : Nat)] (0 : Int)) [(2 : Nat)] (2 : Int)) [(3 : Nat)] (0 : Int)) [(4 : Nat)] (0 : Int)) [(5 : Nat)] (3 : Int) [(2 : Nat)] ∧ true = true) ∧ askS (2 : Int) false true = upd (upd (upd (upd (upd (upd (fun is => (0 : Int)) [(0 : Nat)] (1 : Int)) [(1 : Nat)] (9 : Int)) [(2 : Nat)] (0 : Int)) [(3 : Nat)] (9 : Int)) [(4 : Nat)] (9 : Int)) [(5 : Nat)] (0 : Int) [(2 : Nat)] ∧ false = false) ∧ (0 : Int) = (0 : Int) ∧ True) ∧ True) := by kernel_rfl

set_option maxHeartbeats 4000000 in
theorem refA2 (z : Nat)  :
    RunsTo Tryd.prog 18 [.code (bodyOf Tryd.f18)] (envOf [.agg (stT 2 false), .v (.vb fun _ => true)] Tryd.f18.ntmps) (Sx.look ([])) 80 ((.tup [(true, moveT (askK 2 false true) (askO 2 false true) (askS 2 false true) false), (false, .vi .i64 fun _ => 0)])) (Sx.look ([])) 200 := by
  refine runs_last baseO (Sx.Ends.of (refA2_p0 z) ⟨okn, ?_⟩) (by kernel_rfl) rfl (gtL (by decide)) (by decide)
  simp (config := {decide := true}) [askK, askO, askS, askE, upd]

theorem refX2_p0 (z : Nat) :
    isEnd (evTill Tryd.prog [] 300 (99) 900 18 [.code (bodyOf Tryd.f18)] (envOf [.agg (stT 2 false), .v (.vb fun _ => false)] Tryd.f18.ntmps) ([]) ⟨[.t, .t, .t, .t, .f, .t, .t, .t, .t, .f, .t, .t, .t, .t, .t, .f, .t, .t, .t, .f, .t], 80⟩) (endP ([]) (.tup [(true, moveT 0 false 0 false), (false, .vi .i64 fun _ => 10)]) [] 200) =
    (OkL [] ∧ ((((0 : Int) = (0 : Int) ∧ false = false) ∧ (0 : Int) = (0 : Int) ∧ false = false) ∧ (10 : Int) = (10 : Int) ∧ True) ∧ True) := by kernel_rfl

set_option maxHeartbeats 4000000 in
theorem refX2 (z : Nat)  :
    RunsTo Tryd.prog 18 [.code (bodyOf Tryd.f18)] (envOf [.agg (stT 2 false), .v (.vb fun _ => false)] Tryd.f18.ntmps) (Sx.look ([])) 80 ((.tup [(true, moveT 0 false 0 false), (false, .vi .i64 fun _ => 10)])) (Sx.look ([])) 200 := by
  refine runs_last baseO (Sx.Ends.of (refX2_p0 z) ⟨okn, ?_⟩) (by kernel_rfl) rfl (gtL (by decide)) (by decide)
  simp (config := {decide := true}) [askK, askO, askS, askE, upd]

theorem refX3_p0 (z : Nat) :
    isEnd (evTill Tryd.prog [] 300 (99) 900 18 [.code (bodyOf Tryd.f18)] (envOf [.agg (stT 2 true), .v (.vb fun _ => true)] Tryd.f18.ntmps) ([]) ⟨[.t, .t, .t, .t, .f, .t, .t, .t, .t, .f, .t, .t, .t, .t, .f, .t, .t, .t, .t, .t, .f, .t, .t, .t, .t, .t, .t, .t, .t], 80⟩) (endP ([]) (.tup [(true, moveT 0 false 0 false), (false, .vi .i64 fun _ => 10)]) [] 200) =
    (OkL [] ∧ ((((0 : Int) = (0 : Int) ∧ false = false) ∧ (0 : Int) = (0 : Int) ∧ false = false) ∧ (10 : Int) = (10 : Int) ∧ True) ∧ True) := by kernel_rfl

set_option maxHeartbeats 4000000 in
theorem refX3 (z : Nat)  :
    RunsTo Tryd.prog 18 [.code (bodyOf Tryd.f18)] (envOf [.agg (stT 2 true), .v (.vb fun _ => true)] Tryd.f18.ntmps) (Sx.look ([])) 80 ((.tup [(true, moveT 0 false 0 false), (false, .vi .i64 fun _ => 10)])) (Sx.look ([])) 200 := by
  refine runs_last baseO (Sx.Ends.of (refX3_p0 z) ⟨okn, ?_⟩) (by kernel_rfl) rfl (gtL (by decide)) (by decide)
  simp (config := {decide := true}) [askK, askO, askS, askE, upd]

theorem refA3_p0 (z : Nat) :
    isEnd (evTill Tryd.prog [] 300 (99) 900 18 [.code (bodyOf Tryd.f18)] (envOf [.agg (stT 2 true), .v (.vb fun _ => false)] Tryd.f18.ntmps) ([]) ⟨[.t, .t, .t, .t, .f, .t, .t, .t, .t, .f, .t, .t, .t, .t, .f, .t, .t, .t, .t, .t, .f, .t, .t, .t, .f, .f], 80⟩) (endP ([]) (.tup [(true, moveT (askK 2 true false) (askO 2 true false) (askS 2 true false) false), (false, .vi .i64 fun _ => 0)]) [] 200) =
    (OkL [] ∧ (((askK (2 : Int) true false = upd (upd (upd (upd (upd (upd (fun is => (0 : Int)) [(0 : Nat)] (0 : Int)) [(1 : Nat)] (2 : Int)) [(2 : Nat)] (0 : Int)) [(3 : Nat)] (2 : Int)) [(4 : Nat)] (3 : Int)) [(5 : Nat)] (0 : Int) [(3 : Nat)] ∧ false = false) ∧ askS (2 : Int) true false = upd (upd (upd (upd (upd (upd (fun is => (0 : Int)) [(0 : Nat)] (9 : Int)) [(1 : Nat)] (2 : Int)) [(2 : Nat)] (9 : Int)) [(3 : Nat)] (0 : Int)) [(4 : Nat)] (0 : Int)) [(5 : Nat)] (9 : Int) [(3 : Nat)] ∧ false = false) ∧ (0 : Int) = (0 : Int) ∧ True) ∧ True) := by kernel_rfl

set_option maxHeartbeats 4000000 in
theorem refA3 (z : Nat)  :
    RunsTo Tryd.prog 18 [.code (bodyOf Tryd.f18)] (envOf [.agg (stT 2 true), .v (.vb fun _ => false)] Tryd.f18.ntmps) (Sx.look ([])) 80 ((.tup [(true, moveT (askK 2 true false) (askO 2 true false) (askS 2 true false) false), (false, .vi .i64 fun _ => 0)])) (Sx.look ([])) 200 := by
  refine runs_last baseO (Sx.Ends.of (refA3_p0 z) ⟨okn, ?_⟩) (by kernel_rfl) rfl (gtL (by decide)) (by decide)
  simp (config := {decide := true}) [askK, askO, askS, askE, upd]

theorem refX4_p0 (z : Nat) :
    isEnd (evTill Tryd.prog [] 300 (99) 900 18 [.code (bodyOf Tryd.f18)] (envOf [.agg (stT 3 false), .v (.vb fun _ => true)] Tryd.f18.ntmps) ([]) ⟨[.t, .t, .t, .t, .f, .t, .t, .t, .t, .f, .t, .t, .t, .t, .f, .t, .t, .t, .t, .f, .t, .t, .t, .t, .t, .f, .t, .t, .t, .t, .t, .t, .t, .t], 80⟩) (endP ([]) (.tup [(true, moveT 0 false 0 false), (false, .vi .i64 fun _ => 10)]) [] 200) =
    (OkL [] ∧ ((((0 : Int) = (0 : Int) ∧ false = false) ∧ (0 : Int) = (0 : Int) ∧ false = false) ∧ (10 : Int) = (10 : Int) ∧ True) ∧ True) := by kernel_rfl

set_option maxHeartbeats 4000000 in
theorem refX4 (z : Nat)  :
    RunsTo Tryd.prog 18 [.code (bodyOf Tryd.f18)] (envOf [.agg (stT 3 false), .v (.vb fun _ => true)] Tryd.f18.ntmps) (Sx.look ([])) 80 ((.tup [(true, moveT 0 false 0 false), (false, .vi .i64 fun _ => 10)])) (Sx.look ([])) 200 := by
  refine runs_last baseO (Sx.Ends.of (refX4_p0 z) ⟨okn, ?_⟩) (by kernel_rfl) rfl (gtL (by decide)) (by decide)
  simp (config := {decide := true}) [askK, askO, askS, askE, upd]

theorem refA4_p0 (z : Nat) :
    isEnd (evTill Tryd.prog [] 300 (99) 900 18 [.code (bodyOf Tryd.f18)] (envOf [.agg (stT 3 false), .v (.vb fun _ => false)] Tryd.f18.ntmps) ([]) ⟨[.t, .t, .t, .t, .f, .t, .t, .t, .t, .f, .t, .t, .t, .t, .f, .t, .t, .t, .t, .f, .t, .t, .t, .t, .t, .f, .t, .t, .t, .f, .f], 80⟩) (endP ([]) (.tup [(true, moveT (askK 3 false false) (askO 3 false false) (askS 3 false false) false), (false, .vi .i64 fun _ => 0)]) [] 200) =
    (OkL [] ∧ (((askK (3 : Int) false false = upd (upd (upd (upd (upd (upd (fun is => (0 : Int)) [(0 : Nat)] (0 : Int)) [(1 : Nat)] (2 : Int)) [(2 : Nat)] (0 : Int)) [(3 : Nat)] (2 : Int)) [(4 : Nat)] (3 : Int)) [(5 : Nat)] (0 : Int) [(4 : Nat)] ∧ true = true) ∧ askS (3 : Int) false false = upd (upd (upd (upd (upd (upd (fun is => (0 : Int)) [(0 : Nat)] (9 : Int)) [(1 : Nat)] (2 : Int)) [(2 : Nat)] (9 : Int)) [(3 : Nat)] (0 : Int)) [(4 : Nat)] (0 : Int)) [(5 : Nat)] (9 : Int) [(4 : Nat)] ∧ false = false) ∧ (0 : Int) = (0 : Int) ∧ True) ∧ True) := by kernel_rfl

set_option maxHeartbeats 4000000 in
theorem refA4 (z : Nat)  :
    RunsTo Tryd.prog 18 [.code (bodyOf Tryd.f18)] (envOf [.agg (stT 3 false), .v (.vb fun _ => false)] Tryd.f18.ntmps) (Sx.look ([])) 80 ((.tup [(true, moveT (askK 3 false false) (askO 3 false false) (askS 3 false false) false), (false, .vi .i64 fun _ => 0)])) (Sx.look ([])) 200 := by
  refine runs_last baseO (Sx.Ends.of (refA4_p0 z) ⟨okn, ?_⟩) (by kernel_rfl) rfl (gtL (by decide)) (by decide)
  simp (config := {decide := true}) [askK, askO, askS, askE, upd]

theorem refA5_p0 (z : Nat) :
    isEnd (evTill Tryd.prog [] 300 (99) 900 18 [.code (bodyOf Tryd.f18)] (envOf [.agg (stT 3 true), .v (.vb fun _ => true)] Tryd.f18.ntmps) ([]) ⟨[.t, .t, .t, .t, .f, .t, .t, .t, .t, .f, .t, .t, .t, .t, .f, .t, .t, .t, .t, .f, .t, .t, .t, .t, .f, .t, .t, .t, .t, .t, .f, .t, .t, .t, .t, .t, .t, .t, .f], 80⟩) (endP ([]) (.tup [(true, moveT (askK 3 true true) (askO 3 true true) (askS 3 true true) false), (false, .vi .i64 fun _ => 0)]) [] 200) =
    (OkL [] ∧ (((askK (3 : Int) true true = upd (upd (upd (upd (upd (upd (fun is => (0 : Int)) [(0 : Nat)] (3 : Int)) [(1 : Nat)] (0 : Int)) [(2 : Nat)] (2 : Int)) [(3 : Nat)] (0 : Int)) [(4 : Nat)] (0 : Int)) [(5 : Nat)] (3 : Int) [(5 : Nat)] ∧ false = false) ∧ askS (3 : Int) true true = upd (upd (upd (upd (upd (upd (fun is => (0 : Int)) [(0 : Nat)] (1 : Int)) [(1 : Nat)] (9 : Int)) [(2 : Nat)] (0 : Int)) [(3 : Nat)] (9 : Int)) [(4 : Nat)] (9 : Int)) [(5 : Nat)] (0 : Int) [(5 : Nat)] ∧ false = false) ∧ (0 : Int) = (0 : Int) ∧ True) ∧ True) := by kernel_rfl

set_option maxHeartbeats 4000000 in
theorem refA5 (z : Nat)  :
    RunsTo Tryd.prog 18 [.code (bodyOf Tryd.f18)] (envOf [.agg (stT 3 true), .v (.vb fun _ => true)] Tryd.f18.ntmps) (Sx.look ([])) 80 ((.tup [(true, moveT (askK 3 true true) (askO 3 true true) (askS 3 true true) false), (false, .vi .i64 fun _ => 0)])) (Sx.look ([])) 200 := by
  refine runs_last baseO (Sx.Ends.of (refA5_p0 z) ⟨okn, ?_⟩) (by kernel_rfl) rfl (gtL (by decide)) (by decide)
  simp (config := {decide := true}) [askK, askO, askS, askE, upd]

theorem refX5_p0 (z : Nat) :
    isEnd (evTill Tryd.prog [] 300 (99) 900 18 [.code (bodyOf Tryd.f18)] (envOf [.agg (stT 3 true), .v (.vb fun _ => false)] Tryd.f18.ntmps) ([]) ⟨[.t, .t, .t, .t, .f, .t, .t, .t, .t, .f, .t, .t, .t, .t, .f, .t, .t, .t, .t, .f, .t, .t, .t, .t, .f, .t, .t, .t, .t, .t, .f, .t, .t, .t, .f, .t], 80⟩) (endP ([]) (.tup [(true, moveT 0 false 0 false), (false, .vi .i64 fun _ => 10)]) [] 200) =
    (OkL [] ∧ ((((0 : Int) = (0 : Int) ∧ false = false) ∧ (0 : Int) = (0 : Int) ∧ false = false) ∧ (10 : Int) = (10 : Int) ∧ True) ∧ True) := by kernel_rfl

set_option maxHeartbeats 4000000 in
theorem refX5 (z : Nat)  :
    RunsTo Tryd.prog 18 [.code (bodyOf Tryd.f18)] (envOf [.agg (stT 3 true), .v (.vb fun _ => false)] Tryd.f18.ntmps) (Sx.look ([])) 80 ((.tup [(true, moveT 0 false 0 false), (false, .vi .i64 fun _ => 10)])) (Sx.look ([])) 200 := by
  refine runs_last baseO (Sx.Ends.of (refX5_p0 z) ⟨okn, ?_⟩) (by kernel_rfl) rfl (gtL (by decide)) (by decide)
  simp (config := {decide := true}) [askK, askO, askS, askE, upd]

theorem refA (k : Int) (o on : Bool) (hr : rtB k o = true) (he : askE k o on = false) : RunsTo Tryd.prog 18 [.code (bodyOf Tryd.f18)] (envOf [.agg (stT k o), .v (.vb fun _ => on)] Tryd.f18.ntmps) (Sx.look ([])) 80 ((.tup [(true, moveT (askK k o on) (askO k o on) (askS k o on) false), (false, .vi .i64 fun _ => 0)])) (Sx.look ([])) 200 := by
  rcases six hr with ⟨rfl, rfl⟩ | ⟨rfl, rfl⟩ | ⟨rfl, rfl⟩ | ⟨rfl, rfl⟩ | ⟨rfl, rfl⟩ | ⟨rfl, rfl⟩ <;> cases on <;> first | exact absurd he (by decide) | exact refA0 0 | exact refA1 0 | exact refA2 0 | exact refA3 0 | exact refA4 0 | exact refA5 0
theorem refX (k : Int) (o on : Bool) (hr : rtB k o = true) (he : askE k o on = true) : RunsTo Tryd.prog 18 [.code (bodyOf Tryd.f18)] (envOf [.agg (stT k o), .v (.vb fun _ => on)] Tryd.f18.ntmps) (Sx.look ([])) 80 ((.tup [(true, moveT 0 false 0 false), (false, .vi .i64 fun _ => 10)])) (Sx.look ([])) 200 := by
  rcases six hr with ⟨rfl, rfl⟩ | ⟨rfl, rfl⟩ | ⟨rfl, rfl⟩ | ⟨rfl, rfl⟩ | ⟨rfl, rfl⟩ | ⟨rfl, rfl⟩ <;> cases on <;> first | exact absurd he (by decide) | exact refX0 0 | exact refX1 0 | exact refX2 0 | exact refX3 0 | exact refX4 0 | exact refX5 0

def refHPC : PC := { args := [.agg (.tc (.vi .i64 0) (.tc (.vb 1) .t0)), .v (.vb 2), .v (.vb 3)], heap := [], gs := [], G := 16, tp := 131, n := 80, n' := 200, cond := fun e => rtB (eI e 0 []) (eB e 1 []), v := fun e => .tup [(true, moveT (hearK (eI e 0 []) (eB e 1 []) (eB e 2 []) (eB e 3 [])) false (hearS (eI e 0 []) (eB e 1 []) (eB e 2 []) (eB e 3 [])) (hearW (eI e 0 []) (eB e 2 []))), (false, .vi .i64 fun _ => 0)], post := fun e => [] }
theorem refH_pc : PC.Runs Tryd.prog 17 Tryd.f17 (bodyOf Tryd.f17) refHPC := ⟨Tryd.func17, by kernel_rfl, (fun g hg => by cases hg), fun e H hc => refH (eI e 0 []) (eB e 1 []) (eB e 2 []) (eB e 3 []) hc⟩
def refAPC : PC := { args := [.agg (.tc (.vi .i64 0) (.tc (.vb 1) .t0)), .v (.vb 2)], heap := [], gs := [], G := 16, tp := 131, n := 80, n' := 200, cond := fun e => rtB (eI e 0 []) (eB e 1 []) && !askE (eI e 0 []) (eB e 1 []) (eB e 2 []), v := fun e => .tup [(true, moveT (askK (eI e 0 []) (eB e 1 []) (eB e 2 [])) (askO (eI e 0 []) (eB e 1 []) (eB e 2 [])) (askS (eI e 0 []) (eB e 1 []) (eB e 2 [])) false), (false, .vi .i64 fun _ => 0)], post := fun e => [] }
theorem refA_pc : PC.Runs Tryd.prog 18 Tryd.f18 (bodyOf Tryd.f18) refAPC := ⟨Tryd.func18, by kernel_rfl, (fun g hg => by cases hg), fun e H hc => by
  simp only [refAPC, Bool.and_eq_true, Bool.not_eq_true'] at hc
  exact refA (eI e 0 []) (eB e 1 []) (eB e 2 []) hc.1 hc.2⟩
def refXPC : PC := { args := [.agg (.tc (.vi .i64 0) (.tc (.vb 1) .t0)), .v (.vb 2)], heap := [], gs := [], G := 16, tp := 131, n := 80, n' := 200, cond := fun e => rtB (eI e 0 []) (eB e 1 []) && askE (eI e 0 []) (eB e 1 []) (eB e 2 []), v := fun e => .tup [(true, moveT 0 false 0 false), (false, .vi .i64 fun _ => 10)], post := fun e => [] }
theorem refX_pc : PC.Runs Tryd.prog 18 Tryd.f18 (bodyOf Tryd.f18) refXPC := ⟨Tryd.func18, by kernel_rfl, (fun g hg => by cases hg), fun e H hc => by
  simp only [refXPC, Bool.and_eq_true] at hc
  exact refX (eI e 0 []) (eB e 1 []) (eB e 2 []) hc.1 hc.2⟩

theorem li0_p0 (K : Ix → Int) (O A : Ix → Bool) (h a s sd : Int) :
    isMore (evTill Tryd.prog [] 200 (behind Tryd.f38 0) 900 38 [.code (bodyOf Tryd.f38)] (envOf [vP 60, vN sd] Tryd.f38.ntmps) ([] ++ tabE 60 K O A h a s) ⟨[], 80⟩) (moreP (headOf Tryd.f38 0) ([((85 : Nat), Rn.nil (1 : Nat))]) Tryd.f38.ntmps (lsE sd 0 (onM K O sd 0).length) (liE 85 (onM K O sd 0) ++ tabE 60 K O A h a s) 400) =
    (OkL [] ∧ headOf Tryd.f38 (0 : Nat) = headOf Tryd.f38 (0 : Nat) ∧ ((0 : Nat) = (0 : Nat) ∧ sd = sd ∧ (onM K O sd (0 : Nat)).length = (0 : Nat) ∧ (↑(0 : Nat) : Int) = (0 : Int)) ∧ (onM K O sd (0 : Nat)).length = (0 : Nat) ∧ ((2 : Nat) = (2 : Nat) ∧ (256 : Nat) = (256 : Nat) ∧ ((∀ (i : Nat), i < (2 : Nat) → ∀ (i_1 : Nat), i_1 < (256 : Nat) → K [i, i_1] = K [i, i_1]) ∧ ∀ (i : Nat), i < (2 : Nat) → ∀ (i_1 : Nat), i_1 < (256 : Nat) → O [i, i_1] = O [i, i_1]) ∧ ∀ (i : Nat), i < (2 : Nat) → ∀ (i_1 : Nat), i_1 < (256 : Nat) → A [i, i_1] = A [i, i_1]) ∧ h = h ∧ a = a ∧ s = s) := by kernel_rfl

set_option maxHeartbeats 4000000 in
theorem li0 (K : Ix → Int) (O A : Ix → Bool) (h a s sd : Int) (v : SV) (L' : HF) (next : RunsTo Tryd.prog 38 (headOf Tryd.f38 0) (envAt Tryd.f38.ntmps (lsE sd 0 (onM K O sd 0).length)) (Sx.look ([] ++ (liE 85 (onM K O sd 0) ++ tabE 60 K O A h a s))) 80 v L' 400) :
    RunsTo Tryd.prog 38 [.code (bodyOf Tryd.f38)] (envOf [vP 60, vN sd] Tryd.f38.ntmps) (Sx.look ([] ++ tabE 60 K O A h a s)) 80 v L' 400 := by
  refine runs_more baseO (More.of (li0_p0 K O A h a s sd) ⟨okn, rfl, ?_⟩) (by kernel_rfl) (by kernel_rfl) rfl (gtL (by decide)) (by decide) next
  clear next
  simp [onM, onR]

theorem liY_p0 (K : Ix → Int) (O A : Ix → Bool) (h a s sd : Int) (n : Nat) :
    isMore (evTill Tryd.prog [] 200 (behind Tryd.f38 0) 900 38 (headOf Tryd.f38 0) (envAt Tryd.f38.ntmps (lsE sd n (onM K O sd n).length)) ([] ++ (liE 85 (onM K O sd n) ++ tabE 60 K O A h a s)) ⟨[.s true, .s false, .t, .s false, .s true, .s true, .s true, .s true, .s true, .t, .s true, .s true], 90⟩) (moreP (headOf Tryd.f38 0) ([((85 : Nat), Rn.to (93 : Nat))]) Tryd.f38.ntmps (lsE sd (n + 1) (onM K O sd (n + 1)).length) (liE 85 (onM K O sd (n + 1)) ++ tabE 60 K O A h a s) 400) =
    (OkL [(decide ((↑n : Int) < (256 : Int)), true), (sd != (0 : Int), false), (!decide ((↑n : Int) < (256 : Int)), false), (decide ((0 : Int) ≤ sd ∧ sd < (↑(2 : Nat) : Int)), true), (decide ((0 : Int) ≤ (↑n : Int) ∧ (↑n : Int) < (↑(256 : Nat) : Int)), true), (sd.toNat.blt (2 : Nat), true), ((↑n : Int).toNat.blt (256 : Nat), true), (K [sd.toNat, (↑n : Int).toNat] == (1 : Int) && (O [sd.toNat, (↑n : Int).toNat] == false && true), true), (((0 : Nat) + (onM K O sd n).length).ble (onM K O sd n).length, true), (decide (((2 : Nat) * ((onM K O sd n).length + (1 : Nat)) + (192 : Nat)) * (8 : Nat) ≤ (281474976710656 : Nat)), true)] ∧ headOf Tryd.f38 (0 : Nat) = headOf Tryd.f38 (0 : Nat) ∧ ((0 : Nat) = (0 : Nat) ∧ sd = sd ∧ ((0 : Nat) = (0 : Nat) ∧ (onM K O sd (n + (1 : Nat))).length = (onM K O sd n).length + (1 : Nat)) ∧ (↑(n + (1 : Nat)) : Int) = IntKind.i64.wrap ((↑n : Int) + (1 : Int))) ∧ ((onM K O sd (n + (1 : Nat))).length = (onM K O sd n).length + (1 : Nat) ∧ ∀ (i : Nat), i < (onM K O sd (n + (1 : Nat))).length → liI (onM K O sd (n + (1 : Nat))) [i] = appF (onM K O sd n).length (0 : Nat) (liI (onM K O sd n)) (fun js => (↑n : Int)) [i]) ∧ ((2 : Nat) = (2 : Nat) ∧ (256 : Nat) = (256 : Nat) ∧ ((∀ (i : Nat), i < (2 : Nat) → ∀ (i_1 : Nat), i_1 < (256 : Nat) → K [i, i_1] = K [i, i_1]) ∧ ∀ (i : Nat), i < (2 : Nat) → ∀ (i_1 : Nat), i_1 < (256 : Nat) → O [i, i_1] = O [i, i_1]) ∧ ∀ (i : Nat), i < (2 : Nat) → ∀ (i_1 : Nat), i_1 < (256 : Nat) → A [i, i_1] = A [i, i_1]) ∧ h = h ∧ a = a ∧ s = s) := by kernel_rfl
theorem liY_p1 (K : Ix → Int) (O A : Ix → Bool) (h a s sd : Int) (n : Nat) :
    isMore (evTill Tryd.prog [] 200 (behind Tryd.f38 0) 900 38 (headOf Tryd.f38 0) (envAt Tryd.f38.ntmps (lsE sd n (onM K O sd n).length)) ([] ++ (liE 85 (onM K O sd n) ++ tabE 60 K O A h a s)) ⟨[.s true, .s true, .s false, .t, .s false, .s true, .s true, .s true, .s true, .s true, .t, .s true, .s true], 90⟩) (moreP (headOf Tryd.f38 0) ([((85 : Nat), Rn.to (93 : Nat))]) Tryd.f38.ntmps (lsE sd (n + 1) (onM K O sd (n + 1)).length) (liE 85 (onM K O sd (n + 1)) ++ tabE 60 K O A h a s) 400) =
    (OkL [(decide ((↑n : Int) < (256 : Int)), true), (sd != (0 : Int), true), (sd != (1 : Int), false), (!decide ((↑n : Int) < (256 : Int)), false), (decide ((0 : Int) ≤ sd ∧ sd < (↑(2 : Nat) : Int)), true), (decide ((0 : Int) ≤ (↑n : Int) ∧ (↑n : Int) < (↑(256 : Nat) : Int)), true), (sd.toNat.blt (2 : Nat), true), ((↑n : Int).toNat.blt (256 : Nat), true), (K [sd.toNat, (↑n : Int).toNat] == (1 : Int) && (O [sd.toNat, (↑n : Int).toNat] == false && true), true), (((0 : Nat) + (onM K O sd n).length).ble (onM K O sd n).length, true), (decide (((2 : Nat) * ((onM K O sd n).length + (1 : Nat)) + (192 : Nat)) * (8 : Nat) ≤ (281474976710656 : Nat)), true)] ∧ headOf Tryd.f38 (0 : Nat) = headOf Tryd.f38 (0 : Nat) ∧ ((0 : Nat) = (0 : Nat) ∧ sd = sd ∧ ((0 : Nat) = (0 : Nat) ∧ (onM K O sd (n + (1 : Nat))).length = (onM K O sd n).length + (1 : Nat)) ∧ (↑(n + (1 : Nat)) : Int) = IntKind.i64.wrap ((↑n : Int) + (1 : Int))) ∧ ((onM K O sd (n + (1 : Nat))).length = (onM K O sd n).length + (1 : Nat) ∧ ∀ (i : Nat), i < (onM K O sd (n + (1 : Nat))).length → liI (onM K O sd (n + (1 : Nat))) [i] = appF (onM K O sd n).length (0 : Nat) (liI (onM K O sd n)) (fun js => (↑n : Int)) [i]) ∧ ((2 : Nat) = (2 : Nat) ∧ (256 : Nat) = (256 : Nat) ∧ ((∀ (i : Nat), i < (2 : Nat) → ∀ (i_1 : Nat), i_1 < (256 : Nat) → K [i, i_1] = K [i, i_1]) ∧ ∀ (i : Nat), i < (2 : Nat) → ∀ (i_1 : Nat), i_1 < (256 : Nat) → O [i, i_1] = O [i, i_1]) ∧ ∀ (i : Nat), i < (2 : Nat) → ∀ (i_1 : Nat), i_1 < (256 : Nat) → A [i, i_1] = A [i, i_1]) ∧ h = h ∧ a = a ∧ s = s) := by kernel_rfl

set_option maxHeartbeats 4000000 in
theorem liY (K : Ix → Int) (O A : Ix → Bool) (h a s sd : Int) (n : Nat) (hn : n < 256)  (hc : (sd = 0 ∨ sd = 1) ∧ K [sd.toNat, n] = 1 ∧ O [sd.toNat, n] = false) (v : SV) (L' : HF) (next : RunsTo Tryd.prog 38 (headOf Tryd.f38 0) (envAt Tryd.f38.ntmps (lsE sd (n + 1) (onM K O sd (n + 1)).length)) (Sx.look ([] ++ (liE 85 (onM K O sd (n + 1)) ++ tabE 60 K O A h a s))) 80 v L' 400) :
    RunsTo Tryd.prog 38 (headOf Tryd.f38 0) (envAt Tryd.f38.ntmps (lsE sd n (onM K O sd n).length)) (Sx.look ([] ++ (liE 85 (onM K O sd n) ++ tabE 60 K O A h a s))) 80 v L' 400 := by
  have hl := onM_len (K := K) (O := O) (sd := sd) n
  have gg0 : (decide ((↑n : Int) < (256 : Int))) = true := by clear next; first | (simp (disch := omega) only [SS, List.nil_append, List.cons_append, Go.Sx.sum] at *; omega) | (simp (disch := omega) only [SS, List.nil_append, List.cons_append, Go.Sx.sum] at *; grind) | (simp_all; done)
  refine bcase (c := (sd != (0 : Int))) (fun gg1 => ?_) (fun gg1 => ?_)
  · have gg2 : (!decide ((↑n : Int) < (256 : Int))) = false := by clear next; first | (simp (disch := omega) only [SS, List.nil_append, List.cons_append, Go.Sx.sum] at *; omega) | (simp (disch := omega) only [SS, List.nil_append, List.cons_append, Go.Sx.sum] at *; grind) | (simp_all; done)
    have gg3 : (decide ((0 : Int) ≤ sd ∧ sd < (↑(2 : Nat) : Int))) = true := by clear next; first | (simp (disch := omega) only [SS, List.nil_append, List.cons_append, Go.Sx.sum] at *; omega) | (simp (disch := omega) only [SS, List.nil_append, List.cons_append, Go.Sx.sum] at *; grind) | (simp_all; done)
    have gg4 : (decide ((0 : Int) ≤ (↑n : Int) ∧ (↑n : Int) < (↑(256 : Nat) : Int))) = true := by clear next; first | (simp (disch := omega) only [SS, List.nil_append, List.cons_append, Go.Sx.sum] at *; omega) | (simp (disch := omega) only [SS, List.nil_append, List.cons_append, Go.Sx.sum] at *; grind) | (simp_all; done)
    have gg5 : (sd.toNat.blt (2 : Nat)) = true := by clear next; first | (simp (disch := omega) only [SS, List.nil_append, List.cons_append, Go.Sx.sum] at *; omega) | (simp (disch := omega) only [SS, List.nil_append, List.cons_append, Go.Sx.sum] at *; grind) | (simp_all; done)
    have gg6 : ((↑n : Int).toNat.blt (256 : Nat)) = true := by clear next; first | (simp (disch := omega) only [SS, List.nil_append, List.cons_append, Go.Sx.sum] at *; omega) | (simp (disch := omega) only [SS, List.nil_append, List.cons_append, Go.Sx.sum] at *; grind) | (simp_all; done)
    have gg7 : (K [sd.toNat, (↑n : Int).toNat] == (1 : Int) && (O [sd.toNat, (↑n : Int).toNat] == false && true)) = true := by clear next; first | (simp (disch := omega) only [SS, List.nil_append, List.cons_append, Go.Sx.sum] at *; omega) | (simp (disch := omega) only [SS, List.nil_append, List.cons_append, Go.Sx.sum] at *; grind) | (simp_all; done)
    have gg8 : (((0 : Nat) + (onM K O sd n).length).ble (onM K O sd n).length) = true := by clear next; first | (simp (disch := omega) only [SS, List.nil_append, List.cons_append, Go.Sx.sum] at *; omega) | (simp (disch := omega) only [SS, List.nil_append, List.cons_append, Go.Sx.sum] at *; grind) | (simp_all; done)
    have gg9 : (decide (((2 : Nat) * ((onM K O sd n).length + (1 : Nat)) + (192 : Nat)) * (8 : Nat) ≤ (281474976710656 : Nat))) = true := by clear next; first | (simp (disch := omega) only [SS, List.nil_append, List.cons_append, Go.Sx.sum] at *; omega) | (simp (disch := omega) only [SS, List.nil_append, List.cons_append, Go.Sx.sum] at *; grind) | (simp_all; done)
    refine runs_more baseO (More.of (liY_p0 K O A h a s sd n) ⟨(okc gg0 (okc gg1 (okc gg2 (okc gg3 (okc gg4 (okc gg5 (okc gg6 (okc gg7 (okc gg8 (okc gg9 okn)))))))))), rfl, ?_⟩) (by kernel_rfl) (by kernel_rfl) rfl (gtL (by decide)) (by decide) next
    clear next
    have hw : IntKind.i64.wrap ((n : Int) + 1) = ((n + 1 : Nat) : Int) := by rw [wr64 (by omega)]; rfl
    have hs1 : ∀ (l : List Int) (x : Int) (p : Nat), p < l.length + 1 → liI (l ++ [x]) [p] = appF l.length 0 (liI l) (fun _ => x) [p] := fun l x p hp => by rw [li_snoc l x p hp]; simp [appF]
    rw [onM_yes hc]
    simp (disch := omega) only [SS, List.nil_append, List.cons_append, Go.Sx.sum, hw, List.length_append, List.length_cons, List.length_nil] at *
    repeat' apply And.intro
    all_goals first | trivial | rfl | omega | exact hw.symm | (intro p hp; first | trivial | rfl | exact hs1 _ _ p hp) | (intros; trivial)
  · have gg2 : (sd != (1 : Int)) = false := by clear next; first | (simp (disch := omega) only [SS, List.nil_append, List.cons_append, Go.Sx.sum] at *; omega) | (simp (disch := omega) only [SS, List.nil_append, List.cons_append, Go.Sx.sum] at *; grind) | (simp_all; done)
    have gg3 : (!decide ((↑n : Int) < (256 : Int))) = false := by clear next; first | (simp (disch := omega) only [SS, List.nil_append, List.cons_append, Go.Sx.sum] at *; omega) | (simp (disch := omega) only [SS, List.nil_append, List.cons_append, Go.Sx.sum] at *; grind) | (simp_all; done)
    have gg4 : (decide ((0 : Int) ≤ sd ∧ sd < (↑(2 : Nat) : Int))) = true := by clear next; first | (simp (disch := omega) only [SS, List.nil_append, List.cons_append, Go.Sx.sum] at *; omega) | (simp (disch := omega) only [SS, List.nil_append, List.cons_append, Go.Sx.sum] at *; grind) | (simp_all; done)
    have gg5 : (decide ((0 : Int) ≤ (↑n : Int) ∧ (↑n : Int) < (↑(256 : Nat) : Int))) = true := by clear next; first | (simp (disch := omega) only [SS, List.nil_append, List.cons_append, Go.Sx.sum] at *; omega) | (simp (disch := omega) only [SS, List.nil_append, List.cons_append, Go.Sx.sum] at *; grind) | (simp_all; done)
    have gg6 : (sd.toNat.blt (2 : Nat)) = true := by clear next; first | (simp (disch := omega) only [SS, List.nil_append, List.cons_append, Go.Sx.sum] at *; omega) | (simp (disch := omega) only [SS, List.nil_append, List.cons_append, Go.Sx.sum] at *; grind) | (simp_all; done)
    have gg7 : ((↑n : Int).toNat.blt (256 : Nat)) = true := by clear next; first | (simp (disch := omega) only [SS, List.nil_append, List.cons_append, Go.Sx.sum] at *; omega) | (simp (disch := omega) only [SS, List.nil_append, List.cons_append, Go.Sx.sum] at *; grind) | (simp_all; done)
    have gg8 : (K [sd.toNat, (↑n : Int).toNat] == (1 : Int) && (O [sd.toNat, (↑n : Int).toNat] == false && true)) = true := by clear next; first | (simp (disch := omega) only [SS, List.nil_append, List.cons_append, Go.Sx.sum] at *; omega) | (simp (disch := omega) only [SS, List.nil_append, List.cons_append, Go.Sx.sum] at *; grind) | (simp_all; done)
    have gg9 : (((0 : Nat) + (onM K O sd n).length).ble (onM K O sd n).length) = true := by clear next; first | (simp (disch := omega) only [SS, List.nil_append, List.cons_append, Go.Sx.sum] at *; omega) | (simp (disch := omega) only [SS, List.nil_append, List.cons_append, Go.Sx.sum] at *; grind) | (simp_all; done)
    have gg10 : (decide (((2 : Nat) * ((onM K O sd n).length + (1 : Nat)) + (192 : Nat)) * (8 : Nat) ≤ (281474976710656 : Nat))) = true := by clear next; first | (simp (disch := omega) only [SS, List.nil_append, List.cons_append, Go.Sx.sum] at *; omega) | (simp (disch := omega) only [SS, List.nil_append, List.cons_append, Go.Sx.sum] at *; grind) | (simp_all; done)
    refine runs_more baseO (More.of (liY_p1 K O A h a s sd n) ⟨(okc gg0 (okc gg1 (okc gg2 (okc gg3 (okc gg4 (okc gg5 (okc gg6 (okc gg7 (okc gg8 (okc gg9 (okc gg10 okn))))))))))), rfl, ?_⟩) (by kernel_rfl) (by kernel_rfl) rfl (gtL (by decide)) (by decide) next
    clear next
    have hw : IntKind.i64.wrap ((n : Int) + 1) = ((n + 1 : Nat) : Int) := by rw [wr64 (by omega)]; rfl
    have hs1 : ∀ (l : List Int) (x : Int) (p : Nat), p < l.length + 1 → liI (l ++ [x]) [p] = appF l.length 0 (liI l) (fun _ => x) [p] := fun l x p hp => by rw [li_snoc l x p hp]; simp [appF]
    rw [onM_yes hc]
    simp (disch := omega) only [SS, List.nil_append, List.cons_append, Go.Sx.sum, hw, List.length_append, List.length_cons, List.length_nil] at *
    repeat' apply And.intro
    all_goals first | trivial | rfl | omega | exact hw.symm | (intro p hp; first | trivial | rfl | exact hs1 _ _ p hp) | (intros; trivial)

theorem liN_p0 (K : Ix → Int) (O A : Ix → Bool) (h a s sd : Int) (n : Nat) :
    isMore (evTill Tryd.prog [] 200 (behind Tryd.f38 0) 900 38 (headOf Tryd.f38 0) (envAt Tryd.f38.ntmps (lsE sd n (onM K O sd n).length)) ([] ++ (liE 85 (onM K O sd n) ++ tabE 60 K O A h a s)) ⟨[.s true, .s false, .t, .s false, .s true, .s true, .s true, .s true, .s false], 90⟩) (moreP (headOf Tryd.f38 0) ([]) Tryd.f38.ntmps (lsE sd (n + 1) (onM K O sd (n + 1)).length) (liE 85 (onM K O sd (n + 1)) ++ tabE 60 K O A h a s) 400) =
    (OkL [(decide ((↑n : Int) < (256 : Int)), true), (sd != (0 : Int), false), (!decide ((↑n : Int) < (256 : Int)), false), (decide ((0 : Int) ≤ sd ∧ sd < (↑(2 : Nat) : Int)), true), (decide ((0 : Int) ≤ (↑n : Int) ∧ (↑n : Int) < (↑(256 : Nat) : Int)), true), (sd.toNat.blt (2 : Nat), true), ((↑n : Int).toNat.blt (256 : Nat), true), (K [sd.toNat, (↑n : Int).toNat] == (1 : Int) && (O [sd.toNat, (↑n : Int).toNat] == false && true), false)] ∧ headOf Tryd.f38 (0 : Nat) = headOf Tryd.f38 (0 : Nat) ∧ ((0 : Nat) = (0 : Nat) ∧ sd = sd ∧ ((0 : Nat) = (0 : Nat) ∧ (onM K O sd (n + (1 : Nat))).length = (onM K O sd n).length) ∧ (↑(n + (1 : Nat)) : Int) = IntKind.i64.wrap ((↑n : Int) + (1 : Int))) ∧ ((onM K O sd (n + (1 : Nat))).length = (onM K O sd n).length ∧ ∀ (i : Nat), i < (onM K O sd (n + (1 : Nat))).length → liI (onM K O sd (n + (1 : Nat))) [i] = liI (onM K O sd n) [i]) ∧ ((2 : Nat) = (2 : Nat) ∧ (256 : Nat) = (256 : Nat) ∧ ((∀ (i : Nat), i < (2 : Nat) → ∀ (i_1 : Nat), i_1 < (256 : Nat) → K [i, i_1] = K [i, i_1]) ∧ ∀ (i : Nat), i < (2 : Nat) → ∀ (i_1 : Nat), i_1 < (256 : Nat) → O [i, i_1] = O [i, i_1]) ∧ ∀ (i : Nat), i < (2 : Nat) → ∀ (i_1 : Nat), i_1 < (256 : Nat) → A [i, i_1] = A [i, i_1]) ∧ h = h ∧ a = a ∧ s = s) := by kernel_rfl
theorem liN_p1 (K : Ix → Int) (O A : Ix → Bool) (h a s sd : Int) (n : Nat) :
    isMore (evTill Tryd.prog [] 200 (behind Tryd.f38 0) 900 38 (headOf Tryd.f38 0) (envAt Tryd.f38.ntmps (lsE sd n (onM K O sd n).length)) ([] ++ (liE 85 (onM K O sd n) ++ tabE 60 K O A h a s)) ⟨[.s true, .s true, .s false, .t, .s false, .s true, .s true, .s true, .s true, .s false], 90⟩) (moreP (headOf Tryd.f38 0) ([]) Tryd.f38.ntmps (lsE sd (n + 1) (onM K O sd (n + 1)).length) (liE 85 (onM K O sd (n + 1)) ++ tabE 60 K O A h a s) 400) =
    (OkL [(decide ((↑n : Int) < (256 : Int)), true), (sd != (0 : Int), true), (sd != (1 : Int), false), (!decide ((↑n : Int) < (256 : Int)), false), (decide ((0 : Int) ≤ sd ∧ sd < (↑(2 : Nat) : Int)), true), (decide ((0 : Int) ≤ (↑n : Int) ∧ (↑n : Int) < (↑(256 : Nat) : Int)), true), (sd.toNat.blt (2 : Nat), true), ((↑n : Int).toNat.blt (256 : Nat), true), (K [sd.toNat, (↑n : Int).toNat] == (1 : Int) && (O [sd.toNat, (↑n : Int).toNat] == false && true), false)] ∧ headOf Tryd.f38 (0 : Nat) = headOf Tryd.f38 (0 : Nat) ∧ ((0 : Nat) = (0 : Nat) ∧ sd = sd ∧ ((0 : Nat) = (0 : Nat) ∧ (onM K O sd (n + (1 : Nat))).length = (onM K O sd n).length) ∧ (↑(n + (1 : Nat)) : Int) = IntKind.i64.wrap ((↑n : Int) + (1 : Int))) ∧ ((onM K O sd (n + (1 : Nat))).length = (onM K O sd n).length ∧ ∀ (i : Nat), i < (onM K O sd (n + (1 : Nat))).length → liI (onM K O sd (n + (1 : Nat))) [i] = liI (onM K O sd n) [i]) ∧ ((2 : Nat) = (2 : Nat) ∧ (256 : Nat) = (256 : Nat) ∧ ((∀ (i : Nat), i < (2 : Nat) → ∀ (i_1 : Nat), i_1 < (256 : Nat) → K [i, i_1] = K [i, i_1]) ∧ ∀ (i : Nat), i < (2 : Nat) → ∀ (i_1 : Nat), i_1 < (256 : Nat) → O [i, i_1] = O [i, i_1]) ∧ ∀ (i : Nat), i < (2 : Nat) → ∀ (i_1 : Nat), i_1 < (256 : Nat) → A [i, i_1] = A [i, i_1]) ∧ h = h ∧ a = a ∧ s = s) := by kernel_rfl
theorem liN_p2 (K : Ix → Int) (O A : Ix → Bool) (h a s sd : Int) (n : Nat) :
    isMore (evTill Tryd.prog [] 200 (behind Tryd.f38 0) 900 38 (headOf Tryd.f38 0) (envAt Tryd.f38.ntmps (lsE sd n (onM K O sd n).length)) ([] ++ (liE 85 (onM K O sd n) ++ tabE 60 K O A h a s)) ⟨[.s true, .s true, .s true, .f], 90⟩) (moreP (headOf Tryd.f38 0) ([]) Tryd.f38.ntmps (lsE sd (n + 1) (onM K O sd (n + 1)).length) (liE 85 (onM K O sd (n + 1)) ++ tabE 60 K O A h a s) 400) =
    (OkL [(decide ((↑n : Int) < (256 : Int)), true), (sd != (0 : Int), true), (sd != (1 : Int), true)] ∧ headOf Tryd.f38 (0 : Nat) = headOf Tryd.f38 (0 : Nat) ∧ ((0 : Nat) = (0 : Nat) ∧ sd = sd ∧ ((0 : Nat) = (0 : Nat) ∧ (onM K O sd (n + (1 : Nat))).length = (onM K O sd n).length) ∧ (↑(n + (1 : Nat)) : Int) = IntKind.i64.wrap ((↑n : Int) + (1 : Int))) ∧ ((onM K O sd (n + (1 : Nat))).length = (onM K O sd n).length ∧ ∀ (i : Nat), i < (onM K O sd (n + (1 : Nat))).length → liI (onM K O sd (n + (1 : Nat))) [i] = liI (onM K O sd n) [i]) ∧ ((2 : Nat) = (2 : Nat) ∧ (256 : Nat) = (256 : Nat) ∧ ((∀ (i : Nat), i < (2 : Nat) → ∀ (i_1 : Nat), i_1 < (256 : Nat) → K [i, i_1] = K [i, i_1]) ∧ ∀ (i : Nat), i < (2 : Nat) → ∀ (i_1 : Nat), i_1 < (256 : Nat) → O [i, i_1] = O [i, i_1]) ∧ ∀ (i : Nat), i < (2 : Nat) → ∀ (i_1 : Nat), i_1 < (256 : Nat) → A [i, i_1] = A [i, i_1]) ∧ h = h ∧ a = a ∧ s = s) := by kernel_rfl

set_option maxHeartbeats 4000000 in
theorem liN (K : Ix → Int) (O A : Ix → Bool) (h a s sd : Int) (n : Nat) (hn : n < 256)  (hc : ¬ ((sd = 0 ∨ sd = 1) ∧ K [sd.toNat, n] = 1 ∧ O [sd.toNat, n] = false)) (v : SV) (L' : HF) (next : RunsTo Tryd.prog 38 (headOf Tryd.f38 0) (envAt Tryd.f38.ntmps (lsE sd (n + 1) (onM K O sd (n + 1)).length)) (Sx.look ([] ++ (liE 85 (onM K O sd (n + 1)) ++ tabE 60 K O A h a s))) 80 v L' 400) :
    RunsTo Tryd.prog 38 (headOf Tryd.f38 0) (envAt Tryd.f38.ntmps (lsE sd n (onM K O sd n).length)) (Sx.look ([] ++ (liE 85 (onM K O sd n) ++ tabE 60 K O A h a s))) 80 v L' 400 := by
  have hl := onM_len (K := K) (O := O) (sd := sd) n
  have gg0 : (decide ((↑n : Int) < (256 : Int))) = true := by clear next; first | (simp (disch := omega) only [SS, List.nil_append, List.cons_append, Go.Sx.sum] at *; omega) | (simp (disch := omega) only [SS, List.nil_append, List.cons_append, Go.Sx.sum] at *; grind) | (simp_all; done)
  refine bcase (c := (sd != (0 : Int))) (fun gg1 => ?_) (fun gg1 => ?_)
  · have gg2 : (!decide ((↑n : Int) < (256 : Int))) = false := by clear next; first | (simp (disch := omega) only [SS, List.nil_append, List.cons_append, Go.Sx.sum] at *; omega) | (simp (disch := omega) only [SS, List.nil_append, List.cons_append, Go.Sx.sum] at *; grind) | (simp_all; done)
    have gg3 : (decide ((0 : Int) ≤ sd ∧ sd < (↑(2 : Nat) : Int))) = true := by clear next; first | (simp (disch := omega) only [SS, List.nil_append, List.cons_append, Go.Sx.sum] at *; omega) | (simp (disch := omega) only [SS, List.nil_append, List.cons_append, Go.Sx.sum] at *; grind) | (simp_all; done)
    have gg4 : (decide ((0 : Int) ≤ (↑n : Int) ∧ (↑n : Int) < (↑(256 : Nat) : Int))) = true := by clear next; first | (simp (disch := omega) only [SS, List.nil_append, List.cons_append, Go.Sx.sum] at *; omega) | (simp (disch := omega) only [SS, List.nil_append, List.cons_append, Go.Sx.sum] at *; grind) | (simp_all; done)
    have gg5 : (sd.toNat.blt (2 : Nat)) = true := by clear next; first | (simp (disch := omega) only [SS, List.nil_append, List.cons_append, Go.Sx.sum] at *; omega) | (simp (disch := omega) only [SS, List.nil_append, List.cons_append, Go.Sx.sum] at *; grind) | (simp_all; done)
    have gg6 : ((↑n : Int).toNat.blt (256 : Nat)) = true := by clear next; first | (simp (disch := omega) only [SS, List.nil_append, List.cons_append, Go.Sx.sum] at *; omega) | (simp (disch := omega) only [SS, List.nil_append, List.cons_append, Go.Sx.sum] at *; grind) | (simp_all; done)
    have gg7 : (K [sd.toNat, (↑n : Int).toNat] == (1 : Int) && (O [sd.toNat, (↑n : Int).toNat] == false && true)) = false := by clear next; first | (simp (disch := omega) only [SS, List.nil_append, List.cons_append, Go.Sx.sum] at *; omega) | (simp (disch := omega) only [SS, List.nil_append, List.cons_append, Go.Sx.sum] at *; grind) | (simp_all; done)
    refine runs_more baseO (More.of (liN_p0 K O A h a s sd n) ⟨(okc gg0 (okc gg1 (okc gg2 (okc gg3 (okc gg4 (okc gg5 (okc gg6 (okc gg7 okn)))))))), rfl, ?_⟩) (by kernel_rfl) (by kernel_rfl) rfl (gtL (by decide)) (by decide) next
    clear next
    have hw : IntKind.i64.wrap ((n : Int) + 1) = ((n + 1 : Nat) : Int) := by rw [wr64 (by omega)]; rfl
    have hs1 : ∀ (l : List Int) (x : Int) (p : Nat), p < l.length + 1 → liI (l ++ [x]) [p] = appF l.length 0 (liI l) (fun _ => x) [p] := fun l x p hp => by rw [li_snoc l x p hp]; simp [appF]
    rw [onM_no hc]
    simp (disch := omega) only [SS, List.nil_append, List.cons_append, Go.Sx.sum, hw, List.length_append, List.length_cons, List.length_nil] at *
    repeat' apply And.intro
    all_goals first | trivial | rfl | omega | exact hw.symm | (intro p hp; first | trivial | rfl | exact hs1 _ _ p hp) | (intros; trivial)
  · refine bcase (c := (sd != (1 : Int))) (fun gg2 => ?_) (fun gg2 => ?_)
    · have gg3 : (!decide ((↑n : Int) < (256 : Int))) = false := by clear next; first | (simp (disch := omega) only [SS, List.nil_append, List.cons_append, Go.Sx.sum] at *; omega) | (simp (disch := omega) only [SS, List.nil_append, List.cons_append, Go.Sx.sum] at *; grind) | (simp_all; done)
      have gg4 : (decide ((0 : Int) ≤ sd ∧ sd < (↑(2 : Nat) : Int))) = true := by clear next; first | (simp (disch := omega) only [SS, List.nil_append, List.cons_append, Go.Sx.sum] at *; omega) | (simp (disch := omega) only [SS, List.nil_append, List.cons_append, Go.Sx.sum] at *; grind) | (simp_all; done)
      have gg5 : (decide ((0 : Int) ≤ (↑n : Int) ∧ (↑n : Int) < (↑(256 : Nat) : Int))) = true := by clear next; first | (simp (disch := omega) only [SS, List.nil_append, List.cons_append, Go.Sx.sum] at *; omega) | (simp (disch := omega) only [SS, List.nil_append, List.cons_append, Go.Sx.sum] at *; grind) | (simp_all; done)
      have gg6 : (sd.toNat.blt (2 : Nat)) = true := by clear next; first | (simp (disch := omega) only [SS, List.nil_append, List.cons_append, Go.Sx.sum] at *; omega) | (simp (disch := omega) only [SS, List.nil_append, List.cons_append, Go.Sx.sum] at *; grind) | (simp_all; done)
      have gg7 : ((↑n : Int).toNat.blt (256 : Nat)) = true := by clear next; first | (simp (disch := omega) only [SS, List.nil_append, List.cons_append, Go.Sx.sum] at *; omega) | (simp (disch := omega) only [SS, List.nil_append, List.cons_append, Go.Sx.sum] at *; grind) | (simp_all; done)
      have gg8 : (K [sd.toNat, (↑n : Int).toNat] == (1 : Int) && (O [sd.toNat, (↑n : Int).toNat] == false && true)) = false := by clear next; first | (simp (disch := omega) only [SS, List.nil_append, List.cons_append, Go.Sx.sum] at *; omega) | (simp (disch := omega) only [SS, List.nil_append, List.cons_append, Go.Sx.sum] at *; grind) | (simp_all; done)
      refine runs_more baseO (More.of (liN_p1 K O A h a s sd n) ⟨(okc gg0 (okc gg1 (okc gg2 (okc gg3 (okc gg4 (okc gg5 (okc gg6 (okc gg7 (okc gg8 okn))))))))), rfl, ?_⟩) (by kernel_rfl) (by kernel_rfl) rfl (gtL (by decide)) (by decide) next
      clear next
      have hw : IntKind.i64.wrap ((n : Int) + 1) = ((n + 1 : Nat) : Int) := by rw [wr64 (by omega)]; rfl
      have hs1 : ∀ (l : List Int) (x : Int) (p : Nat), p < l.length + 1 → liI (l ++ [x]) [p] = appF l.length 0 (liI l) (fun _ => x) [p] := fun l x p hp => by rw [li_snoc l x p hp]; simp [appF]
      rw [onM_no hc]
      simp (disch := omega) only [SS, List.nil_append, List.cons_append, Go.Sx.sum, hw, List.length_append, List.length_cons, List.length_nil] at *
      repeat' apply And.intro
      all_goals first | trivial | rfl | omega | exact hw.symm | (intro p hp; first | trivial | rfl | exact hs1 _ _ p hp) | (intros; trivial)
    · refine runs_more baseO (More.of (liN_p2 K O A h a s sd n) ⟨(okc gg0 (okc gg1 (okc gg2 okn))), rfl, ?_⟩) (by kernel_rfl) (by kernel_rfl) rfl (gtL (by decide)) (by decide) next
      clear next
      have hw : IntKind.i64.wrap ((n : Int) + 1) = ((n + 1 : Nat) : Int) := by rw [wr64 (by omega)]; rfl
      have hs1 : ∀ (l : List Int) (x : Int) (p : Nat), p < l.length + 1 → liI (l ++ [x]) [p] = appF l.length 0 (liI l) (fun _ => x) [p] := fun l x p hp => by rw [li_snoc l x p hp]; simp [appF]
      rw [onM_no hc]
      simp (disch := omega) only [SS, List.nil_append, List.cons_append, Go.Sx.sum, hw, List.length_append, List.length_cons, List.length_nil] at *
      repeat' apply And.intro
      all_goals first | trivial | rfl | omega | exact hw.symm | (intro p hp; first | trivial | rfl | exact hs1 _ _ p hp) | (intros; trivial)

theorem liZ_p0 (K : Ix → Int) (O A : Ix → Bool) (h a s sd : Int) :
    isEnd (evTill Tryd.prog [] 200 (behind Tryd.f38 0) 900 38 (headOf Tryd.f38 0) (envAt Tryd.f38.ntmps (lsE sd 256 (onM K O sd 256).length)) ([] ++ (liE 85 (onM K O sd 256) ++ tabE 60 K O A h a s)) ⟨[.f], 90⟩) (endP ([((101 : Nat), Rn.to (85 : Nat))]) (vL 101 1 (onM K O sd 256).length) (liE 101 (onM K O sd 256) ++ tabE 60 K O A h a s) 400) =
    (OkL [] ∧ ((0 : Nat) = (0 : Nat) ∧ (onM K O sd (256 : Nat)).length = (onM K O sd (256 : Nat)).length) ∧ ((onM K O sd (256 : Nat)).length = (onM K O sd (256 : Nat)).length ∧ ∀ (i : Nat), i < (onM K O sd (256 : Nat)).length → liI (onM K O sd (256 : Nat)) [i] = liI (onM K O sd (256 : Nat)) [i]) ∧ ((2 : Nat) = (2 : Nat) ∧ (256 : Nat) = (256 : Nat) ∧ ((∀ (i : Nat), i < (2 : Nat) → ∀ (i_1 : Nat), i_1 < (256 : Nat) → K [i, i_1] = K [i, i_1]) ∧ ∀ (i : Nat), i < (2 : Nat) → ∀ (i_1 : Nat), i_1 < (256 : Nat) → O [i, i_1] = O [i, i_1]) ∧ ∀ (i : Nat), i < (2 : Nat) → ∀ (i_1 : Nat), i_1 < (256 : Nat) → A [i, i_1] = A [i, i_1]) ∧ h = h ∧ a = a ∧ s = s) := by kernel_rfl

set_option maxHeartbeats 4000000 in
theorem liZ (K : Ix → Int) (O A : Ix → Bool) (h a s sd : Int)  :
    RunsTo Tryd.prog 38 (headOf Tryd.f38 0) (envAt Tryd.f38.ntmps (lsE sd 256 (onM K O sd 256).length)) (Sx.look ([] ++ (liE 85 (onM K O sd 256) ++ tabE 60 K O A h a s))) 80 (vL 101 1 (onM K O sd 256).length) (Sx.look (liE 101 (onM K O sd 256) ++ tabE 60 K O A h a s)) 400 := by
  refine runs_last baseO (Sx.Ends.of (liZ_p0 K O A h a s sd) ⟨okn, ?_⟩) (by kernel_rfl) rfl (gtL (by decide)) (by decide)
  simp

theorem liL (K : Ix → Int) (O A : Ix → Bool) (h a s sd : Int) : ∀ k n, n + k = 256 → RunsTo Tryd.prog 38 (headOf Tryd.f38 0) (envAt Tryd.f38.ntmps (lsE sd n (onM K O sd n).length)) (Sx.look ([] ++ (liE 85 (onM K O sd n) ++ tabE 60 K O A h a s))) 80 (vL 101 1 (onM K O sd 256).length) (Sx.look (liE 101 (onM K O sd 256) ++ tabE 60 K O A h a s)) 400 := by
  intro k
  induction k with
  | zero => intro n hn; obtain rfl : n = 256 := (by omega); exact liZ K O A h a s sd
  | succ k ih =>
    intro n hn
    by_cases hc : (sd = 0 ∨ sd = 1) ∧ K [sd.toNat, n] = 1 ∧ O [sd.toNat, n] = false
    · exact liY K O A h a s sd n (by omega) hc _ _ (ih (n + 1) (by omega))
    · exact liN K O A h a s sd n (by omega) hc _ _ (ih (n + 1) (by omega))
def liPC : PC := { args := [.v (.vp 60), .v (.vi .i64 6)], heap := tabP 60 0, gs := [], G := 16, tp := 131, n := 80, n' := 400, cond := fun _ => true, v := fun e => vL 101 1 (onM (eI e 0) (eB e 1) (eI e 6 []) 256).length, post := fun e => liE 101 (onM (eI e 0) (eB e 1) (eI e 6 []) 256) ++ tabE 60 (eI e 0) (eB e 1) (eB e 2) (eI e 3 []) (eI e 4 []) (eI e 5 []) }
theorem li_pc : PC.Runs Tryd.prog 38 Tryd.f38 (bodyOf Tryd.f38) liPC := ⟨Tryd.func38, by kernel_rfl, (fun g hg => by cases hg), fun e H hc => li0 (eI e 0) (eB e 1) (eB e 2) (eI e 3 []) (eI e 4 []) (eI e 5 []) (eI e 6 []) _ _ (liL (eI e 0) (eB e 1) (eB e 2) (eI e 3 []) (eI e 4 []) (eI e 5 []) (eI e 6 []) 256 0 (by omega))⟩

theorem lr0_p0 (N M R : Nat) (h a s sd : Int) (RS RO RK : Ix → Int) (RB : Ix → Bool) :
    isMore (evTill Tryd.prog sumsS 200 (behind Tryd.f39 0) 900 39 [.code (bodyOf Tryd.f39)] (envOf [vP 60, vN sd] Tryd.f39.ntmps) ([] ++ mdE 60 61 N M 63 R h a s RS RO RK RB) ⟨[], 80⟩) (moreP (headOf Tryd.f39 0) ([((85 : Nat), Rn.to (80 : Nat))]) Tryd.f39.ntmps (lrE sd 0 (onR RS RO RK R sd 0).length) (liE 85 (onR RS RO RK R sd 0) ++ mdE 60 61 N M 63 R h a s RS RO RK RB) 400) =
    (OkL [] ∧ headOf Tryd.f39 (0 : Nat) = headOf Tryd.f39 (0 : Nat) ∧ ((0 : Nat) = (0 : Nat) ∧ sd = sd ∧ ((0 : Nat) = (0 : Nat) ∧ (onR RS RO RK R sd (0 : Nat)).length = (0 : Nat)) ∧ (↑(0 : Nat) : Int) = (0 : Int)) ∧ ((onR RS RO RK R sd (0 : Nat)).length = (0 : Nat) ∧ ∀ (i : Nat), i < (onR RS RO RK R sd (0 : Nat)).length → liI (onR RS RO RK R sd (0 : Nat)) [i] = (0 : Int)) ∧ (((0 : Nat) = (0 : Nat) ∧ N = N) ∧ ((0 : Nat) = (0 : Nat) ∧ M = M) ∧ ((0 : Nat) = (0 : Nat) ∧ R = R) ∧ h = h ∧ a = a ∧ s = s) ∧ R = R ∧ (∀ (i : Nat), i < R → RS [i] = RS [i]) ∧ (∀ (i : Nat), i < R → RO [i] = RO [i]) ∧ (∀ (i : Nat), i < R → RK [i] = RK [i]) ∧ ∀ (i : Nat), i < R → RB [i] = RB [i]) := by kernel_rfl

set_option maxHeartbeats 4000000 in
theorem lr0 (N M R : Nat) (h a s sd : Int) (RS RO RK : Ix → Int) (RB : Ix → Bool) (v : SV) (L' : HF) (next : RunsTo Tryd.prog 39 (headOf Tryd.f39 0) (envAt Tryd.f39.ntmps (lrE sd 0 (onR RS RO RK R sd 0).length)) (Sx.look ([] ++ (liE 85 (onR RS RO RK R sd 0) ++ mdE 60 61 N M 63 R h a s RS RO RK RB))) 80 v L' 400) :
    RunsTo Tryd.prog 39 [.code (bodyOf Tryd.f39)] (envOf [vP 60, vN sd] Tryd.f39.ntmps) (Sx.look ([] ++ mdE 60 61 N M 63 R h a s RS RO RK RB)) 80 v L' 400 := by
  refine runs_more baseS (More.of (lr0_p0 N M R h a s sd RS RO RK RB) ⟨okn, rfl, ?_⟩) (by kernel_rfl) (by kernel_rfl) rfl (gtL (by decide)) (by decide) next
  clear next
  simp [onM, onR]

theorem lrY_p0 (N M R : Nat) (h a s sd : Int) (RS RO RK : Ix → Int) (RB : Ix → Bool) (n : Nat) :
    isMore (evTill Tryd.prog sumsS 200 (behind Tryd.f39 0) 900 39 (headOf Tryd.f39 0) (envAt Tryd.f39.ntmps (lrE sd n (onR RS RO RK R sd n).length)) ([] ++ (liE 85 (onR RS RO RK R sd n) ++ mdE 60 61 N M 63 R h a s RS RO RK RB)) ⟨[.s true, .s true, .s true, .s true, .t, .s true, .s true], 90⟩) (moreP (headOf Tryd.f39 0) ([((85 : Nat), Rn.to (131 : Nat))]) Tryd.f39.ntmps (lrE sd (n + 1) (onR RS RO RK R sd (n + 1)).length) (liE 85 (onR RS RO RK R sd (n + 1)) ++ mdE 60 61 N M 63 R h a s RS RO RK RB) 400) =
    (OkL [(decide ((↑n : Int) < (256 : Int)), true), (R.beq R, true), (decide (R ≤ (100 : Nat)), true), (kOf RK (fnd RS RO sd (↑n : Int) R (0 : Nat)) == (1 : Int), true), (((0 : Nat) + (onR RS RO RK R sd n).length).ble (onR RS RO RK R sd n).length, true), (decide (((2 : Nat) * ((onR RS RO RK R sd n).length + (1 : Nat)) + (192 : Nat)) * (8 : Nat) ≤ (281474976710656 : Nat)), true)] ∧ headOf Tryd.f39 (0 : Nat) = headOf Tryd.f39 (0 : Nat) ∧ ((0 : Nat) = (0 : Nat) ∧ sd = sd ∧ ((0 : Nat) = (0 : Nat) ∧ (onR RS RO RK R sd (n + (1 : Nat))).length = (onR RS RO RK R sd n).length + (1 : Nat)) ∧ (↑(n + (1 : Nat)) : Int) = IntKind.i64.wrap ((↑n : Int) + (1 : Int))) ∧ ((onR RS RO RK R sd (n + (1 : Nat))).length = (onR RS RO RK R sd n).length + (1 : Nat) ∧ ∀ (i : Nat), i < (onR RS RO RK R sd (n + (1 : Nat))).length → liI (onR RS RO RK R sd (n + (1 : Nat))) [i] = appF (onR RS RO RK R sd n).length (0 : Nat) (liI (onR RS RO RK R sd n)) (fun js => (↑n : Int)) [i]) ∧ (((0 : Nat) = (0 : Nat) ∧ N = N) ∧ ((0 : Nat) = (0 : Nat) ∧ M = M) ∧ ((0 : Nat) = (0 : Nat) ∧ R = R) ∧ h = h ∧ a = a ∧ s = s) ∧ R = R ∧ (∀ (i : Nat), i < R → RS [i] = RS [i]) ∧ (∀ (i : Nat), i < R → RO [i] = RO [i]) ∧ (∀ (i : Nat), i < R → RK [i] = RK [i]) ∧ ∀ (i : Nat), i < R → RB [i] = RB [i]) := by kernel_rfl

set_option maxHeartbeats 4000000 in
theorem lrY (N M R : Nat) (h a s sd : Int) (RS RO RK : Ix → Int) (RB : Ix → Bool) (n : Nat) (hn : n < 256) (hR : R ≤ 100) (hc : kOf RK (fnd RS RO sd n R 0) = 1) (v : SV) (L' : HF) (next : RunsTo Tryd.prog 39 (headOf Tryd.f39 0) (envAt Tryd.f39.ntmps (lrE sd (n + 1) (onR RS RO RK R sd (n + 1)).length)) (Sx.look ([] ++ (liE 85 (onR RS RO RK R sd (n + 1)) ++ mdE 60 61 N M 63 R h a s RS RO RK RB))) 80 v L' 400) :
    RunsTo Tryd.prog 39 (headOf Tryd.f39 0) (envAt Tryd.f39.ntmps (lrE sd n (onR RS RO RK R sd n).length)) (Sx.look ([] ++ (liE 85 (onR RS RO RK R sd n) ++ mdE 60 61 N M 63 R h a s RS RO RK RB))) 80 v L' 400 := by
  have hl := onR_len (RS := RS) (RO := RO) (RK := RK) (R := R) (sd := sd) n
  have gg0 : (decide ((↑n : Int) < (256 : Int))) = true := by clear next; first | (simp (disch := omega) only [SS, List.nil_append, List.cons_append, Go.Sx.sum] at *; omega) | (simp (disch := omega) only [SS, List.nil_append, List.cons_append, Go.Sx.sum] at *; grind) | (simp_all; done)
  have gg1 : (R.beq R) = true := by clear next; first | (simp (disch := omega) only [SS, List.nil_append, List.cons_append, Go.Sx.sum] at *; omega) | (simp (disch := omega) only [SS, List.nil_append, List.cons_append, Go.Sx.sum] at *; grind) | (simp_all; done)
  have gg2 : (decide (R ≤ (100 : Nat))) = true := by clear next; first | (simp (disch := omega) only [SS, List.nil_append, List.cons_append, Go.Sx.sum] at *; omega) | (simp (disch := omega) only [SS, List.nil_append, List.cons_append, Go.Sx.sum] at *; grind) | (simp_all; done)
  have gg3 : (kOf RK (fnd RS RO sd (↑n : Int) R (0 : Nat)) == (1 : Int)) = true := by clear next; first | (simp (disch := omega) only [SS, List.nil_append, List.cons_append, Go.Sx.sum] at *; omega) | (simp (disch := omega) only [SS, List.nil_append, List.cons_append, Go.Sx.sum] at *; grind) | (simp_all; done)
  have gg4 : (((0 : Nat) + (onR RS RO RK R sd n).length).ble (onR RS RO RK R sd n).length) = true := by clear next; first | (simp (disch := omega) only [SS, List.nil_append, List.cons_append, Go.Sx.sum] at *; omega) | (simp (disch := omega) only [SS, List.nil_append, List.cons_append, Go.Sx.sum] at *; grind) | (simp_all; done)
  have gg5 : (decide (((2 : Nat) * ((onR RS RO RK R sd n).length + (1 : Nat)) + (192 : Nat)) * (8 : Nat) ≤ (281474976710656 : Nat))) = true := by clear next; first | (simp (disch := omega) only [SS, List.nil_append, List.cons_append, Go.Sx.sum] at *; omega) | (simp (disch := omega) only [SS, List.nil_append, List.cons_append, Go.Sx.sum] at *; grind) | (simp_all; done)
  refine runs_more baseS (More.of (lrY_p0 N M R h a s sd RS RO RK RB n) ⟨(okc gg0 (okc gg1 (okc gg2 (okc gg3 (okc gg4 (okc gg5 okn)))))), rfl, ?_⟩) (by kernel_rfl) (by kernel_rfl) rfl (gtL (by decide)) (by decide) next
  clear next
  have hw : IntKind.i64.wrap ((n : Int) + 1) = ((n + 1 : Nat) : Int) := by rw [wr64 (by omega)]; rfl
  have hs1 : ∀ (l : List Int) (x : Int) (p : Nat), p < l.length + 1 → liI (l ++ [x]) [p] = appF l.length 0 (liI l) (fun _ => x) [p] := fun l x p hp => by rw [li_snoc l x p hp]; simp [appF]
  rw [onR_yes hc]
  simp (disch := omega) only [SS, List.nil_append, List.cons_append, Go.Sx.sum, hw, List.length_append, List.length_cons, List.length_nil] at *
  repeat' apply And.intro
  all_goals first | trivial | rfl | omega | exact hw.symm | (intro p hp; first | trivial | rfl | exact hs1 _ _ p hp) | (intros; trivial)

theorem lrN_p0 (N M R : Nat) (h a s sd : Int) (RS RO RK : Ix → Int) (RB : Ix → Bool) (n : Nat) :
    isMore (evTill Tryd.prog sumsS 200 (behind Tryd.f39 0) 900 39 (headOf Tryd.f39 0) (envAt Tryd.f39.ntmps (lrE sd n (onR RS RO RK R sd n).length)) ([] ++ (liE 85 (onR RS RO RK R sd n) ++ mdE 60 61 N M 63 R h a s RS RO RK RB)) ⟨[.s true, .s true, .s true, .s false], 90⟩) (moreP (headOf Tryd.f39 0) ([]) Tryd.f39.ntmps (lrE sd (n + 1) (onR RS RO RK R sd (n + 1)).length) (liE 85 (onR RS RO RK R sd (n + 1)) ++ mdE 60 61 N M 63 R h a s RS RO RK RB) 400) =
    (OkL [(decide ((↑n : Int) < (256 : Int)), true), (R.beq R, true), (decide (R ≤ (100 : Nat)), true), (kOf RK (fnd RS RO sd (↑n : Int) R (0 : Nat)) == (1 : Int), false)] ∧ headOf Tryd.f39 (0 : Nat) = headOf Tryd.f39 (0 : Nat) ∧ ((0 : Nat) = (0 : Nat) ∧ sd = sd ∧ ((0 : Nat) = (0 : Nat) ∧ (onR RS RO RK R sd (n + (1 : Nat))).length = (onR RS RO RK R sd n).length) ∧ (↑(n + (1 : Nat)) : Int) = IntKind.i64.wrap ((↑n : Int) + (1 : Int))) ∧ ((onR RS RO RK R sd (n + (1 : Nat))).length = (onR RS RO RK R sd n).length ∧ ∀ (i : Nat), i < (onR RS RO RK R sd (n + (1 : Nat))).length → liI (onR RS RO RK R sd (n + (1 : Nat))) [i] = liI (onR RS RO RK R sd n) [i]) ∧ (((0 : Nat) = (0 : Nat) ∧ N = N) ∧ ((0 : Nat) = (0 : Nat) ∧ M = M) ∧ ((0 : Nat) = (0 : Nat) ∧ R = R) ∧ h = h ∧ a = a ∧ s = s) ∧ R = R ∧ (∀ (i : Nat), i < R → RS [i] = RS [i]) ∧ (∀ (i : Nat), i < R → RO [i] = RO [i]) ∧ (∀ (i : Nat), i < R → RK [i] = RK [i]) ∧ ∀ (i : Nat), i < R → RB [i] = RB [i]) := by kernel_rfl

set_option maxHeartbeats 4000000 in
theorem lrN (N M R : Nat) (h a s sd : Int) (RS RO RK : Ix → Int) (RB : Ix → Bool) (n : Nat) (hn : n < 256) (hR : R ≤ 100) (hc : ¬ (kOf RK (fnd RS RO sd n R 0) = 1)) (v : SV) (L' : HF) (next : RunsTo Tryd.prog 39 (headOf Tryd.f39 0) (envAt Tryd.f39.ntmps (lrE sd (n + 1) (onR RS RO RK R sd (n + 1)).length)) (Sx.look ([] ++ (liE 85 (onR RS RO RK R sd (n + 1)) ++ mdE 60 61 N M 63 R h a s RS RO RK RB))) 80 v L' 400) :
    RunsTo Tryd.prog 39 (headOf Tryd.f39 0) (envAt Tryd.f39.ntmps (lrE sd n (onR RS RO RK R sd n).length)) (Sx.look ([] ++ (liE 85 (onR RS RO RK R sd n) ++ mdE 60 61 N M 63 R h a s RS RO RK RB))) 80 v L' 400 := by
  have hl := onR_len (RS := RS) (RO := RO) (RK := RK) (R := R) (sd := sd) n
  have gg0 : (decide ((↑n : Int) < (256 : Int))) = true := by clear next; first | (simp (disch := omega) only [SS, List.nil_append, List.cons_append, Go.Sx.sum] at *; omega) | (simp (disch := omega) only [SS, List.nil_append, List.cons_append, Go.Sx.sum] at *; grind) | (simp_all; done)
  have gg1 : (R.beq R) = true := by clear next; first | (simp (disch := omega) only [SS, List.nil_append, List.cons_append, Go.Sx.sum] at *; omega) | (simp (disch := omega) only [SS, List.nil_append, List.cons_append, Go.Sx.sum] at *; grind) | (simp_all; done)
  have gg2 : (decide (R ≤ (100 : Nat))) = true := by clear next; first | (simp (disch := omega) only [SS, List.nil_append, List.cons_append, Go.Sx.sum] at *; omega) | (simp (disch := omega) only [SS, List.nil_append, List.cons_append, Go.Sx.sum] at *; grind) | (simp_all; done)
  have gg3 : (kOf RK (fnd RS RO sd (↑n : Int) R (0 : Nat)) == (1 : Int)) = false := by clear next; first | (simp (disch := omega) only [SS, List.nil_append, List.cons_append, Go.Sx.sum] at *; omega) | (simp (disch := omega) only [SS, List.nil_append, List.cons_append, Go.Sx.sum] at *; grind) | (simp_all; done)
  refine runs_more baseS (More.of (lrN_p0 N M R h a s sd RS RO RK RB n) ⟨(okc gg0 (okc gg1 (okc gg2 (okc gg3 okn)))), rfl, ?_⟩) (by kernel_rfl) (by kernel_rfl) rfl (gtL (by decide)) (by decide) next
  clear next
  have hw : IntKind.i64.wrap ((n : Int) + 1) = ((n + 1 : Nat) : Int) := by rw [wr64 (by omega)]; rfl
  have hs1 : ∀ (l : List Int) (x : Int) (p : Nat), p < l.length + 1 → liI (l ++ [x]) [p] = appF l.length 0 (liI l) (fun _ => x) [p] := fun l x p hp => by rw [li_snoc l x p hp]; simp [appF]
  rw [onR_no hc]
  simp (disch := omega) only [SS, List.nil_append, List.cons_append, Go.Sx.sum, hw, List.length_append, List.length_cons, List.length_nil] at *
  repeat' apply And.intro
  all_goals first | trivial | rfl | omega | exact hw.symm | (intro p hp; first | trivial | rfl | exact hs1 _ _ p hp) | (intros; trivial)

theorem lrZ_p0 (N M R : Nat) (h a s sd : Int) (RS RO RK : Ix → Int) (RB : Ix → Bool) :
    isEnd (evTill Tryd.prog sumsS 200 (behind Tryd.f39 0) 900 39 (headOf Tryd.f39 0) (envAt Tryd.f39.ntmps (lrE sd 256 (onR RS RO RK R sd 256).length)) ([] ++ (liE 85 (onR RS RO RK R sd 256) ++ mdE 60 61 N M 63 R h a s RS RO RK RB)) ⟨[.f], 90⟩) (endP ([((101 : Nat), Rn.to (85 : Nat))]) (vL 101 1 (onR RS RO RK R sd 256).length) (liE 101 (onR RS RO RK R sd 256) ++ mdE 60 61 N M 63 R h a s RS RO RK RB) 400) =
    (OkL [] ∧ ((0 : Nat) = (0 : Nat) ∧ (onR RS RO RK R sd (256 : Nat)).length = (onR RS RO RK R sd (256 : Nat)).length) ∧ ((onR RS RO RK R sd (256 : Nat)).length = (onR RS RO RK R sd (256 : Nat)).length ∧ ∀ (i : Nat), i < (onR RS RO RK R sd (256 : Nat)).length → liI (onR RS RO RK R sd (256 : Nat)) [i] = liI (onR RS RO RK R sd (256 : Nat)) [i]) ∧ (((0 : Nat) = (0 : Nat) ∧ N = N) ∧ ((0 : Nat) = (0 : Nat) ∧ M = M) ∧ ((0 : Nat) = (0 : Nat) ∧ R = R) ∧ h = h ∧ a = a ∧ s = s) ∧ R = R ∧ (∀ (i : Nat), i < R → RS [i] = RS [i]) ∧ (∀ (i : Nat), i < R → RO [i] = RO [i]) ∧ (∀ (i : Nat), i < R → RK [i] = RK [i]) ∧ ∀ (i : Nat), i < R → RB [i] = RB [i]) := by kernel_rfl

set_option maxHeartbeats 4000000 in
theorem lrZ (N M R : Nat) (h a s sd : Int) (RS RO RK : Ix → Int) (RB : Ix → Bool)  :
    RunsTo Tryd.prog 39 (headOf Tryd.f39 0) (envAt Tryd.f39.ntmps (lrE sd 256 (onR RS RO RK R sd 256).length)) (Sx.look ([] ++ (liE 85 (onR RS RO RK R sd 256) ++ mdE 60 61 N M 63 R h a s RS RO RK RB))) 80 (vL 101 1 (onR RS RO RK R sd 256).length) (Sx.look (liE 101 (onR RS RO RK R sd 256) ++ mdE 60 61 N M 63 R h a s RS RO RK RB)) 400 := by
  refine runs_last baseS (Sx.Ends.of (lrZ_p0 N M R h a s sd RS RO RK RB) ⟨okn, ?_⟩) (by kernel_rfl) rfl (gtL (by decide)) (by decide)
  simp

theorem lrL (N M R : Nat) (h a s sd : Int) (RS RO RK : Ix → Int) (RB : Ix → Bool) (hR : R ≤ 100) : ∀ k n, n + k = 256 → RunsTo Tryd.prog 39 (headOf Tryd.f39 0) (envAt Tryd.f39.ntmps (lrE sd n (onR RS RO RK R sd n).length)) (Sx.look ([] ++ (liE 85 (onR RS RO RK R sd n) ++ mdE 60 61 N M 63 R h a s RS RO RK RB))) 80 (vL 101 1 (onR RS RO RK R sd 256).length) (Sx.look (liE 101 (onR RS RO RK R sd 256) ++ mdE 60 61 N M 63 R h a s RS RO RK RB)) 400 := by
  intro k
  induction k with
  | zero => intro n hn; obtain rfl : n = 256 := (by omega); exact lrZ N M R h a s sd RS RO RK RB
  | succ k ih =>
    intro n hn
    by_cases hc : kOf RK (fnd RS RO sd n R 0) = 1
    · exact lrY N M R h a s sd RS RO RK RB n (by omega) hR hc _ _ (ih (n + 1) (by omega))
    · exact lrN N M R h a s sd RS RO RK RB n (by omega) hR hc _ _ (ih (n + 1) (by omega))
def lrPC : PC := { args := [.v (.vp 60), .v (.vi .i64 10)], heap := mdP 60 61 63 0, gs := [], G := 16, tp := 131, n := 80, n' := 400, cond := fun e => decide (eN e 2 ≤ 100), v := fun e => vL 101 1 (onR (eI e 6) (eI e 7) (eI e 8) (eN e 2) (eI e 10 []) 256).length, post := fun e => liE 101 (onR (eI e 6) (eI e 7) (eI e 8) (eN e 2) (eI e 10 []) 256) ++ mdE 60 61 (eN e 0) (eN e 1) 63 (eN e 2) (eI e 3 []) (eI e 4 []) (eI e 5 []) (eI e 6) (eI e 7) (eI e 8) (eB e 9) }
theorem lr_pc : PC.Runs Tryd.prog 39 Tryd.f39 (bodyOf Tryd.f39) lrPC := ⟨Tryd.func39, by kernel_rfl, (fun g hg => by cases hg), fun e H hc => lr0 (eN e 0) (eN e 1) (eN e 2) (eI e 3 []) (eI e 4 []) (eI e 5 []) (eI e 10 []) (eI e 6) (eI e 7) (eI e 8) (eB e 9) _ _ (lrL (eN e 0) (eN e 1) (eN e 2) (eI e 3 []) (eI e 4 []) (eI e 5 []) (eI e 10 []) (eI e 6) (eI e 7) (eI e 8) (eB e 9) (of_decide_eq_true hc) 256 0 (by omega))⟩

theorem si0_p0 (N M : Nat) (U V : Ix → Int) :
    isMore (evTill Tryd.prog [] 200 (behind Tryd.f37 0) 900 37 [.code (bodyOf Tryd.f37)] (envOf [vL 60 1 N, vL 61 1 M] Tryd.f37.ntmps) (rowI 60 N U ++ rowI 61 M V ++ []) ⟨[.s false], 80⟩) (moreP (headOf Tryd.f37 0) ([]) Tryd.f37.ntmps (siE N M 0) ([]) 120) =
    (OkL [((↑N : Int) != (↑M : Int), false)] ∧ headOf Tryd.f37 (0 : Nat) = headOf Tryd.f37 (0 : Nat) ∧ (((0 : Nat) = (0 : Nat) ∧ M = M) ∧ ((0 : Nat) = (0 : Nat) ∧ N = N) ∧ (↑N : Int) = (↑N : Int) ∧ (↑(0 : Nat) : Int) = (0 : Int)) ∧ True) := by kernel_rfl

set_option maxHeartbeats 4000000 in
theorem si0 (N M : Nat) (U V : Ix → Int) (hn : N = M) (v : SV) (L' : HF) (next : RunsTo Tryd.prog 37 (headOf Tryd.f37 0) (envAt Tryd.f37.ntmps (siE N M 0)) (Sx.look (rowI 60 N U ++ rowI 61 M V ++ [])) 80 v L' 120) :
    RunsTo Tryd.prog 37 [.code (bodyOf Tryd.f37)] (envOf [vL 60 1 N, vL 61 1 M] Tryd.f37.ntmps) (Sx.look (rowI 60 N U ++ rowI 61 M V ++ [])) 80 v L' 120 := by
  have gg0 : ((↑N : Int) != (↑M : Int)) = false := by clear next; first | (simp (disch := omega) only [SS, List.nil_append, List.cons_append, Go.Sx.sum] at *; omega) | (simp (disch := omega) only [SS, List.nil_append, List.cons_append, Go.Sx.sum] at *; done) | (simp (disch := omega) only [SS, List.nil_append, List.cons_append, Go.Sx.sum] at *; grind [mtB])
  refine runs_more baseO (More.of (si0_p0 N M U V) ⟨(okc gg0 okn), rfl, ?_⟩) (by kernel_rfl) (by kernel_rfl) rfl (gtL (by decide)) (by decide) next
  clear next
  simp

theorem siN_p0 (N M : Nat) (U V : Ix → Int) (i : Nat) :
    isMore (evTill Tryd.prog [] 200 (behind Tryd.f37 0) 900 37 (headOf Tryd.f37 0) (envAt Tryd.f37.ntmps (siE N M i)) (rowI 60 N U ++ rowI 61 M V ++ []) ⟨[.s true, .s true, .s true, .s true, .s true, .s true, .s true, .s false], 90⟩) (moreP (headOf Tryd.f37 0) ([]) Tryd.f37.ntmps (siE N M (i + 1)) ([]) 120) =
    (OkL [(decide ((↑i : Int) < (↑N : Int)), true), (decide ((0 : Int) ≤ (↑i : Int) ∧ (↑i : Int) < (↑N : Int)), true), (((0 : Nat) + (↑i : Int).toNat).blt N, true), (((0 : Nat) + (↑i : Int).toNat).blt N, true), (decide ((0 : Int) ≤ (↑i : Int) ∧ (↑i : Int) < (↑M : Int)), true), (((0 : Nat) + (↑i : Int).toNat).blt M, true), (((0 : Nat) + (↑i : Int).toNat).blt M, true), (U [(0 : Nat) + (↑i : Int).toNat] != V [(0 : Nat) + (↑i : Int).toNat], false)] ∧ headOf Tryd.f37 (0 : Nat) = headOf Tryd.f37 (0 : Nat) ∧ (((0 : Nat) = (0 : Nat) ∧ M = M) ∧ ((0 : Nat) = (0 : Nat) ∧ N = N) ∧ (↑N : Int) = (↑N : Int) ∧ (↑(i + (1 : Nat)) : Int) = IntKind.i64.wrap ((↑i : Int) + (1 : Int))) ∧ True) := by kernel_rfl

set_option maxHeartbeats 4000000 in
theorem siN (N M : Nat) (U V : Ix → Int) (i : Nat) (hn : N = M) (hi : i < N) (hN : N ≤ 1000) (hc : U [i] = V [i]) (v : SV) (L' : HF) (next : RunsTo Tryd.prog 37 (headOf Tryd.f37 0) (envAt Tryd.f37.ntmps (siE N M (i + 1))) (Sx.look (rowI 60 N U ++ rowI 61 M V ++ [])) 80 v L' 120) :
    RunsTo Tryd.prog 37 (headOf Tryd.f37 0) (envAt Tryd.f37.ntmps (siE N M i)) (Sx.look (rowI 60 N U ++ rowI 61 M V ++ [])) 80 v L' 120 := by
  have gg0 : (decide ((↑i : Int) < (↑N : Int))) = true := by clear next; first | (simp (disch := omega) only [SS, List.nil_append, List.cons_append, Go.Sx.sum] at *; omega) | (simp (disch := omega) only [SS, List.nil_append, List.cons_append, Go.Sx.sum] at *; done) | (simp (disch := omega) only [SS, List.nil_append, List.cons_append, Go.Sx.sum] at *; grind [mtB])
  have gg1 : (decide ((0 : Int) ≤ (↑i : Int) ∧ (↑i : Int) < (↑N : Int))) = true := by clear next; first | (simp (disch := omega) only [SS, List.nil_append, List.cons_append, Go.Sx.sum] at *; omega) | (simp (disch := omega) only [SS, List.nil_append, List.cons_append, Go.Sx.sum] at *; done) | (simp (disch := omega) only [SS, List.nil_append, List.cons_append, Go.Sx.sum] at *; grind [mtB])
  have gg2 : (((0 : Nat) + (↑i : Int).toNat).blt N) = true := by clear next; first | (simp (disch := omega) only [SS, List.nil_append, List.cons_append, Go.Sx.sum] at *; omega) | (simp (disch := omega) only [SS, List.nil_append, List.cons_append, Go.Sx.sum] at *; done) | (simp (disch := omega) only [SS, List.nil_append, List.cons_append, Go.Sx.sum] at *; grind [mtB])
  have gg3 : (decide ((0 : Int) ≤ (↑i : Int) ∧ (↑i : Int) < (↑M : Int))) = true := by clear next; first | (simp (disch := omega) only [SS, List.nil_append, List.cons_append, Go.Sx.sum] at *; omega) | (simp (disch := omega) only [SS, List.nil_append, List.cons_append, Go.Sx.sum] at *; done) | (simp (disch := omega) only [SS, List.nil_append, List.cons_append, Go.Sx.sum] at *; grind [mtB])
  have gg4 : (((0 : Nat) + (↑i : Int).toNat).blt M) = true := by clear next; first | (simp (disch := omega) only [SS, List.nil_append, List.cons_append, Go.Sx.sum] at *; omega) | (simp (disch := omega) only [SS, List.nil_append, List.cons_append, Go.Sx.sum] at *; done) | (simp (disch := omega) only [SS, List.nil_append, List.cons_append, Go.Sx.sum] at *; grind [mtB])
  have gg5 : (U [(0 : Nat) + (↑i : Int).toNat] != V [(0 : Nat) + (↑i : Int).toNat]) = false := by clear next; first | (simp (disch := omega) only [SS, List.nil_append, List.cons_append, Go.Sx.sum] at *; omega) | (simp (disch := omega) only [SS, List.nil_append, List.cons_append, Go.Sx.sum] at *; done) | (simp (disch := omega) only [SS, List.nil_append, List.cons_append, Go.Sx.sum] at *; grind [mtB])
  refine runs_more baseO (More.of (siN_p0 N M U V i) ⟨(okc gg0 (okc gg1 (okc gg2 (okc gg2 (okc gg3 (okc gg4 (okc gg4 (okc gg5 okn)))))))), rfl, ?_⟩) (by kernel_rfl) (by kernel_rfl) rfl (gtL (by decide)) (by decide) next
  clear next
  have hw : IntKind.i64.wrap ((i : Int) + 1) = ((i + 1 : Nat) : Int) := by rw [wr64 (by omega)]; rfl
  simp [hw]

theorem siZ_p0 (N M : Nat) (U V : Ix → Int) (i : Nat) :
    isEnd (evTill Tryd.prog [] 200 (behind Tryd.f37 0) 900 37 (headOf Tryd.f37 0) (envAt Tryd.f37.ntmps (siE N M i)) (rowI 60 N U ++ rowI 61 M V ++ []) ⟨[.s false], 90⟩) (endP ([]) YES [] 120) =
    (OkL [(decide ((↑i : Int) < (↑N : Int)), false)] ∧ true = true ∧ True) := by kernel_rfl

set_option maxHeartbeats 4000000 in
theorem siZ (N M : Nat) (U V : Ix → Int) (i : Nat) (hi : i = N) :
    RunsTo Tryd.prog 37 (headOf Tryd.f37 0) (envAt Tryd.f37.ntmps (siE N M i)) (Sx.look (rowI 60 N U ++ rowI 61 M V ++ [])) 80 YES (Sx.look ([])) 120 := by
  have gg0 : (decide ((↑i : Int) < (↑N : Int))) = false := by first | (simp (disch := omega) only [SS, List.nil_append, List.cons_append, Go.Sx.sum] at *; omega) | (simp (disch := omega) only [SS, List.nil_append, List.cons_append, Go.Sx.sum] at *; done) | (simp (disch := omega) only [SS, List.nil_append, List.cons_append, Go.Sx.sum] at *; grind [mtB])
  refine runs_last baseO (Sx.Ends.of (siZ_p0 N M U V i) ⟨(okc gg0 okn), ?_⟩) (by kernel_rfl) rfl (gtL (by decide)) (by decide)
  simp

def eqF (U V : Ix → Int) : Nat → Bool
  | 0 => true
  | k + 1 => eqF U V k && decide (U [k] = V [k])
theorem eqF_ok {U V : Ix → Int} : ∀ {k : Nat}, eqF U V k = true → ∀ i, i < k → U [i] = V [i]
  | k + 1, h, i, hi => by
    simp only [eqF, Bool.and_eq_true, decide_eq_true_eq] at h
    rcases Nat.eq_or_lt_of_le (Nat.le_of_lt_succ hi) with rfl | h2
    · exact h.2
    · exact eqF_ok h.1 i h2
theorem eqF_same (U : Ix → Int) : ∀ k, eqF U U k = true
  | 0 => rfl
  | k + 1 => by simp only [eqF, eqF_same U k, decide_true, Bool.and_self]
theorem siL (N M : Nat) (U V : Ix → Int) (hn : N = M) (hN : N ≤ 1000) (hc : ∀ i, i < N → U [i] = V [i]) : ∀ k i, i + k = N → RunsTo Tryd.prog 37 (headOf Tryd.f37 0) (envAt Tryd.f37.ntmps (siE N M i)) (Sx.look (rowI 60 N U ++ rowI 61 M V ++ [])) 80 YES (Sx.look ([])) 120 := by
  intro k
  induction k with
  | zero => intro i hi; exact siZ N M U V i (by omega)
  | succ k ih => intro i hi; exact siN N M U V i hn (by omega) hN (hc i (by omega)) _ _ (ih (i + 1) (by omega))
def siPC : PC := { args := [.v (.vl 60 1 0), .v (.vl 61 1 1)], heap := [⟨60, false, 1, .ta 0 (.vi .i64 2)⟩, ⟨61, false, 1, .ta 1 (.vi .i64 3)⟩], gs := [], G := 16, tp := 131, n := 80, n' := 120, cond := fun e => decide (eN e 0 = eN e 1) && (decide (eN e 0 ≤ 1000) && eqF (eI e 2) (eI e 3) (eN e 0)), v := fun e => YES, post := fun e => [] }
theorem si_pc : PC.Runs Tryd.prog 37 Tryd.f37 (bodyOf Tryd.f37) siPC := ⟨Tryd.func37, by kernel_rfl, (fun g hg => by cases hg), fun e H hc => by
  simp only [siPC, Bool.and_eq_true, decide_eq_true_eq] at hc
  exact si0 (eN e 0) (eN e 1) (eI e 2) (eI e 3) hc.1 _ _ (siL (eN e 0) (eN e 1) (eI e 2) (eI e 3) hc.1 hc.2.1 (eqF_ok hc.2.2) (eN e 0) 0 (by omega))⟩

end Go.Proofs.YtgbgfekfcjphnaaDoor
