/- Modes: words and what they hold. -/
import Derived.Test.YtealbjkhjpmilaaDoorEnC
import Derived.Test.YtealbjkhjpmilaaDoorLjC
import Derived.Test.YtealbjkhjpmilaaDoorSxPc
set_option linter.unusedSimpArgs false
set_option linter.unusedVariables false
set_option maxRecDepth 100000
namespace Go.Proofs.YtealbjkhjpmilaaDoor
open Go.Sx

theorem goodP : PGood Tryd.prog := good_of (by kernel_rfl) (by kernel_rfl)
theorem gtopP : gtop Tryd.prog ≤ 100 := of_decide_eq_true (by kernel_rfl)
theorem gtop50 : gtop Tryd.prog = 50 := of_decide_eq_true (by kernel_rfl)
theorem gtL {n : Nat} (h : 50 ≤ n) : gtop Tryd.prog ≤ n := Nat.le_trans (Nat.le_of_eq gtop50) h
theorem baseO : Base0 Tryd.prog [] := Base0.nil goodP
abbrev YES : SV := .v (.vb fun _ => true)
abbrev vN (a : Int) : SV := .v (.vi .i64 fun _ => a)
abbrev vB (a : Bool) : SV := .v (.vb fun _ => a)
abbrev vS (a : List UInt8) : SV := .v (.vs fun _ => a)
abbrev vP (l : Nat) : SV := .v (.vp l (fun _ => 0) [])
abbrev vL (l w n : Nat) : SV := .v (.vl l (fun _ => 0) w [] (fun _ => n))

def wE : List UInt8 := [101, 100, 105, 116]
def wT : List UInt8 := [116, 114, 97, 112]
def wS : List UInt8 := [115, 111, 102, 116]
def wL : List UInt8 := [108, 105, 116]
def wN : List UInt8 := [110, 111, 110, 101]
def rightC (m : Int) : Bool := decide (m ≥ 0) && iandn .i64 m 27 == 0
def bw (m b : Int) (w : List UInt8) : List (List UInt8) := if iand .i64 m b = 0 then [] else [w]
def wordsC (m : Int) : List UInt8 :=
  if rightC m = true then (match bw m 1 wE ++ (bw m 2 wT ++ (bw m 8 wS ++ bw m 16 wL)) with | [] => wN | a :: r => joinS (a :: r) [43]) else []
def q2 (m b : Int) : Int := (IntKind.i64.wrap (m.tdiv b)).tmod 2
def addR (l w : List UInt8) (c : Bool) : List UInt8 := if c = true then (match l with | [] => w | _ => l ++ [43] ++ w) else l
def wordsR (m : Int) : List UInt8 :=
  match addR (addR (addR (addR [] wE (q2 m 1 == 1)) wT (q2 m 2 == 1)) wS (q2 m 8 == 1)) wL (q2 m 16 == 1) with | [] => wN | l => l
def sumsJ : List (FuncId × Summ) := [(79, joinSumm)]
theorem baseJ : Base0 Tryd.prog sumsJ := (baseO.cons Tryd.func79 (by kernel_rfl) joinSumm_ok)
theorem wordsI_p0 (m : Int) :
    isEnd (evTill Tryd.prog sumsJ 300 (99) 900 37 [.code (bodyOf Tryd.f37)] (envOf [vN m] Tryd.f37.ntmps) ([]) ⟨[.s false, .t], 80⟩) (endP ([]) (vS (wordsC m)) [] 110) =
    (OkL [(decide (m ≥ (0 : Int)), false)] ∧ wordsC m = [] ∧ True) := by kernel_rfl
theorem wordsI_p1 (m : Int) :
    isEnd (evTill Tryd.prog sumsJ 300 (99) 900 37 [.code (bodyOf Tryd.f37)] (envOf [vN m] Tryd.f37.ntmps) ([]) ⟨[.s true, .s false, .t, .t, .t, .t, .s false, .t, .t, .t, .t, .s false, .t, .t, .t, .t, .s false, .t, .t, .t, .t, .s false, .f, .t], 80⟩) (endP ([]) (vS (wordsC m)) [] 110) =
    (OkL [(decide (m ≥ (0 : Int)), true), (!iandn IntKind.i64 m (27 : Int) == (0 : Int), false), (iand IntKind.i64 m (upd (upd (upd (upd (fun is => (0 : Int)) [(0 : Nat)] (1 : Int)) [(1 : Nat)] (2 : Int)) [(2 : Nat)] (8 : Int)) [(3 : Nat)] (16 : Int) [(0 : Nat)]) != (0 : Int), false), (iand IntKind.i64 m (upd (upd (upd (upd (fun is => (0 : Int)) [(0 : Nat)] (1 : Int)) [(1 : Nat)] (2 : Int)) [(2 : Nat)] (8 : Int)) [(3 : Nat)] (16 : Int) [(1 : Nat)]) != (0 : Int), false), (iand IntKind.i64 m (upd (upd (upd (upd (fun is => (0 : Int)) [(0 : Nat)] (1 : Int)) [(1 : Nat)] (2 : Int)) [(2 : Nat)] (8 : Int)) [(3 : Nat)] (16 : Int) [(2 : Nat)]) != (0 : Int), false), (iand IntKind.i64 m (upd (upd (upd (upd (fun is => (0 : Int)) [(0 : Nat)] (1 : Int)) [(1 : Nat)] (2 : Int)) [(2 : Nat)] (8 : Int)) [(3 : Nat)] (16 : Int) [(3 : Nat)]) != (0 : Int), false)] ∧ wordsC m = [(110 : UInt8), (111 : UInt8), (110 : UInt8), (101 : UInt8)] ∧ True) := by kernel_rfl
theorem wordsI_p2 (m : Int) :
    isEnd (evTill Tryd.prog sumsJ 300 (99) 900 37 [.code (bodyOf Tryd.f37)] (envOf [vN m] Tryd.f37.ntmps) ([]) ⟨[.s true, .s false, .t, .t, .t, .t, .s false, .t, .t, .t, .t, .s false, .t, .t, .t, .t, .s false, .t, .t, .t, .t, .s true, .t, .t, .f, .f, .t, .t, .t], 80⟩) (endP ([]) (vS (wordsC m)) [] 110) =
    (OkL [(decide (m ≥ (0 : Int)), true), (!iandn IntKind.i64 m (27 : Int) == (0 : Int), false), (iand IntKind.i64 m (upd (upd (upd (upd (fun is => (0 : Int)) [(0 : Nat)] (1 : Int)) [(1 : Nat)] (2 : Int)) [(2 : Nat)] (8 : Int)) [(3 : Nat)] (16 : Int) [(0 : Nat)]) != (0 : Int), false), (iand IntKind.i64 m (upd (upd (upd (upd (fun is => (0 : Int)) [(0 : Nat)] (1 : Int)) [(1 : Nat)] (2 : Int)) [(2 : Nat)] (8 : Int)) [(3 : Nat)] (16 : Int) [(1 : Nat)]) != (0 : Int), false), (iand IntKind.i64 m (upd (upd (upd (upd (fun is => (0 : Int)) [(0 : Nat)] (1 : Int)) [(1 : Nat)] (2 : Int)) [(2 : Nat)] (8 : Int)) [(3 : Nat)] (16 : Int) [(2 : Nat)]) != (0 : Int), false), (iand IntKind.i64 m (upd (upd (upd (upd (fun is => (0 : Int)) [(0 : Nat)] (1 : Int)) [(1 : Nat)] (2 : Int)) [(2 : Nat)] (8 : Int)) [(3 : Nat)] (16 : Int) [(3 : Nat)]) != (0 : Int), true)] ∧
  wordsC m =
      joinS
        (rowS
          (fun js =>
            upd (upd (upd (upd (fun is => []) [(0 : Nat)] [(101 : UInt8), (100 : UInt8), (105 : UInt8), (116 : UInt8)]) [(1 : Nat)] [(116 : UInt8), (114 : UInt8), (97 : UInt8), (112 : UInt8)]) [(2 : Nat)] [(115 : UInt8), (111 : UInt8), (102 : UInt8), (116 : UInt8)]) [(3 : Nat)] [(108 : UInt8), (105 : UInt8), (116 : UInt8)]
              ((3 : Nat) ::
                List.tail
                  (match js with
                  | j :: r => (sum [] + j) :: r
                  | [] => [])))
          [] (0 : Nat) (1 : Nat))
        [(43 : UInt8)] ∧
    True) := by kernel_rfl
theorem wordsI_p3 (m : Int) :
    isEnd (evTill Tryd.prog sumsJ 300 (99) 900 37 [.code (bodyOf Tryd.f37)] (envOf [vN m] Tryd.f37.ntmps) ([]) ⟨[.s true, .s false, .t, .t, .t, .t, .s false, .t, .t, .t, .t, .s false, .t, .t, .t, .t, .s true, .t, .t, .t, .t, .t, .t, .s false, .f, .f, .t, .t, .t], 80⟩) (endP ([]) (vS (wordsC m)) [] 110) =
    (OkL [(decide (m ≥ (0 : Int)), true), (!iandn IntKind.i64 m (27 : Int) == (0 : Int), false), (iand IntKind.i64 m (upd (upd (upd (upd (fun is => (0 : Int)) [(0 : Nat)] (1 : Int)) [(1 : Nat)] (2 : Int)) [(2 : Nat)] (8 : Int)) [(3 : Nat)] (16 : Int) [(0 : Nat)]) != (0 : Int), false), (iand IntKind.i64 m (upd (upd (upd (upd (fun is => (0 : Int)) [(0 : Nat)] (1 : Int)) [(1 : Nat)] (2 : Int)) [(2 : Nat)] (8 : Int)) [(3 : Nat)] (16 : Int) [(1 : Nat)]) != (0 : Int), false), (iand IntKind.i64 m (upd (upd (upd (upd (fun is => (0 : Int)) [(0 : Nat)] (1 : Int)) [(1 : Nat)] (2 : Int)) [(2 : Nat)] (8 : Int)) [(3 : Nat)] (16 : Int) [(2 : Nat)]) != (0 : Int), true), (iand IntKind.i64 m (upd (upd (upd (upd (fun is => (0 : Int)) [(0 : Nat)] (1 : Int)) [(1 : Nat)] (2 : Int)) [(2 : Nat)] (8 : Int)) [(3 : Nat)] (16 : Int) [(3 : Nat)]) != (0 : Int), false)] ∧
  wordsC m =
      joinS
        (rowS
          (fun js =>
            upd (upd (upd (upd (fun is => []) [(0 : Nat)] [(101 : UInt8), (100 : UInt8), (105 : UInt8), (116 : UInt8)]) [(1 : Nat)] [(116 : UInt8), (114 : UInt8), (97 : UInt8), (112 : UInt8)]) [(2 : Nat)] [(115 : UInt8), (111 : UInt8), (102 : UInt8), (116 : UInt8)]) [(3 : Nat)] [(108 : UInt8), (105 : UInt8), (116 : UInt8)]
              ((2 : Nat) ::
                List.tail
                  (match js with
                  | j :: r => (sum [] + j) :: r
                  | [] => [])))
          [] (0 : Nat) (1 : Nat))
        [(43 : UInt8)] ∧
    True) := by kernel_rfl
theorem wordsI_p4 (m : Int) :
    isEnd (evTill Tryd.prog sumsJ 300 (99) 900 37 [.code (bodyOf Tryd.f37)] (envOf [vN m] Tryd.f37.ntmps) ([]) ⟨[.s true, .s false, .t, .t, .t, .t, .s false, .t, .t, .t, .t, .s false, .t, .t, .t, .t, .s true, .t, .t, .t, .t, .t, .t, .s true, .t, .t, .t, .f, .f, .t, .t, .t], 80⟩) (endP ([]) (vS (wordsC m)) [] 110) =
    (OkL [(decide (m ≥ (0 : Int)), true), (!iandn IntKind.i64 m (27 : Int) == (0 : Int), false), (iand IntKind.i64 m (upd (upd (upd (upd (fun is => (0 : Int)) [(0 : Nat)] (1 : Int)) [(1 : Nat)] (2 : Int)) [(2 : Nat)] (8 : Int)) [(3 : Nat)] (16 : Int) [(0 : Nat)]) != (0 : Int), false), (iand IntKind.i64 m (upd (upd (upd (upd (fun is => (0 : Int)) [(0 : Nat)] (1 : Int)) [(1 : Nat)] (2 : Int)) [(2 : Nat)] (8 : Int)) [(3 : Nat)] (16 : Int) [(1 : Nat)]) != (0 : Int), false), (iand IntKind.i64 m (upd (upd (upd (upd (fun is => (0 : Int)) [(0 : Nat)] (1 : Int)) [(1 : Nat)] (2 : Int)) [(2 : Nat)] (8 : Int)) [(3 : Nat)] (16 : Int) [(2 : Nat)]) != (0 : Int), true), (iand IntKind.i64 m (upd (upd (upd (upd (fun is => (0 : Int)) [(0 : Nat)] (1 : Int)) [(1 : Nat)] (2 : Int)) [(2 : Nat)] (8 : Int)) [(3 : Nat)] (16 : Int) [(3 : Nat)]) != (0 : Int), true)] ∧
  wordsC m =
      joinS
        (rowS
          (appF (1 : Nat) (0 : Nat)
            (fun js =>
              upd (upd (upd (upd (fun is => []) [(0 : Nat)] [(101 : UInt8), (100 : UInt8), (105 : UInt8), (116 : UInt8)]) [(1 : Nat)] [(116 : UInt8), (114 : UInt8), (97 : UInt8), (112 : UInt8)]) [(2 : Nat)] [(115 : UInt8), (111 : UInt8), (102 : UInt8), (116 : UInt8)]) [(3 : Nat)] [(108 : UInt8), (105 : UInt8), (116 : UInt8)]
                ((2 : Nat) ::
                  List.tail
                    (match js with
                    | j :: r => (sum [] + j) :: r
                    | [] => [])))
            fun js =>
            upd (upd (upd (upd (fun is => []) [(0 : Nat)] [(101 : UInt8), (100 : UInt8), (105 : UInt8), (116 : UInt8)]) [(1 : Nat)] [(116 : UInt8), (114 : UInt8), (97 : UInt8), (112 : UInt8)]) [(2 : Nat)] [(115 : UInt8), (111 : UInt8), (102 : UInt8), (116 : UInt8)]) [(3 : Nat)] [(108 : UInt8), (105 : UInt8), (116 : UInt8)]
              ((3 : Nat) ::
                List.tail
                  (match js with
                  | j :: r => (sum [] + j) :: r
                  | [] => [])))
          [] (0 : Nat) (2 : Nat))
        [(43 : UInt8)] ∧
    True) := by kernel_rfl
theorem wordsI_p5 (m : Int) :
    isEnd (evTill Tryd.prog sumsJ 300 (99) 900 37 [.code (bodyOf Tryd.f37)] (envOf [vN m] Tryd.f37.ntmps) ([]) ⟨[.s true, .s false, .t, .t, .t, .t, .s false, .t, .t, .t, .t, .s true, .t, .t, .t, .t, .t, .t, .s false, .t, .t, .t, .t, .s false, .f, .f, .t, .t, .t], 80⟩) (endP ([]) (vS (wordsC m)) [] 110) =
    (OkL [(decide (m ≥ (0 : Int)), true), (!iandn IntKind.i64 m (27 : Int) == (0 : Int), false), (iand IntKind.i64 m (upd (upd (upd (upd (fun is => (0 : Int)) [(0 : Nat)] (1 : Int)) [(1 : Nat)] (2 : Int)) [(2 : Nat)] (8 : Int)) [(3 : Nat)] (16 : Int) [(0 : Nat)]) != (0 : Int), false), (iand IntKind.i64 m (upd (upd (upd (upd (fun is => (0 : Int)) [(0 : Nat)] (1 : Int)) [(1 : Nat)] (2 : Int)) [(2 : Nat)] (8 : Int)) [(3 : Nat)] (16 : Int) [(1 : Nat)]) != (0 : Int), true), (iand IntKind.i64 m (upd (upd (upd (upd (fun is => (0 : Int)) [(0 : Nat)] (1 : Int)) [(1 : Nat)] (2 : Int)) [(2 : Nat)] (8 : Int)) [(3 : Nat)] (16 : Int) [(2 : Nat)]) != (0 : Int), false), (iand IntKind.i64 m (upd (upd (upd (upd (fun is => (0 : Int)) [(0 : Nat)] (1 : Int)) [(1 : Nat)] (2 : Int)) [(2 : Nat)] (8 : Int)) [(3 : Nat)] (16 : Int) [(3 : Nat)]) != (0 : Int), false)] ∧
  wordsC m =
      joinS
        (rowS
          (fun js =>
            upd (upd (upd (upd (fun is => []) [(0 : Nat)] [(101 : UInt8), (100 : UInt8), (105 : UInt8), (116 : UInt8)]) [(1 : Nat)] [(116 : UInt8), (114 : UInt8), (97 : UInt8), (112 : UInt8)]) [(2 : Nat)] [(115 : UInt8), (111 : UInt8), (102 : UInt8), (116 : UInt8)]) [(3 : Nat)] [(108 : UInt8), (105 : UInt8), (116 : UInt8)]
              ((1 : Nat) ::
                List.tail
                  (match js with
                  | j :: r => (sum [] + j) :: r
                  | [] => [])))
          [] (0 : Nat) (1 : Nat))
        [(43 : UInt8)] ∧
    True) := by kernel_rfl
theorem wordsI_p6 (m : Int) :
    isEnd (evTill Tryd.prog sumsJ 300 (99) 900 37 [.code (bodyOf Tryd.f37)] (envOf [vN m] Tryd.f37.ntmps) ([]) ⟨[.s true, .s false, .t, .t, .t, .t, .s false, .t, .t, .t, .t, .s true, .t, .t, .t, .t, .t, .t, .s false, .t, .t, .t, .t, .s true, .t, .t, .t, .f, .f, .t, .t, .t], 80⟩) (endP ([]) (vS (wordsC m)) [] 110) =
    (OkL [(decide (m ≥ (0 : Int)), true), (!iandn IntKind.i64 m (27 : Int) == (0 : Int), false), (iand IntKind.i64 m (upd (upd (upd (upd (fun is => (0 : Int)) [(0 : Nat)] (1 : Int)) [(1 : Nat)] (2 : Int)) [(2 : Nat)] (8 : Int)) [(3 : Nat)] (16 : Int) [(0 : Nat)]) != (0 : Int), false), (iand IntKind.i64 m (upd (upd (upd (upd (fun is => (0 : Int)) [(0 : Nat)] (1 : Int)) [(1 : Nat)] (2 : Int)) [(2 : Nat)] (8 : Int)) [(3 : Nat)] (16 : Int) [(1 : Nat)]) != (0 : Int), true), (iand IntKind.i64 m (upd (upd (upd (upd (fun is => (0 : Int)) [(0 : Nat)] (1 : Int)) [(1 : Nat)] (2 : Int)) [(2 : Nat)] (8 : Int)) [(3 : Nat)] (16 : Int) [(2 : Nat)]) != (0 : Int), false), (iand IntKind.i64 m (upd (upd (upd (upd (fun is => (0 : Int)) [(0 : Nat)] (1 : Int)) [(1 : Nat)] (2 : Int)) [(2 : Nat)] (8 : Int)) [(3 : Nat)] (16 : Int) [(3 : Nat)]) != (0 : Int), true)] ∧
  wordsC m =
      joinS
        (rowS
          (appF (1 : Nat) (0 : Nat)
            (fun js =>
              upd (upd (upd (upd (fun is => []) [(0 : Nat)] [(101 : UInt8), (100 : UInt8), (105 : UInt8), (116 : UInt8)]) [(1 : Nat)] [(116 : UInt8), (114 : UInt8), (97 : UInt8), (112 : UInt8)]) [(2 : Nat)] [(115 : UInt8), (111 : UInt8), (102 : UInt8), (116 : UInt8)]) [(3 : Nat)] [(108 : UInt8), (105 : UInt8), (116 : UInt8)]
                ((1 : Nat) ::
                  List.tail
                    (match js with
                    | j :: r => (sum [] + j) :: r
                    | [] => [])))
            fun js =>
            upd (upd (upd (upd (fun is => []) [(0 : Nat)] [(101 : UInt8), (100 : UInt8), (105 : UInt8), (116 : UInt8)]) [(1 : Nat)] [(116 : UInt8), (114 : UInt8), (97 : UInt8), (112 : UInt8)]) [(2 : Nat)] [(115 : UInt8), (111 : UInt8), (102 : UInt8), (116 : UInt8)]) [(3 : Nat)] [(108 : UInt8), (105 : UInt8), (116 : UInt8)]
              ((3 : Nat) ::
                List.tail
                  (match js with
                  | j :: r => (sum [] + j) :: r
                  | [] => [])))
          [] (0 : Nat) (2 : Nat))
        [(43 : UInt8)] ∧
    True) := by kernel_rfl
theorem wordsI_p7 (m : Int) :
    isEnd (evTill Tryd.prog sumsJ 300 (99) 900 37 [.code (bodyOf Tryd.f37)] (envOf [vN m] Tryd.f37.ntmps) ([]) ⟨[.s true, .s false, .t, .t, .t, .t, .s false, .t, .t, .t, .t, .s true, .t, .t, .t, .t, .t, .t, .s true, .t, .t, .t, .t, .t, .t, .t, .s false, .f, .f, .t, .t, .t], 80⟩) (endP ([]) (vS (wordsC m)) [] 110) =
    (OkL [(decide (m ≥ (0 : Int)), true), (!iandn IntKind.i64 m (27 : Int) == (0 : Int), false), (iand IntKind.i64 m (upd (upd (upd (upd (fun is => (0 : Int)) [(0 : Nat)] (1 : Int)) [(1 : Nat)] (2 : Int)) [(2 : Nat)] (8 : Int)) [(3 : Nat)] (16 : Int) [(0 : Nat)]) != (0 : Int), false), (iand IntKind.i64 m (upd (upd (upd (upd (fun is => (0 : Int)) [(0 : Nat)] (1 : Int)) [(1 : Nat)] (2 : Int)) [(2 : Nat)] (8 : Int)) [(3 : Nat)] (16 : Int) [(1 : Nat)]) != (0 : Int), true), (iand IntKind.i64 m (upd (upd (upd (upd (fun is => (0 : Int)) [(0 : Nat)] (1 : Int)) [(1 : Nat)] (2 : Int)) [(2 : Nat)] (8 : Int)) [(3 : Nat)] (16 : Int) [(2 : Nat)]) != (0 : Int), true), (iand IntKind.i64 m (upd (upd (upd (upd (fun is => (0 : Int)) [(0 : Nat)] (1 : Int)) [(1 : Nat)] (2 : Int)) [(2 : Nat)] (8 : Int)) [(3 : Nat)] (16 : Int) [(3 : Nat)]) != (0 : Int), false)] ∧
  wordsC m =
      joinS
        (rowS
          (appF (1 : Nat) (0 : Nat)
            (fun js =>
              upd (upd (upd (upd (fun is => []) [(0 : Nat)] [(101 : UInt8), (100 : UInt8), (105 : UInt8), (116 : UInt8)]) [(1 : Nat)] [(116 : UInt8), (114 : UInt8), (97 : UInt8), (112 : UInt8)]) [(2 : Nat)] [(115 : UInt8), (111 : UInt8), (102 : UInt8), (116 : UInt8)]) [(3 : Nat)] [(108 : UInt8), (105 : UInt8), (116 : UInt8)]
                ((1 : Nat) ::
                  List.tail
                    (match js with
                    | j :: r => (sum [] + j) :: r
                    | [] => [])))
            fun js =>
            upd (upd (upd (upd (fun is => []) [(0 : Nat)] [(101 : UInt8), (100 : UInt8), (105 : UInt8), (116 : UInt8)]) [(1 : Nat)] [(116 : UInt8), (114 : UInt8), (97 : UInt8), (112 : UInt8)]) [(2 : Nat)] [(115 : UInt8), (111 : UInt8), (102 : UInt8), (116 : UInt8)]) [(3 : Nat)] [(108 : UInt8), (105 : UInt8), (116 : UInt8)]
              ((2 : Nat) ::
                List.tail
                  (match js with
                  | j :: r => (sum [] + j) :: r
                  | [] => [])))
          [] (0 : Nat) (2 : Nat))
        [(43 : UInt8)] ∧
    True) := by kernel_rfl
theorem wordsI_p8 (m : Int) :
    isEnd (evTill Tryd.prog sumsJ 300 (99) 900 37 [.code (bodyOf Tryd.f37)] (envOf [vN m] Tryd.f37.ntmps) ([]) ⟨[.s true, .s false, .t, .t, .t, .t, .s false, .t, .t, .t, .t, .s true, .t, .t, .t, .t, .t, .t, .s true, .t, .t, .t, .t, .t, .t, .t, .s true, .t, .t, .t, .f, .f, .t, .t, .t], 80⟩) (endP ([]) (vS (wordsC m)) [] 110) =
    (OkL [(decide (m ≥ (0 : Int)), true), (!iandn IntKind.i64 m (27 : Int) == (0 : Int), false), (iand IntKind.i64 m (upd (upd (upd (upd (fun is => (0 : Int)) [(0 : Nat)] (1 : Int)) [(1 : Nat)] (2 : Int)) [(2 : Nat)] (8 : Int)) [(3 : Nat)] (16 : Int) [(0 : Nat)]) != (0 : Int), false), (iand IntKind.i64 m (upd (upd (upd (upd (fun is => (0 : Int)) [(0 : Nat)] (1 : Int)) [(1 : Nat)] (2 : Int)) [(2 : Nat)] (8 : Int)) [(3 : Nat)] (16 : Int) [(1 : Nat)]) != (0 : Int), true), (iand IntKind.i64 m (upd (upd (upd (upd (fun is => (0 : Int)) [(0 : Nat)] (1 : Int)) [(1 : Nat)] (2 : Int)) [(2 : Nat)] (8 : Int)) [(3 : Nat)] (16 : Int) [(2 : Nat)]) != (0 : Int), true), (iand IntKind.i64 m (upd (upd (upd (upd (fun is => (0 : Int)) [(0 : Nat)] (1 : Int)) [(1 : Nat)] (2 : Int)) [(2 : Nat)] (8 : Int)) [(3 : Nat)] (16 : Int) [(3 : Nat)]) != (0 : Int), true)] ∧
  wordsC m =
      joinS
        (rowS
          (appF (2 : Nat) (0 : Nat)
            (appF (1 : Nat) (0 : Nat)
              (fun js =>
                upd (upd (upd (upd (fun is => []) [(0 : Nat)] [(101 : UInt8), (100 : UInt8), (105 : UInt8), (116 : UInt8)]) [(1 : Nat)] [(116 : UInt8), (114 : UInt8), (97 : UInt8), (112 : UInt8)]) [(2 : Nat)] [(115 : UInt8), (111 : UInt8), (102 : UInt8), (116 : UInt8)]) [(3 : Nat)] [(108 : UInt8), (105 : UInt8), (116 : UInt8)]
                  ((1 : Nat) ::
                    List.tail
                      (match js with
                      | j :: r => (sum [] + j) :: r
                      | [] => [])))
              fun js =>
              upd (upd (upd (upd (fun is => []) [(0 : Nat)] [(101 : UInt8), (100 : UInt8), (105 : UInt8), (116 : UInt8)]) [(1 : Nat)] [(116 : UInt8), (114 : UInt8), (97 : UInt8), (112 : UInt8)]) [(2 : Nat)] [(115 : UInt8), (111 : UInt8), (102 : UInt8), (116 : UInt8)]) [(3 : Nat)] [(108 : UInt8), (105 : UInt8), (116 : UInt8)]
                ((2 : Nat) ::
                  List.tail
                    (match js with
                    | j :: r => (sum [] + j) :: r
                    | [] => [])))
            fun js =>
            upd (upd (upd (upd (fun is => []) [(0 : Nat)] [(101 : UInt8), (100 : UInt8), (105 : UInt8), (116 : UInt8)]) [(1 : Nat)] [(116 : UInt8), (114 : UInt8), (97 : UInt8), (112 : UInt8)]) [(2 : Nat)] [(115 : UInt8), (111 : UInt8), (102 : UInt8), (116 : UInt8)]) [(3 : Nat)] [(108 : UInt8), (105 : UInt8), (116 : UInt8)]
              ((3 : Nat) ::
                List.tail
                  (match js with
                  | j :: r => (sum [] + j) :: r
                  | [] => [])))
          [] (0 : Nat) (3 : Nat))
        [(43 : UInt8)] ∧
    True) := by kernel_rfl
theorem wordsI_p9 (m : Int) :
    isEnd (evTill Tryd.prog sumsJ 300 (99) 900 37 [.code (bodyOf Tryd.f37)] (envOf [vN m] Tryd.f37.ntmps) ([]) ⟨[.s true, .s false, .t, .t, .t, .t, .s true, .t, .t, .t, .t, .t, .t, .s false, .t, .t, .t, .t, .s false, .t, .t, .t, .t, .s false, .f, .f, .t, .t, .t], 80⟩) (endP ([]) (vS (wordsC m)) [] 110) =
    (OkL [(decide (m ≥ (0 : Int)), true), (!iandn IntKind.i64 m (27 : Int) == (0 : Int), false), (iand IntKind.i64 m (upd (upd (upd (upd (fun is => (0 : Int)) [(0 : Nat)] (1 : Int)) [(1 : Nat)] (2 : Int)) [(2 : Nat)] (8 : Int)) [(3 : Nat)] (16 : Int) [(0 : Nat)]) != (0 : Int), true), (iand IntKind.i64 m (upd (upd (upd (upd (fun is => (0 : Int)) [(0 : Nat)] (1 : Int)) [(1 : Nat)] (2 : Int)) [(2 : Nat)] (8 : Int)) [(3 : Nat)] (16 : Int) [(1 : Nat)]) != (0 : Int), false), (iand IntKind.i64 m (upd (upd (upd (upd (fun is => (0 : Int)) [(0 : Nat)] (1 : Int)) [(1 : Nat)] (2 : Int)) [(2 : Nat)] (8 : Int)) [(3 : Nat)] (16 : Int) [(2 : Nat)]) != (0 : Int), false), (iand IntKind.i64 m (upd (upd (upd (upd (fun is => (0 : Int)) [(0 : Nat)] (1 : Int)) [(1 : Nat)] (2 : Int)) [(2 : Nat)] (8 : Int)) [(3 : Nat)] (16 : Int) [(3 : Nat)]) != (0 : Int), false)] ∧
  wordsC m =
      joinS
        (rowS
          (fun js =>
            upd (upd (upd (upd (fun is => []) [(0 : Nat)] [(101 : UInt8), (100 : UInt8), (105 : UInt8), (116 : UInt8)]) [(1 : Nat)] [(116 : UInt8), (114 : UInt8), (97 : UInt8), (112 : UInt8)]) [(2 : Nat)] [(115 : UInt8), (111 : UInt8), (102 : UInt8), (116 : UInt8)]) [(3 : Nat)] [(108 : UInt8), (105 : UInt8), (116 : UInt8)]
              ((0 : Nat) ::
                List.tail
                  (match js with
                  | j :: r => (sum [] + j) :: r
                  | [] => [])))
          [] (0 : Nat) (1 : Nat))
        [(43 : UInt8)] ∧
    True) := by kernel_rfl
theorem wordsI_p10 (m : Int) :
    isEnd (evTill Tryd.prog sumsJ 300 (99) 900 37 [.code (bodyOf Tryd.f37)] (envOf [vN m] Tryd.f37.ntmps) ([]) ⟨[.s true, .s false, .t, .t, .t, .t, .s true, .t, .t, .t, .t, .t, .t, .s false, .t, .t, .t, .t, .s false, .t, .t, .t, .t, .s true, .t, .t, .t, .f, .f, .t, .t, .t], 80⟩) (endP ([]) (vS (wordsC m)) [] 110) =
    (OkL [(decide (m ≥ (0 : Int)), true), (!iandn IntKind.i64 m (27 : Int) == (0 : Int), false), (iand IntKind.i64 m (upd (upd (upd (upd (fun is => (0 : Int)) [(0 : Nat)] (1 : Int)) [(1 : Nat)] (2 : Int)) [(2 : Nat)] (8 : Int)) [(3 : Nat)] (16 : Int) [(0 : Nat)]) != (0 : Int), true), (iand IntKind.i64 m (upd (upd (upd (upd (fun is => (0 : Int)) [(0 : Nat)] (1 : Int)) [(1 : Nat)] (2 : Int)) [(2 : Nat)] (8 : Int)) [(3 : Nat)] (16 : Int) [(1 : Nat)]) != (0 : Int), false), (iand IntKind.i64 m (upd (upd (upd (upd (fun is => (0 : Int)) [(0 : Nat)] (1 : Int)) [(1 : Nat)] (2 : Int)) [(2 : Nat)] (8 : Int)) [(3 : Nat)] (16 : Int) [(2 : Nat)]) != (0 : Int), false), (iand IntKind.i64 m (upd (upd (upd (upd (fun is => (0 : Int)) [(0 : Nat)] (1 : Int)) [(1 : Nat)] (2 : Int)) [(2 : Nat)] (8 : Int)) [(3 : Nat)] (16 : Int) [(3 : Nat)]) != (0 : Int), true)] ∧
  wordsC m =
      joinS
        (rowS
          (appF (1 : Nat) (0 : Nat)
            (fun js =>
              upd (upd (upd (upd (fun is => []) [(0 : Nat)] [(101 : UInt8), (100 : UInt8), (105 : UInt8), (116 : UInt8)]) [(1 : Nat)] [(116 : UInt8), (114 : UInt8), (97 : UInt8), (112 : UInt8)]) [(2 : Nat)] [(115 : UInt8), (111 : UInt8), (102 : UInt8), (116 : UInt8)]) [(3 : Nat)] [(108 : UInt8), (105 : UInt8), (116 : UInt8)]
                ((0 : Nat) ::
                  List.tail
                    (match js with
                    | j :: r => (sum [] + j) :: r
                    | [] => [])))
            fun js =>
            upd (upd (upd (upd (fun is => []) [(0 : Nat)] [(101 : UInt8), (100 : UInt8), (105 : UInt8), (116 : UInt8)]) [(1 : Nat)] [(116 : UInt8), (114 : UInt8), (97 : UInt8), (112 : UInt8)]) [(2 : Nat)] [(115 : UInt8), (111 : UInt8), (102 : UInt8), (116 : UInt8)]) [(3 : Nat)] [(108 : UInt8), (105 : UInt8), (116 : UInt8)]
              ((3 : Nat) ::
                List.tail
                  (match js with
                  | j :: r => (sum [] + j) :: r
                  | [] => [])))
          [] (0 : Nat) (2 : Nat))
        [(43 : UInt8)] ∧
    True) := by kernel_rfl
theorem wordsI_p11 (m : Int) :
    isEnd (evTill Tryd.prog sumsJ 300 (99) 900 37 [.code (bodyOf Tryd.f37)] (envOf [vN m] Tryd.f37.ntmps) ([]) ⟨[.s true, .s false, .t, .t, .t, .t, .s true, .t, .t, .t, .t, .t, .t, .s false, .t, .t, .t, .t, .s true, .t, .t, .t, .t, .t, .t, .t, .s false, .f, .f, .t, .t, .t], 80⟩) (endP ([]) (vS (wordsC m)) [] 110) =
    (OkL [(decide (m ≥ (0 : Int)), true), (!iandn IntKind.i64 m (27 : Int) == (0 : Int), false), (iand IntKind.i64 m (upd (upd (upd (upd (fun is => (0 : Int)) [(0 : Nat)] (1 : Int)) [(1 : Nat)] (2 : Int)) [(2 : Nat)] (8 : Int)) [(3 : Nat)] (16 : Int) [(0 : Nat)]) != (0 : Int), true), (iand IntKind.i64 m (upd (upd (upd (upd (fun is => (0 : Int)) [(0 : Nat)] (1 : Int)) [(1 : Nat)] (2 : Int)) [(2 : Nat)] (8 : Int)) [(3 : Nat)] (16 : Int) [(1 : Nat)]) != (0 : Int), false), (iand IntKind.i64 m (upd (upd (upd (upd (fun is => (0 : Int)) [(0 : Nat)] (1 : Int)) [(1 : Nat)] (2 : Int)) [(2 : Nat)] (8 : Int)) [(3 : Nat)] (16 : Int) [(2 : Nat)]) != (0 : Int), true), (iand IntKind.i64 m (upd (upd (upd (upd (fun is => (0 : Int)) [(0 : Nat)] (1 : Int)) [(1 : Nat)] (2 : Int)) [(2 : Nat)] (8 : Int)) [(3 : Nat)] (16 : Int) [(3 : Nat)]) != (0 : Int), false)] ∧
  wordsC m =
      joinS
        (rowS
          (appF (1 : Nat) (0 : Nat)
            (fun js =>
              upd (upd (upd (upd (fun is => []) [(0 : Nat)] [(101 : UInt8), (100 : UInt8), (105 : UInt8), (116 : UInt8)]) [(1 : Nat)] [(116 : UInt8), (114 : UInt8), (97 : UInt8), (112 : UInt8)]) [(2 : Nat)] [(115 : UInt8), (111 : UInt8), (102 : UInt8), (116 : UInt8)]) [(3 : Nat)] [(108 : UInt8), (105 : UInt8), (116 : UInt8)]
                ((0 : Nat) ::
                  List.tail
                    (match js with
                    | j :: r => (sum [] + j) :: r
                    | [] => [])))
            fun js =>
            upd (upd (upd (upd (fun is => []) [(0 : Nat)] [(101 : UInt8), (100 : UInt8), (105 : UInt8), (116 : UInt8)]) [(1 : Nat)] [(116 : UInt8), (114 : UInt8), (97 : UInt8), (112 : UInt8)]) [(2 : Nat)] [(115 : UInt8), (111 : UInt8), (102 : UInt8), (116 : UInt8)]) [(3 : Nat)] [(108 : UInt8), (105 : UInt8), (116 : UInt8)]
              ((2 : Nat) ::
                List.tail
                  (match js with
                  | j :: r => (sum [] + j) :: r
                  | [] => [])))
          [] (0 : Nat) (2 : Nat))
        [(43 : UInt8)] ∧
    True) := by kernel_rfl
theorem wordsI_p12 (m : Int) :
    isEnd (evTill Tryd.prog sumsJ 300 (99) 900 37 [.code (bodyOf Tryd.f37)] (envOf [vN m] Tryd.f37.ntmps) ([]) ⟨[.s true, .s false, .t, .t, .t, .t, .s true, .t, .t, .t, .t, .t, .t, .s false, .t, .t, .t, .t, .s true, .t, .t, .t, .t, .t, .t, .t, .s true, .t, .t, .t, .f, .f, .t, .t, .t], 80⟩) (endP ([]) (vS (wordsC m)) [] 110) =
    (OkL [(decide (m ≥ (0 : Int)), true), (!iandn IntKind.i64 m (27 : Int) == (0 : Int), false), (iand IntKind.i64 m (upd (upd (upd (upd (fun is => (0 : Int)) [(0 : Nat)] (1 : Int)) [(1 : Nat)] (2 : Int)) [(2 : Nat)] (8 : Int)) [(3 : Nat)] (16 : Int) [(0 : Nat)]) != (0 : Int), true), (iand IntKind.i64 m (upd (upd (upd (upd (fun is => (0 : Int)) [(0 : Nat)] (1 : Int)) [(1 : Nat)] (2 : Int)) [(2 : Nat)] (8 : Int)) [(3 : Nat)] (16 : Int) [(1 : Nat)]) != (0 : Int), false), (iand IntKind.i64 m (upd (upd (upd (upd (fun is => (0 : Int)) [(0 : Nat)] (1 : Int)) [(1 : Nat)] (2 : Int)) [(2 : Nat)] (8 : Int)) [(3 : Nat)] (16 : Int) [(2 : Nat)]) != (0 : Int), true), (iand IntKind.i64 m (upd (upd (upd (upd (fun is => (0 : Int)) [(0 : Nat)] (1 : Int)) [(1 : Nat)] (2 : Int)) [(2 : Nat)] (8 : Int)) [(3 : Nat)] (16 : Int) [(3 : Nat)]) != (0 : Int), true)] ∧
  wordsC m =
      joinS
        (rowS
          (appF (2 : Nat) (0 : Nat)
            (appF (1 : Nat) (0 : Nat)
              (fun js =>
                upd (upd (upd (upd (fun is => []) [(0 : Nat)] [(101 : UInt8), (100 : UInt8), (105 : UInt8), (116 : UInt8)]) [(1 : Nat)] [(116 : UInt8), (114 : UInt8), (97 : UInt8), (112 : UInt8)]) [(2 : Nat)] [(115 : UInt8), (111 : UInt8), (102 : UInt8), (116 : UInt8)]) [(3 : Nat)] [(108 : UInt8), (105 : UInt8), (116 : UInt8)]
                  ((0 : Nat) ::
                    List.tail
                      (match js with
                      | j :: r => (sum [] + j) :: r
                      | [] => [])))
              fun js =>
              upd (upd (upd (upd (fun is => []) [(0 : Nat)] [(101 : UInt8), (100 : UInt8), (105 : UInt8), (116 : UInt8)]) [(1 : Nat)] [(116 : UInt8), (114 : UInt8), (97 : UInt8), (112 : UInt8)]) [(2 : Nat)] [(115 : UInt8), (111 : UInt8), (102 : UInt8), (116 : UInt8)]) [(3 : Nat)] [(108 : UInt8), (105 : UInt8), (116 : UInt8)]
                ((2 : Nat) ::
                  List.tail
                    (match js with
                    | j :: r => (sum [] + j) :: r
                    | [] => [])))
            fun js =>
            upd (upd (upd (upd (fun is => []) [(0 : Nat)] [(101 : UInt8), (100 : UInt8), (105 : UInt8), (116 : UInt8)]) [(1 : Nat)] [(116 : UInt8), (114 : UInt8), (97 : UInt8), (112 : UInt8)]) [(2 : Nat)] [(115 : UInt8), (111 : UInt8), (102 : UInt8), (116 : UInt8)]) [(3 : Nat)] [(108 : UInt8), (105 : UInt8), (116 : UInt8)]
              ((3 : Nat) ::
                List.tail
                  (match js with
                  | j :: r => (sum [] + j) :: r
                  | [] => [])))
          [] (0 : Nat) (3 : Nat))
        [(43 : UInt8)] ∧
    True) := by kernel_rfl
theorem wordsI_p13 (m : Int) :
    isEnd (evTill Tryd.prog sumsJ 300 (99) 900 37 [.code (bodyOf Tryd.f37)] (envOf [vN m] Tryd.f37.ntmps) ([]) ⟨[.s true, .s false, .t, .t, .t, .t, .s true, .t, .t, .t, .t, .t, .t, .s true, .t, .t, .t, .t, .t, .t, .t, .s false, .t, .t, .t, .t, .s false, .f, .f, .t, .t, .t], 80⟩) (endP ([]) (vS (wordsC m)) [] 110) =
    (OkL [(decide (m ≥ (0 : Int)), true), (!iandn IntKind.i64 m (27 : Int) == (0 : Int), false), (iand IntKind.i64 m (upd (upd (upd (upd (fun is => (0 : Int)) [(0 : Nat)] (1 : Int)) [(1 : Nat)] (2 : Int)) [(2 : Nat)] (8 : Int)) [(3 : Nat)] (16 : Int) [(0 : Nat)]) != (0 : Int), true), (iand IntKind.i64 m (upd (upd (upd (upd (fun is => (0 : Int)) [(0 : Nat)] (1 : Int)) [(1 : Nat)] (2 : Int)) [(2 : Nat)] (8 : Int)) [(3 : Nat)] (16 : Int) [(1 : Nat)]) != (0 : Int), true), (iand IntKind.i64 m (upd (upd (upd (upd (fun is => (0 : Int)) [(0 : Nat)] (1 : Int)) [(1 : Nat)] (2 : Int)) [(2 : Nat)] (8 : Int)) [(3 : Nat)] (16 : Int) [(2 : Nat)]) != (0 : Int), false), (iand IntKind.i64 m (upd (upd (upd (upd (fun is => (0 : Int)) [(0 : Nat)] (1 : Int)) [(1 : Nat)] (2 : Int)) [(2 : Nat)] (8 : Int)) [(3 : Nat)] (16 : Int) [(3 : Nat)]) != (0 : Int), false)] ∧
  wordsC m =
      joinS
        (rowS
          (appF (1 : Nat) (0 : Nat)
            (fun js =>
              upd (upd (upd (upd (fun is => []) [(0 : Nat)] [(101 : UInt8), (100 : UInt8), (105 : UInt8), (116 : UInt8)]) [(1 : Nat)] [(116 : UInt8), (114 : UInt8), (97 : UInt8), (112 : UInt8)]) [(2 : Nat)] [(115 : UInt8), (111 : UInt8), (102 : UInt8), (116 : UInt8)]) [(3 : Nat)] [(108 : UInt8), (105 : UInt8), (116 : UInt8)]
                ((0 : Nat) ::
                  List.tail
                    (match js with
                    | j :: r => (sum [] + j) :: r
                    | [] => [])))
            fun js =>
            upd (upd (upd (upd (fun is => []) [(0 : Nat)] [(101 : UInt8), (100 : UInt8), (105 : UInt8), (116 : UInt8)]) [(1 : Nat)] [(116 : UInt8), (114 : UInt8), (97 : UInt8), (112 : UInt8)]) [(2 : Nat)] [(115 : UInt8), (111 : UInt8), (102 : UInt8), (116 : UInt8)]) [(3 : Nat)] [(108 : UInt8), (105 : UInt8), (116 : UInt8)]
              ((1 : Nat) ::
                List.tail
                  (match js with
                  | j :: r => (sum [] + j) :: r
                  | [] => [])))
          [] (0 : Nat) (2 : Nat))
        [(43 : UInt8)] ∧
    True) := by kernel_rfl
theorem wordsI_p14 (m : Int) :
    isEnd (evTill Tryd.prog sumsJ 300 (99) 900 37 [.code (bodyOf Tryd.f37)] (envOf [vN m] Tryd.f37.ntmps) ([]) ⟨[.s true, .s false, .t, .t, .t, .t, .s true, .t, .t, .t, .t, .t, .t, .s true, .t, .t, .t, .t, .t, .t, .t, .s false, .t, .t, .t, .t, .s true, .t, .t, .t, .f, .f, .t, .t, .t], 80⟩) (endP ([]) (vS (wordsC m)) [] 110) =
    (OkL [(decide (m ≥ (0 : Int)), true), (!iandn IntKind.i64 m (27 : Int) == (0 : Int), false), (iand IntKind.i64 m (upd (upd (upd (upd (fun is => (0 : Int)) [(0 : Nat)] (1 : Int)) [(1 : Nat)] (2 : Int)) [(2 : Nat)] (8 : Int)) [(3 : Nat)] (16 : Int) [(0 : Nat)]) != (0 : Int), true), (iand IntKind.i64 m (upd (upd (upd (upd (fun is => (0 : Int)) [(0 : Nat)] (1 : Int)) [(1 : Nat)] (2 : Int)) [(2 : Nat)] (8 : Int)) [(3 : Nat)] (16 : Int) [(1 : Nat)]) != (0 : Int), true), (iand IntKind.i64 m (upd (upd (upd (upd (fun is => (0 : Int)) [(0 : Nat)] (1 : Int)) [(1 : Nat)] (2 : Int)) [(2 : Nat)] (8 : Int)) [(3 : Nat)] (16 : Int) [(2 : Nat)]) != (0 : Int), false), (iand IntKind.i64 m (upd (upd (upd (upd (fun is => (0 : Int)) [(0 : Nat)] (1 : Int)) [(1 : Nat)] (2 : Int)) [(2 : Nat)] (8 : Int)) [(3 : Nat)] (16 : Int) [(3 : Nat)]) != (0 : Int), true)] ∧
  wordsC m =
      joinS
        (rowS
          (appF (2 : Nat) (0 : Nat)
            (appF (1 : Nat) (0 : Nat)
              (fun js =>
                upd (upd (upd (upd (fun is => []) [(0 : Nat)] [(101 : UInt8), (100 : UInt8), (105 : UInt8), (116 : UInt8)]) [(1 : Nat)] [(116 : UInt8), (114 : UInt8), (97 : UInt8), (112 : UInt8)]) [(2 : Nat)] [(115 : UInt8), (111 : UInt8), (102 : UInt8), (116 : UInt8)]) [(3 : Nat)] [(108 : UInt8), (105 : UInt8), (116 : UInt8)]
                  ((0 : Nat) ::
                    List.tail
                      (match js with
                      | j :: r => (sum [] + j) :: r
                      | [] => [])))
              fun js =>
              upd (upd (upd (upd (fun is => []) [(0 : Nat)] [(101 : UInt8), (100 : UInt8), (105 : UInt8), (116 : UInt8)]) [(1 : Nat)] [(116 : UInt8), (114 : UInt8), (97 : UInt8), (112 : UInt8)]) [(2 : Nat)] [(115 : UInt8), (111 : UInt8), (102 : UInt8), (116 : UInt8)]) [(3 : Nat)] [(108 : UInt8), (105 : UInt8), (116 : UInt8)]
                ((1 : Nat) ::
                  List.tail
                    (match js with
                    | j :: r => (sum [] + j) :: r
                    | [] => [])))
            fun js =>
            upd (upd (upd (upd (fun is => []) [(0 : Nat)] [(101 : UInt8), (100 : UInt8), (105 : UInt8), (116 : UInt8)]) [(1 : Nat)] [(116 : UInt8), (114 : UInt8), (97 : UInt8), (112 : UInt8)]) [(2 : Nat)] [(115 : UInt8), (111 : UInt8), (102 : UInt8), (116 : UInt8)]) [(3 : Nat)] [(108 : UInt8), (105 : UInt8), (116 : UInt8)]
              ((3 : Nat) ::
                List.tail
                  (match js with
                  | j :: r => (sum [] + j) :: r
                  | [] => [])))
          [] (0 : Nat) (3 : Nat))
        [(43 : UInt8)] ∧
    True) := by kernel_rfl
theorem wordsI_p15 (m : Int) :
    isEnd (evTill Tryd.prog sumsJ 300 (99) 900 37 [.code (bodyOf Tryd.f37)] (envOf [vN m] Tryd.f37.ntmps) ([]) ⟨[.s true, .s false, .t, .t, .t, .t, .s true, .t, .t, .t, .t, .t, .t, .s true, .t, .t, .t, .t, .t, .t, .t, .s true, .t, .t, .t, .t, .t, .t, .t, .s false, .f, .f, .t, .t, .t], 80⟩) (endP ([]) (vS (wordsC m)) [] 110) =
    (OkL [(decide (m ≥ (0 : Int)), true), (!iandn IntKind.i64 m (27 : Int) == (0 : Int), false), (iand IntKind.i64 m (upd (upd (upd (upd (fun is => (0 : Int)) [(0 : Nat)] (1 : Int)) [(1 : Nat)] (2 : Int)) [(2 : Nat)] (8 : Int)) [(3 : Nat)] (16 : Int) [(0 : Nat)]) != (0 : Int), true), (iand IntKind.i64 m (upd (upd (upd (upd (fun is => (0 : Int)) [(0 : Nat)] (1 : Int)) [(1 : Nat)] (2 : Int)) [(2 : Nat)] (8 : Int)) [(3 : Nat)] (16 : Int) [(1 : Nat)]) != (0 : Int), true), (iand IntKind.i64 m (upd (upd (upd (upd (fun is => (0 : Int)) [(0 : Nat)] (1 : Int)) [(1 : Nat)] (2 : Int)) [(2 : Nat)] (8 : Int)) [(3 : Nat)] (16 : Int) [(2 : Nat)]) != (0 : Int), true), (iand IntKind.i64 m (upd (upd (upd (upd (fun is => (0 : Int)) [(0 : Nat)] (1 : Int)) [(1 : Nat)] (2 : Int)) [(2 : Nat)] (8 : Int)) [(3 : Nat)] (16 : Int) [(3 : Nat)]) != (0 : Int), false)] ∧
  wordsC m =
      joinS
        (rowS
          (appF (2 : Nat) (0 : Nat)
            (appF (1 : Nat) (0 : Nat)
              (fun js =>
                upd (upd (upd (upd (fun is => []) [(0 : Nat)] [(101 : UInt8), (100 : UInt8), (105 : UInt8), (116 : UInt8)]) [(1 : Nat)] [(116 : UInt8), (114 : UInt8), (97 : UInt8), (112 : UInt8)]) [(2 : Nat)] [(115 : UInt8), (111 : UInt8), (102 : UInt8), (116 : UInt8)]) [(3 : Nat)] [(108 : UInt8), (105 : UInt8), (116 : UInt8)]
                  ((0 : Nat) ::
                    List.tail
                      (match js with
                      | j :: r => (sum [] + j) :: r
                      | [] => [])))
              fun js =>
              upd (upd (upd (upd (fun is => []) [(0 : Nat)] [(101 : UInt8), (100 : UInt8), (105 : UInt8), (116 : UInt8)]) [(1 : Nat)] [(116 : UInt8), (114 : UInt8), (97 : UInt8), (112 : UInt8)]) [(2 : Nat)] [(115 : UInt8), (111 : UInt8), (102 : UInt8), (116 : UInt8)]) [(3 : Nat)] [(108 : UInt8), (105 : UInt8), (116 : UInt8)]
                ((1 : Nat) ::
                  List.tail
                    (match js with
                    | j :: r => (sum [] + j) :: r
                    | [] => [])))
            fun js =>
            upd (upd (upd (upd (fun is => []) [(0 : Nat)] [(101 : UInt8), (100 : UInt8), (105 : UInt8), (116 : UInt8)]) [(1 : Nat)] [(116 : UInt8), (114 : UInt8), (97 : UInt8), (112 : UInt8)]) [(2 : Nat)] [(115 : UInt8), (111 : UInt8), (102 : UInt8), (116 : UInt8)]) [(3 : Nat)] [(108 : UInt8), (105 : UInt8), (116 : UInt8)]
              ((2 : Nat) ::
                List.tail
                  (match js with
                  | j :: r => (sum [] + j) :: r
                  | [] => [])))
          [] (0 : Nat) (3 : Nat))
        [(43 : UInt8)] ∧
    True) := by kernel_rfl
theorem wordsI_p16 (m : Int) :
    isEnd (evTill Tryd.prog sumsJ 300 (99) 900 37 [.code (bodyOf Tryd.f37)] (envOf [vN m] Tryd.f37.ntmps) ([]) ⟨[.s true, .s false, .t, .t, .t, .t, .s true, .t, .t, .t, .t, .t, .t, .s true, .t, .t, .t, .t, .t, .t, .t, .s true, .t, .t, .t, .t, .t, .t, .t, .s true, .t, .t, .t, .f, .f, .t, .t, .t], 80⟩) (endP ([]) (vS (wordsC m)) [] 110) =
    (OkL [(decide (m ≥ (0 : Int)), true), (!iandn IntKind.i64 m (27 : Int) == (0 : Int), false), (iand IntKind.i64 m (upd (upd (upd (upd (fun is => (0 : Int)) [(0 : Nat)] (1 : Int)) [(1 : Nat)] (2 : Int)) [(2 : Nat)] (8 : Int)) [(3 : Nat)] (16 : Int) [(0 : Nat)]) != (0 : Int), true), (iand IntKind.i64 m (upd (upd (upd (upd (fun is => (0 : Int)) [(0 : Nat)] (1 : Int)) [(1 : Nat)] (2 : Int)) [(2 : Nat)] (8 : Int)) [(3 : Nat)] (16 : Int) [(1 : Nat)]) != (0 : Int), true), (iand IntKind.i64 m (upd (upd (upd (upd (fun is => (0 : Int)) [(0 : Nat)] (1 : Int)) [(1 : Nat)] (2 : Int)) [(2 : Nat)] (8 : Int)) [(3 : Nat)] (16 : Int) [(2 : Nat)]) != (0 : Int), true), (iand IntKind.i64 m (upd (upd (upd (upd (fun is => (0 : Int)) [(0 : Nat)] (1 : Int)) [(1 : Nat)] (2 : Int)) [(2 : Nat)] (8 : Int)) [(3 : Nat)] (16 : Int) [(3 : Nat)]) != (0 : Int), true)] ∧
  wordsC m =
      joinS
        (rowS
          (appF (3 : Nat) (0 : Nat)
            (appF (2 : Nat) (0 : Nat)
              (appF (1 : Nat) (0 : Nat)
                (fun js =>
                  upd (upd (upd (upd (fun is => []) [(0 : Nat)] [(101 : UInt8), (100 : UInt8), (105 : UInt8), (116 : UInt8)]) [(1 : Nat)] [(116 : UInt8), (114 : UInt8), (97 : UInt8), (112 : UInt8)]) [(2 : Nat)] [(115 : UInt8), (111 : UInt8), (102 : UInt8), (116 : UInt8)]) [(3 : Nat)] [(108 : UInt8), (105 : UInt8), (116 : UInt8)]
                    ((0 : Nat) ::
                      List.tail
                        (match js with
                        | j :: r => (sum [] + j) :: r
                        | [] => [])))
                fun js =>
                upd (upd (upd (upd (fun is => []) [(0 : Nat)] [(101 : UInt8), (100 : UInt8), (105 : UInt8), (116 : UInt8)]) [(1 : Nat)] [(116 : UInt8), (114 : UInt8), (97 : UInt8), (112 : UInt8)]) [(2 : Nat)] [(115 : UInt8), (111 : UInt8), (102 : UInt8), (116 : UInt8)]) [(3 : Nat)] [(108 : UInt8), (105 : UInt8), (116 : UInt8)]
                  ((1 : Nat) ::
                    List.tail
                      (match js with
                      | j :: r => (sum [] + j) :: r
                      | [] => [])))
              fun js =>
              upd (upd (upd (upd (fun is => []) [(0 : Nat)] [(101 : UInt8), (100 : UInt8), (105 : UInt8), (116 : UInt8)]) [(1 : Nat)] [(116 : UInt8), (114 : UInt8), (97 : UInt8), (112 : UInt8)]) [(2 : Nat)] [(115 : UInt8), (111 : UInt8), (102 : UInt8), (116 : UInt8)]) [(3 : Nat)] [(108 : UInt8), (105 : UInt8), (116 : UInt8)]
                ((2 : Nat) ::
                  List.tail
                    (match js with
                    | j :: r => (sum [] + j) :: r
                    | [] => [])))
            fun js =>
            upd (upd (upd (upd (fun is => []) [(0 : Nat)] [(101 : UInt8), (100 : UInt8), (105 : UInt8), (116 : UInt8)]) [(1 : Nat)] [(116 : UInt8), (114 : UInt8), (97 : UInt8), (112 : UInt8)]) [(2 : Nat)] [(115 : UInt8), (111 : UInt8), (102 : UInt8), (116 : UInt8)]) [(3 : Nat)] [(108 : UInt8), (105 : UInt8), (116 : UInt8)]
              ((3 : Nat) ::
                List.tail
                  (match js with
                  | j :: r => (sum [] + j) :: r
                  | [] => [])))
          [] (0 : Nat) (4 : Nat))
        [(43 : UInt8)] ∧
    True) := by kernel_rfl
theorem wordsI_p17 (m : Int) :
    isEnd (evTill Tryd.prog sumsJ 300 (99) 900 37 [.code (bodyOf Tryd.f37)] (envOf [vN m] Tryd.f37.ntmps) ([]) ⟨[.s true, .s true], 80⟩) (endP ([]) (vS (wordsC m)) [] 110) =
    (OkL [(decide (m ≥ (0 : Int)), true), (!iandn IntKind.i64 m (27 : Int) == (0 : Int), true)] ∧ wordsC m = [] ∧ True) := by kernel_rfl

set_option maxHeartbeats 4000000 in
theorem wordsI (m : Int)  :
    RunsTo Tryd.prog 37 [.code (bodyOf Tryd.f37)] (envOf [vN m] Tryd.f37.ntmps) (Sx.look ([])) 80 (vS (wordsC m)) (Sx.look ([])) 110 := by
  refine bcase (c := (decide (m ≥ (0 : Int)))) (fun gg0 => ?_) (fun gg0 => ?_)
  · refine runs_last baseJ (Sx.Ends.of (wordsI_p0 m) ⟨?oo, ?rr⟩) (by kernel_rfl) rfl (gtL (by decide)) (by decide)
    case oo =>
      refine (okc gg0 okn)
      all_goals first | rfl | (simp (disch := omega) only [SS] at *; omega) | (simp (disch := omega) only [SS] at *; done) | (simp_all; done)
    case rr =>
      simp only [SS] at *
      refine ⟨?_, trivial⟩
      simp [upd] at *
      first | (simp [wordsC, rightC, bw, *]; done) | (simp [wordsC, rightC, bw, *]; rfl) | (simp [wordsC, rightC, bw, *]; intros; omega)
  · refine bcase (c := (!iandn IntKind.i64 m (27 : Int) == (0 : Int))) (fun gg1 => ?_) (fun gg1 => ?_)
    · refine bcase (c := (iand IntKind.i64 m (upd (upd (upd (upd (fun is => (0 : Int)) [(0 : Nat)] (1 : Int)) [(1 : Nat)] (2 : Int)) [(2 : Nat)] (8 : Int)) [(3 : Nat)] (16 : Int) [(0 : Nat)]) != (0 : Int))) (fun gg2 => ?_) (fun gg2 => ?_)
      · refine bcase (c := (iand IntKind.i64 m (upd (upd (upd (upd (fun is => (0 : Int)) [(0 : Nat)] (1 : Int)) [(1 : Nat)] (2 : Int)) [(2 : Nat)] (8 : Int)) [(3 : Nat)] (16 : Int) [(1 : Nat)]) != (0 : Int))) (fun gg3 => ?_) (fun gg3 => ?_)
        · refine bcase (c := (iand IntKind.i64 m (upd (upd (upd (upd (fun is => (0 : Int)) [(0 : Nat)] (1 : Int)) [(1 : Nat)] (2 : Int)) [(2 : Nat)] (8 : Int)) [(3 : Nat)] (16 : Int) [(2 : Nat)]) != (0 : Int))) (fun gg4 => ?_) (fun gg4 => ?_)
          · refine bcase (c := (iand IntKind.i64 m (upd (upd (upd (upd (fun is => (0 : Int)) [(0 : Nat)] (1 : Int)) [(1 : Nat)] (2 : Int)) [(2 : Nat)] (8 : Int)) [(3 : Nat)] (16 : Int) [(3 : Nat)]) != (0 : Int))) (fun gg5 => ?_) (fun gg5 => ?_)
            · refine runs_last baseJ (Sx.Ends.of (wordsI_p1 m) ⟨?oo, ?rr⟩) (by kernel_rfl) rfl (gtL (by decide)) (by decide)
              case oo =>
                refine (okc gg0 (okc gg1 (okc gg2 (okc gg3 (okc gg4 (okc gg5 okn))))))
                all_goals first | rfl | (simp (disch := omega) only [SS] at *; omega) | (simp (disch := omega) only [SS] at *; done) | (simp_all; done)
              case rr =>
                simp only [SS] at *
                refine ⟨?_, trivial⟩
                simp [upd] at *
                first | (simp [wordsC, rightC, bw, *]; done) | (simp [wordsC, rightC, bw, *]; rfl) | (simp [wordsC, rightC, bw, *]; intros; omega)
            · refine runs_last baseJ (Sx.Ends.of (wordsI_p2 m) ⟨?oo, ?rr⟩) (by kernel_rfl) rfl (gtL (by decide)) (by decide)
              case oo =>
                refine (okc gg0 (okc gg1 (okc gg2 (okc gg3 (okc gg4 (okc gg5 okn))))))
                all_goals first | rfl | (simp (disch := omega) only [SS] at *; omega) | (simp (disch := omega) only [SS] at *; done) | (simp_all; done)
              case rr =>
                simp only [SS] at *
                refine ⟨?_, trivial⟩
                simp [upd] at *
                first | (simp [wordsC, rightC, bw, *]; done) | (simp [wordsC, rightC, bw, *]; rfl) | (simp [wordsC, rightC, bw, *]; intros; omega)
          · refine bcase (c := (iand IntKind.i64 m (upd (upd (upd (upd (fun is => (0 : Int)) [(0 : Nat)] (1 : Int)) [(1 : Nat)] (2 : Int)) [(2 : Nat)] (8 : Int)) [(3 : Nat)] (16 : Int) [(3 : Nat)]) != (0 : Int))) (fun gg5 => ?_) (fun gg5 => ?_)
            · refine runs_last baseJ (Sx.Ends.of (wordsI_p3 m) ⟨?oo, ?rr⟩) (by kernel_rfl) rfl (gtL (by decide)) (by decide)
              case oo =>
                refine (okc gg0 (okc gg1 (okc gg2 (okc gg3 (okc gg4 (okc gg5 okn))))))
                all_goals first | rfl | (simp (disch := omega) only [SS] at *; omega) | (simp (disch := omega) only [SS] at *; done) | (simp_all; done)
              case rr =>
                simp only [SS] at *
                refine ⟨?_, trivial⟩
                simp [upd] at *
                first | (simp [wordsC, rightC, bw, *]; done) | (simp [wordsC, rightC, bw, *]; rfl) | (simp [wordsC, rightC, bw, *]; intros; omega)
            · refine runs_last baseJ (Sx.Ends.of (wordsI_p4 m) ⟨?oo, ?rr⟩) (by kernel_rfl) rfl (gtL (by decide)) (by decide)
              case oo =>
                refine (okc gg0 (okc gg1 (okc gg2 (okc gg3 (okc gg4 (okc gg5 okn))))))
                all_goals first | rfl | (simp (disch := omega) only [SS] at *; omega) | (simp (disch := omega) only [SS] at *; done) | (simp_all; done)
              case rr =>
                simp only [SS] at *
                refine ⟨?_, trivial⟩
                simp [upd] at *
                first | (simp [wordsC, rightC, bw, *]; done) | (simp [wordsC, rightC, bw, *]; rfl) | (simp [wordsC, rightC, bw, *]; intros; omega)
        · refine bcase (c := (iand IntKind.i64 m (upd (upd (upd (upd (fun is => (0 : Int)) [(0 : Nat)] (1 : Int)) [(1 : Nat)] (2 : Int)) [(2 : Nat)] (8 : Int)) [(3 : Nat)] (16 : Int) [(2 : Nat)]) != (0 : Int))) (fun gg4 => ?_) (fun gg4 => ?_)
          · refine bcase (c := (iand IntKind.i64 m (upd (upd (upd (upd (fun is => (0 : Int)) [(0 : Nat)] (1 : Int)) [(1 : Nat)] (2 : Int)) [(2 : Nat)] (8 : Int)) [(3 : Nat)] (16 : Int) [(3 : Nat)]) != (0 : Int))) (fun gg5 => ?_) (fun gg5 => ?_)
            · refine runs_last baseJ (Sx.Ends.of (wordsI_p5 m) ⟨?oo, ?rr⟩) (by kernel_rfl) rfl (gtL (by decide)) (by decide)
              case oo =>
                refine (okc gg0 (okc gg1 (okc gg2 (okc gg3 (okc gg4 (okc gg5 okn))))))
                all_goals first | rfl | (simp (disch := omega) only [SS] at *; omega) | (simp (disch := omega) only [SS] at *; done) | (simp_all; done)
              case rr =>
                simp only [SS] at *
                refine ⟨?_, trivial⟩
                simp [upd] at *
                first | (simp [wordsC, rightC, bw, *]; done) | (simp [wordsC, rightC, bw, *]; rfl) | (simp [wordsC, rightC, bw, *]; intros; omega)
            · refine runs_last baseJ (Sx.Ends.of (wordsI_p6 m) ⟨?oo, ?rr⟩) (by kernel_rfl) rfl (gtL (by decide)) (by decide)
              case oo =>
                refine (okc gg0 (okc gg1 (okc gg2 (okc gg3 (okc gg4 (okc gg5 okn))))))
                all_goals first | rfl | (simp (disch := omega) only [SS] at *; omega) | (simp (disch := omega) only [SS] at *; done) | (simp_all; done)
              case rr =>
                simp only [SS] at *
                refine ⟨?_, trivial⟩
                simp [upd] at *
                first | (simp [wordsC, rightC, bw, *]; done) | (simp [wordsC, rightC, bw, *]; rfl) | (simp [wordsC, rightC, bw, *]; intros; omega)
          · refine bcase (c := (iand IntKind.i64 m (upd (upd (upd (upd (fun is => (0 : Int)) [(0 : Nat)] (1 : Int)) [(1 : Nat)] (2 : Int)) [(2 : Nat)] (8 : Int)) [(3 : Nat)] (16 : Int) [(3 : Nat)]) != (0 : Int))) (fun gg5 => ?_) (fun gg5 => ?_)
            · refine runs_last baseJ (Sx.Ends.of (wordsI_p7 m) ⟨?oo, ?rr⟩) (by kernel_rfl) rfl (gtL (by decide)) (by decide)
              case oo =>
                refine (okc gg0 (okc gg1 (okc gg2 (okc gg3 (okc gg4 (okc gg5 okn))))))
                all_goals first | rfl | (simp (disch := omega) only [SS] at *; omega) | (simp (disch := omega) only [SS] at *; done) | (simp_all; done)
              case rr =>
                simp only [SS] at *
                refine ⟨?_, trivial⟩
                simp [upd] at *
                first | (simp [wordsC, rightC, bw, *]; done) | (simp [wordsC, rightC, bw, *]; rfl) | (simp [wordsC, rightC, bw, *]; intros; omega)
            · refine runs_last baseJ (Sx.Ends.of (wordsI_p8 m) ⟨?oo, ?rr⟩) (by kernel_rfl) rfl (gtL (by decide)) (by decide)
              case oo =>
                refine (okc gg0 (okc gg1 (okc gg2 (okc gg3 (okc gg4 (okc gg5 okn))))))
                all_goals first | rfl | (simp (disch := omega) only [SS] at *; omega) | (simp (disch := omega) only [SS] at *; done) | (simp_all; done)
              case rr =>
                simp only [SS] at *
                refine ⟨?_, trivial⟩
                simp [upd] at *
                first | (simp [wordsC, rightC, bw, *]; done) | (simp [wordsC, rightC, bw, *]; rfl) | (simp [wordsC, rightC, bw, *]; intros; omega)
      · refine bcase (c := (iand IntKind.i64 m (upd (upd (upd (upd (fun is => (0 : Int)) [(0 : Nat)] (1 : Int)) [(1 : Nat)] (2 : Int)) [(2 : Nat)] (8 : Int)) [(3 : Nat)] (16 : Int) [(1 : Nat)]) != (0 : Int))) (fun gg3 => ?_) (fun gg3 => ?_)
        · refine bcase (c := (iand IntKind.i64 m (upd (upd (upd (upd (fun is => (0 : Int)) [(0 : Nat)] (1 : Int)) [(1 : Nat)] (2 : Int)) [(2 : Nat)] (8 : Int)) [(3 : Nat)] (16 : Int) [(2 : Nat)]) != (0 : Int))) (fun gg4 => ?_) (fun gg4 => ?_)
          · refine bcase (c := (iand IntKind.i64 m (upd (upd (upd (upd (fun is => (0 : Int)) [(0 : Nat)] (1 : Int)) [(1 : Nat)] (2 : Int)) [(2 : Nat)] (8 : Int)) [(3 : Nat)] (16 : Int) [(3 : Nat)]) != (0 : Int))) (fun gg5 => ?_) (fun gg5 => ?_)
            · refine runs_last baseJ (Sx.Ends.of (wordsI_p9 m) ⟨?oo, ?rr⟩) (by kernel_rfl) rfl (gtL (by decide)) (by decide)
              case oo =>
                refine (okc gg0 (okc gg1 (okc gg2 (okc gg3 (okc gg4 (okc gg5 okn))))))
                all_goals first | rfl | (simp (disch := omega) only [SS] at *; omega) | (simp (disch := omega) only [SS] at *; done) | (simp_all; done)
              case rr =>
                simp only [SS] at *
                refine ⟨?_, trivial⟩
                simp [upd] at *
                first | (simp [wordsC, rightC, bw, *]; done) | (simp [wordsC, rightC, bw, *]; rfl) | (simp [wordsC, rightC, bw, *]; intros; omega)
            · refine runs_last baseJ (Sx.Ends.of (wordsI_p10 m) ⟨?oo, ?rr⟩) (by kernel_rfl) rfl (gtL (by decide)) (by decide)
              case oo =>
                refine (okc gg0 (okc gg1 (okc gg2 (okc gg3 (okc gg4 (okc gg5 okn))))))
                all_goals first | rfl | (simp (disch := omega) only [SS] at *; omega) | (simp (disch := omega) only [SS] at *; done) | (simp_all; done)
              case rr =>
                simp only [SS] at *
                refine ⟨?_, trivial⟩
                simp [upd] at *
                first | (simp [wordsC, rightC, bw, *]; done) | (simp [wordsC, rightC, bw, *]; rfl) | (simp [wordsC, rightC, bw, *]; intros; omega)
          · refine bcase (c := (iand IntKind.i64 m (upd (upd (upd (upd (fun is => (0 : Int)) [(0 : Nat)] (1 : Int)) [(1 : Nat)] (2 : Int)) [(2 : Nat)] (8 : Int)) [(3 : Nat)] (16 : Int) [(3 : Nat)]) != (0 : Int))) (fun gg5 => ?_) (fun gg5 => ?_)
            · refine runs_last baseJ (Sx.Ends.of (wordsI_p11 m) ⟨?oo, ?rr⟩) (by kernel_rfl) rfl (gtL (by decide)) (by decide)
              case oo =>
                refine (okc gg0 (okc gg1 (okc gg2 (okc gg3 (okc gg4 (okc gg5 okn))))))
                all_goals first | rfl | (simp (disch := omega) only [SS] at *; omega) | (simp (disch := omega) only [SS] at *; done) | (simp_all; done)
              case rr =>
                simp only [SS] at *
                refine ⟨?_, trivial⟩
                simp [upd] at *
                first | (simp [wordsC, rightC, bw, *]; done) | (simp [wordsC, rightC, bw, *]; rfl) | (simp [wordsC, rightC, bw, *]; intros; omega)
            · refine runs_last baseJ (Sx.Ends.of (wordsI_p12 m) ⟨?oo, ?rr⟩) (by kernel_rfl) rfl (gtL (by decide)) (by decide)
              case oo =>
                refine (okc gg0 (okc gg1 (okc gg2 (okc gg3 (okc gg4 (okc gg5 okn))))))
                all_goals first | rfl | (simp (disch := omega) only [SS] at *; omega) | (simp (disch := omega) only [SS] at *; done) | (simp_all; done)
              case rr =>
                simp only [SS] at *
                refine ⟨?_, trivial⟩
                simp [upd] at *
                first | (simp [wordsC, rightC, bw, *]; done) | (simp [wordsC, rightC, bw, *]; rfl) | (simp [wordsC, rightC, bw, *]; intros; omega)
        · refine bcase (c := (iand IntKind.i64 m (upd (upd (upd (upd (fun is => (0 : Int)) [(0 : Nat)] (1 : Int)) [(1 : Nat)] (2 : Int)) [(2 : Nat)] (8 : Int)) [(3 : Nat)] (16 : Int) [(2 : Nat)]) != (0 : Int))) (fun gg4 => ?_) (fun gg4 => ?_)
          · refine bcase (c := (iand IntKind.i64 m (upd (upd (upd (upd (fun is => (0 : Int)) [(0 : Nat)] (1 : Int)) [(1 : Nat)] (2 : Int)) [(2 : Nat)] (8 : Int)) [(3 : Nat)] (16 : Int) [(3 : Nat)]) != (0 : Int))) (fun gg5 => ?_) (fun gg5 => ?_)
            · refine runs_last baseJ (Sx.Ends.of (wordsI_p13 m) ⟨?oo, ?rr⟩) (by kernel_rfl) rfl (gtL (by decide)) (by decide)
              case oo =>
                refine (okc gg0 (okc gg1 (okc gg2 (okc gg3 (okc gg4 (okc gg5 okn))))))
                all_goals first | rfl | (simp (disch := omega) only [SS] at *; omega) | (simp (disch := omega) only [SS] at *; done) | (simp_all; done)
              case rr =>
                simp only [SS] at *
                refine ⟨?_, trivial⟩
                simp [upd] at *
                first | (simp [wordsC, rightC, bw, *]; done) | (simp [wordsC, rightC, bw, *]; rfl) | (simp [wordsC, rightC, bw, *]; intros; omega)
            · refine runs_last baseJ (Sx.Ends.of (wordsI_p14 m) ⟨?oo, ?rr⟩) (by kernel_rfl) rfl (gtL (by decide)) (by decide)
              case oo =>
                refine (okc gg0 (okc gg1 (okc gg2 (okc gg3 (okc gg4 (okc gg5 okn))))))
                all_goals first | rfl | (simp (disch := omega) only [SS] at *; omega) | (simp (disch := omega) only [SS] at *; done) | (simp_all; done)
              case rr =>
                simp only [SS] at *
                refine ⟨?_, trivial⟩
                simp [upd] at *
                first | (simp [wordsC, rightC, bw, *]; done) | (simp [wordsC, rightC, bw, *]; rfl) | (simp [wordsC, rightC, bw, *]; intros; omega)
          · refine bcase (c := (iand IntKind.i64 m (upd (upd (upd (upd (fun is => (0 : Int)) [(0 : Nat)] (1 : Int)) [(1 : Nat)] (2 : Int)) [(2 : Nat)] (8 : Int)) [(3 : Nat)] (16 : Int) [(3 : Nat)]) != (0 : Int))) (fun gg5 => ?_) (fun gg5 => ?_)
            · refine runs_last baseJ (Sx.Ends.of (wordsI_p15 m) ⟨?oo, ?rr⟩) (by kernel_rfl) rfl (gtL (by decide)) (by decide)
              case oo =>
                refine (okc gg0 (okc gg1 (okc gg2 (okc gg3 (okc gg4 (okc gg5 okn))))))
                all_goals first | rfl | (simp (disch := omega) only [SS] at *; omega) | (simp (disch := omega) only [SS] at *; done) | (simp_all; done)
              case rr =>
                simp only [SS] at *
                refine ⟨?_, trivial⟩
                simp [upd] at *
                first | (simp [wordsC, rightC, bw, *]; done) | (simp [wordsC, rightC, bw, *]; rfl) | (simp [wordsC, rightC, bw, *]; intros; omega)
            · refine runs_last baseJ (Sx.Ends.of (wordsI_p16 m) ⟨?oo, ?rr⟩) (by kernel_rfl) rfl (gtL (by decide)) (by decide)
              case oo =>
                refine (okc gg0 (okc gg1 (okc gg2 (okc gg3 (okc gg4 (okc gg5 okn))))))
                all_goals first | rfl | (simp (disch := omega) only [SS] at *; omega) | (simp (disch := omega) only [SS] at *; done) | (simp_all; done)
              case rr =>
                simp only [SS] at *
                refine ⟨?_, trivial⟩
                simp [upd] at *
                first | (simp [wordsC, rightC, bw, *]; done) | (simp [wordsC, rightC, bw, *]; rfl) | (simp [wordsC, rightC, bw, *]; intros; omega)
    · refine runs_last baseJ (Sx.Ends.of (wordsI_p17 m) ⟨?oo, ?rr⟩) (by kernel_rfl) rfl (gtL (by decide)) (by decide)
      case oo =>
        refine (okc gg0 (okc gg1 okn))
        all_goals first | rfl | (simp (disch := omega) only [SS] at *; omega) | (simp (disch := omega) only [SS] at *; done) | (simp_all; done)
      case rr =>
        simp only [SS] at *
        refine ⟨?_, trivial⟩
        simp [upd] at *
        first | (simp [wordsC, rightC, bw, *]; done) | (simp [wordsC, rightC, bw, *]; rfl) | (simp [wordsC, rightC, bw, *]; intros; omega)

theorem rwordsI_p0 (m : Int) :
    isEnd (evTill Tryd.prog [] 300 (99) 900 34 [.code (bodyOf Tryd.f34)] (envOf [vN m] Tryd.f34.ntmps) ([]) ⟨[.t, .t, .t, .t, .t, .t, .s false, .t, .t, .t, .t, .t, .t, .s false, .t, .t, .t, .t, .t, .t, .s false, .t, .t, .t, .t, .t, .t, .s false, .f, .t], 80⟩) (endP ([]) (vS (wordsR m)) [] 110) =
    (OkL [((IntKind.i64.wrap (m.tdiv (upd (upd (upd (upd (fun is => (0 : Int)) [(0 : Nat)] (1 : Int)) [(1 : Nat)] (2 : Int)) [(2 : Nat)] (8 : Int)) [(3 : Nat)] (16 : Int) [(0 : Nat)]))).tmod (2 : Int) == (1 : Int), false), ((IntKind.i64.wrap (m.tdiv (upd (upd (upd (upd (fun is => (0 : Int)) [(0 : Nat)] (1 : Int)) [(1 : Nat)] (2 : Int)) [(2 : Nat)] (8 : Int)) [(3 : Nat)] (16 : Int) [(1 : Nat)]))).tmod (2 : Int) == (1 : Int), false), ((IntKind.i64.wrap (m.tdiv (upd (upd (upd (upd (fun is => (0 : Int)) [(0 : Nat)] (1 : Int)) [(1 : Nat)] (2 : Int)) [(2 : Nat)] (8 : Int)) [(3 : Nat)] (16 : Int) [(2 : Nat)]))).tmod (2 : Int) == (1 : Int), false), ((IntKind.i64.wrap (m.tdiv (upd (upd (upd (upd (fun is => (0 : Int)) [(0 : Nat)] (1 : Int)) [(1 : Nat)] (2 : Int)) [(2 : Nat)] (8 : Int)) [(3 : Nat)] (16 : Int) [(3 : Nat)]))).tmod (2 : Int) == (1 : Int), false)] ∧ wordsR m = [(110 : UInt8), (111 : UInt8), (110 : UInt8), (101 : UInt8)] ∧ True) := by kernel_rfl
theorem rwordsI_p1 (m : Int) :
    isEnd (evTill Tryd.prog [] 300 (99) 900 34 [.code (bodyOf Tryd.f34)] (envOf [vN m] Tryd.f34.ntmps) ([]) ⟨[.t, .t, .t, .t, .t, .t, .s false, .t, .t, .t, .t, .t, .t, .s false, .t, .t, .t, .t, .t, .t, .s false, .t, .t, .t, .t, .t, .t, .s true, .f, .t, .t, .t, .t, .f, .f], 80⟩) (endP ([]) (vS (wordsR m)) [] 110) =
    (OkL [((IntKind.i64.wrap (m.tdiv (upd (upd (upd (upd (fun is => (0 : Int)) [(0 : Nat)] (1 : Int)) [(1 : Nat)] (2 : Int)) [(2 : Nat)] (8 : Int)) [(3 : Nat)] (16 : Int) [(0 : Nat)]))).tmod (2 : Int) == (1 : Int), false), ((IntKind.i64.wrap (m.tdiv (upd (upd (upd (upd (fun is => (0 : Int)) [(0 : Nat)] (1 : Int)) [(1 : Nat)] (2 : Int)) [(2 : Nat)] (8 : Int)) [(3 : Nat)] (16 : Int) [(1 : Nat)]))).tmod (2 : Int) == (1 : Int), false), ((IntKind.i64.wrap (m.tdiv (upd (upd (upd (upd (fun is => (0 : Int)) [(0 : Nat)] (1 : Int)) [(1 : Nat)] (2 : Int)) [(2 : Nat)] (8 : Int)) [(3 : Nat)] (16 : Int) [(2 : Nat)]))).tmod (2 : Int) == (1 : Int), false), ((IntKind.i64.wrap (m.tdiv (upd (upd (upd (upd (fun is => (0 : Int)) [(0 : Nat)] (1 : Int)) [(1 : Nat)] (2 : Int)) [(2 : Nat)] (8 : Int)) [(3 : Nat)] (16 : Int) [(3 : Nat)]))).tmod (2 : Int) == (1 : Int), true)] ∧ wordsR m = [] ++ upd (upd (upd (upd (fun is => []) [(0 : Nat)] [(101 : UInt8), (100 : UInt8), (105 : UInt8), (116 : UInt8)]) [(1 : Nat)] [(116 : UInt8), (114 : UInt8), (97 : UInt8), (112 : UInt8)]) [(2 : Nat)] [(115 : UInt8), (111 : UInt8), (102 : UInt8), (116 : UInt8)]) [(3 : Nat)] [(108 : UInt8), (105 : UInt8), (116 : UInt8)] [(3 : Nat)] ∧ True) := by kernel_rfl
theorem rwordsI_p2 (m : Int) :
    isEnd (evTill Tryd.prog [] 300 (99) 900 34 [.code (bodyOf Tryd.f34)] (envOf [vN m] Tryd.f34.ntmps) ([]) ⟨[.t, .t, .t, .t, .t, .t, .s false, .t, .t, .t, .t, .t, .t, .s false, .t, .t, .t, .t, .t, .t, .s true, .f, .t, .t, .t, .t, .t, .t, .t, .t, .t, .t, .s false, .f, .f], 80⟩) (endP ([]) (vS (wordsR m)) [] 110) =
    (OkL [((IntKind.i64.wrap (m.tdiv (upd (upd (upd (upd (fun is => (0 : Int)) [(0 : Nat)] (1 : Int)) [(1 : Nat)] (2 : Int)) [(2 : Nat)] (8 : Int)) [(3 : Nat)] (16 : Int) [(0 : Nat)]))).tmod (2 : Int) == (1 : Int), false), ((IntKind.i64.wrap (m.tdiv (upd (upd (upd (upd (fun is => (0 : Int)) [(0 : Nat)] (1 : Int)) [(1 : Nat)] (2 : Int)) [(2 : Nat)] (8 : Int)) [(3 : Nat)] (16 : Int) [(1 : Nat)]))).tmod (2 : Int) == (1 : Int), false), ((IntKind.i64.wrap (m.tdiv (upd (upd (upd (upd (fun is => (0 : Int)) [(0 : Nat)] (1 : Int)) [(1 : Nat)] (2 : Int)) [(2 : Nat)] (8 : Int)) [(3 : Nat)] (16 : Int) [(2 : Nat)]))).tmod (2 : Int) == (1 : Int), true), ((IntKind.i64.wrap (m.tdiv (upd (upd (upd (upd (fun is => (0 : Int)) [(0 : Nat)] (1 : Int)) [(1 : Nat)] (2 : Int)) [(2 : Nat)] (8 : Int)) [(3 : Nat)] (16 : Int) [(3 : Nat)]))).tmod (2 : Int) == (1 : Int), false)] ∧ wordsR m = [] ++ upd (upd (upd (upd (fun is => []) [(0 : Nat)] [(101 : UInt8), (100 : UInt8), (105 : UInt8), (116 : UInt8)]) [(1 : Nat)] [(116 : UInt8), (114 : UInt8), (97 : UInt8), (112 : UInt8)]) [(2 : Nat)] [(115 : UInt8), (111 : UInt8), (102 : UInt8), (116 : UInt8)]) [(3 : Nat)] [(108 : UInt8), (105 : UInt8), (116 : UInt8)] [(2 : Nat)] ∧ True) := by kernel_rfl
theorem rwordsI_p3 (m : Int) :
    isEnd (evTill Tryd.prog [] 300 (99) 900 34 [.code (bodyOf Tryd.f34)] (envOf [vN m] Tryd.f34.ntmps) ([]) ⟨[.t, .t, .t, .t, .t, .t, .s false, .t, .t, .t, .t, .t, .t, .s false, .t, .t, .t, .t, .t, .t, .s true, .f, .t, .t, .t, .t, .t, .t, .t, .t, .t, .t, .s true, .t, .t, .t, .t, .t, .t, .f, .f], 80⟩) (endP ([]) (vS (wordsR m)) [] 110) =
    (OkL [((IntKind.i64.wrap (m.tdiv (upd (upd (upd (upd (fun is => (0 : Int)) [(0 : Nat)] (1 : Int)) [(1 : Nat)] (2 : Int)) [(2 : Nat)] (8 : Int)) [(3 : Nat)] (16 : Int) [(0 : Nat)]))).tmod (2 : Int) == (1 : Int), false), ((IntKind.i64.wrap (m.tdiv (upd (upd (upd (upd (fun is => (0 : Int)) [(0 : Nat)] (1 : Int)) [(1 : Nat)] (2 : Int)) [(2 : Nat)] (8 : Int)) [(3 : Nat)] (16 : Int) [(1 : Nat)]))).tmod (2 : Int) == (1 : Int), false), ((IntKind.i64.wrap (m.tdiv (upd (upd (upd (upd (fun is => (0 : Int)) [(0 : Nat)] (1 : Int)) [(1 : Nat)] (2 : Int)) [(2 : Nat)] (8 : Int)) [(3 : Nat)] (16 : Int) [(2 : Nat)]))).tmod (2 : Int) == (1 : Int), true), ((IntKind.i64.wrap (m.tdiv (upd (upd (upd (upd (fun is => (0 : Int)) [(0 : Nat)] (1 : Int)) [(1 : Nat)] (2 : Int)) [(2 : Nat)] (8 : Int)) [(3 : Nat)] (16 : Int) [(3 : Nat)]))).tmod (2 : Int) == (1 : Int), true)] ∧ wordsR m = [] ++ upd (upd (upd (upd (fun is => []) [(0 : Nat)] [(101 : UInt8), (100 : UInt8), (105 : UInt8), (116 : UInt8)]) [(1 : Nat)] [(116 : UInt8), (114 : UInt8), (97 : UInt8), (112 : UInt8)]) [(2 : Nat)] [(115 : UInt8), (111 : UInt8), (102 : UInt8), (116 : UInt8)]) [(3 : Nat)] [(108 : UInt8), (105 : UInt8), (116 : UInt8)] [(2 : Nat)] ++ [(43 : UInt8)] ++ upd (upd (upd (upd (fun is => []) [(0 : Nat)] [(101 : UInt8), (100 : UInt8), (105 : UInt8), (116 : UInt8)]) [(1 : Nat)] [(116 : UInt8), (114 : UInt8), (97 : UInt8), (112 : UInt8)]) [(2 : Nat)] [(115 : UInt8), (111 : UInt8), (102 : UInt8), (116 : UInt8)]) [(3 : Nat)] [(108 : UInt8), (105 : UInt8), (116 : UInt8)] [(3 : Nat)] ∧ True) := by kernel_rfl
theorem rwordsI_p4 (m : Int) :
    isEnd (evTill Tryd.prog [] 300 (99) 900 34 [.code (bodyOf Tryd.f34)] (envOf [vN m] Tryd.f34.ntmps) ([]) ⟨[.t, .t, .t, .t, .t, .t, .s false, .t, .t, .t, .t, .t, .t, .s true, .f, .t, .t, .t, .t, .t, .t, .t, .t, .t, .t, .s false, .t, .t, .t, .t, .t, .t, .s false, .f, .f], 80⟩) (endP ([]) (vS (wordsR m)) [] 110) =
    (OkL [((IntKind.i64.wrap (m.tdiv (upd (upd (upd (upd (fun is => (0 : Int)) [(0 : Nat)] (1 : Int)) [(1 : Nat)] (2 : Int)) [(2 : Nat)] (8 : Int)) [(3 : Nat)] (16 : Int) [(0 : Nat)]))).tmod (2 : Int) == (1 : Int), false), ((IntKind.i64.wrap (m.tdiv (upd (upd (upd (upd (fun is => (0 : Int)) [(0 : Nat)] (1 : Int)) [(1 : Nat)] (2 : Int)) [(2 : Nat)] (8 : Int)) [(3 : Nat)] (16 : Int) [(1 : Nat)]))).tmod (2 : Int) == (1 : Int), true), ((IntKind.i64.wrap (m.tdiv (upd (upd (upd (upd (fun is => (0 : Int)) [(0 : Nat)] (1 : Int)) [(1 : Nat)] (2 : Int)) [(2 : Nat)] (8 : Int)) [(3 : Nat)] (16 : Int) [(2 : Nat)]))).tmod (2 : Int) == (1 : Int), false), ((IntKind.i64.wrap (m.tdiv (upd (upd (upd (upd (fun is => (0 : Int)) [(0 : Nat)] (1 : Int)) [(1 : Nat)] (2 : Int)) [(2 : Nat)] (8 : Int)) [(3 : Nat)] (16 : Int) [(3 : Nat)]))).tmod (2 : Int) == (1 : Int), false)] ∧ wordsR m = [] ++ upd (upd (upd (upd (fun is => []) [(0 : Nat)] [(101 : UInt8), (100 : UInt8), (105 : UInt8), (116 : UInt8)]) [(1 : Nat)] [(116 : UInt8), (114 : UInt8), (97 : UInt8), (112 : UInt8)]) [(2 : Nat)] [(115 : UInt8), (111 : UInt8), (102 : UInt8), (116 : UInt8)]) [(3 : Nat)] [(108 : UInt8), (105 : UInt8), (116 : UInt8)] [(1 : Nat)] ∧ True) := by kernel_rfl
theorem rwordsI_p5 (m : Int) :
    isEnd (evTill Tryd.prog [] 300 (99) 900 34 [.code (bodyOf Tryd.f34)] (envOf [vN m] Tryd.f34.ntmps) ([]) ⟨[.t, .t, .t, .t, .t, .t, .s false, .t, .t, .t, .t, .t, .t, .s true, .f, .t, .t, .t, .t, .t, .t, .t, .t, .t, .t, .s false, .t, .t, .t, .t, .t, .t, .s true, .t, .t, .t, .t, .t, .t, .f, .f], 80⟩) (endP ([]) (vS (wordsR m)) [] 110) =
    (OkL [((IntKind.i64.wrap (m.tdiv (upd (upd (upd (upd (fun is => (0 : Int)) [(0 : Nat)] (1 : Int)) [(1 : Nat)] (2 : Int)) [(2 : Nat)] (8 : Int)) [(3 : Nat)] (16 : Int) [(0 : Nat)]))).tmod (2 : Int) == (1 : Int), false), ((IntKind.i64.wrap (m.tdiv (upd (upd (upd (upd (fun is => (0 : Int)) [(0 : Nat)] (1 : Int)) [(1 : Nat)] (2 : Int)) [(2 : Nat)] (8 : Int)) [(3 : Nat)] (16 : Int) [(1 : Nat)]))).tmod (2 : Int) == (1 : Int), true), ((IntKind.i64.wrap (m.tdiv (upd (upd (upd (upd (fun is => (0 : Int)) [(0 : Nat)] (1 : Int)) [(1 : Nat)] (2 : Int)) [(2 : Nat)] (8 : Int)) [(3 : Nat)] (16 : Int) [(2 : Nat)]))).tmod (2 : Int) == (1 : Int), false), ((IntKind.i64.wrap (m.tdiv (upd (upd (upd (upd (fun is => (0 : Int)) [(0 : Nat)] (1 : Int)) [(1 : Nat)] (2 : Int)) [(2 : Nat)] (8 : Int)) [(3 : Nat)] (16 : Int) [(3 : Nat)]))).tmod (2 : Int) == (1 : Int), true)] ∧ wordsR m = [] ++ upd (upd (upd (upd (fun is => []) [(0 : Nat)] [(101 : UInt8), (100 : UInt8), (105 : UInt8), (116 : UInt8)]) [(1 : Nat)] [(116 : UInt8), (114 : UInt8), (97 : UInt8), (112 : UInt8)]) [(2 : Nat)] [(115 : UInt8), (111 : UInt8), (102 : UInt8), (116 : UInt8)]) [(3 : Nat)] [(108 : UInt8), (105 : UInt8), (116 : UInt8)] [(1 : Nat)] ++ [(43 : UInt8)] ++ upd (upd (upd (upd (fun is => []) [(0 : Nat)] [(101 : UInt8), (100 : UInt8), (105 : UInt8), (116 : UInt8)]) [(1 : Nat)] [(116 : UInt8), (114 : UInt8), (97 : UInt8), (112 : UInt8)]) [(2 : Nat)] [(115 : UInt8), (111 : UInt8), (102 : UInt8), (116 : UInt8)]) [(3 : Nat)] [(108 : UInt8), (105 : UInt8), (116 : UInt8)] [(3 : Nat)] ∧ True) := by kernel_rfl
theorem rwordsI_p6 (m : Int) :
    isEnd (evTill Tryd.prog [] 300 (99) 900 34 [.code (bodyOf Tryd.f34)] (envOf [vN m] Tryd.f34.ntmps) ([]) ⟨[.t, .t, .t, .t, .t, .t, .s false, .t, .t, .t, .t, .t, .t, .s true, .f, .t, .t, .t, .t, .t, .t, .t, .t, .t, .t, .s true, .t, .t, .t, .t, .t, .t, .t, .t, .t, .t, .t, .t, .s false, .f, .f], 80⟩) (endP ([]) (vS (wordsR m)) [] 110) =
    (OkL [((IntKind.i64.wrap (m.tdiv (upd (upd (upd (upd (fun is => (0 : Int)) [(0 : Nat)] (1 : Int)) [(1 : Nat)] (2 : Int)) [(2 : Nat)] (8 : Int)) [(3 : Nat)] (16 : Int) [(0 : Nat)]))).tmod (2 : Int) == (1 : Int), false), ((IntKind.i64.wrap (m.tdiv (upd (upd (upd (upd (fun is => (0 : Int)) [(0 : Nat)] (1 : Int)) [(1 : Nat)] (2 : Int)) [(2 : Nat)] (8 : Int)) [(3 : Nat)] (16 : Int) [(1 : Nat)]))).tmod (2 : Int) == (1 : Int), true), ((IntKind.i64.wrap (m.tdiv (upd (upd (upd (upd (fun is => (0 : Int)) [(0 : Nat)] (1 : Int)) [(1 : Nat)] (2 : Int)) [(2 : Nat)] (8 : Int)) [(3 : Nat)] (16 : Int) [(2 : Nat)]))).tmod (2 : Int) == (1 : Int), true), ((IntKind.i64.wrap (m.tdiv (upd (upd (upd (upd (fun is => (0 : Int)) [(0 : Nat)] (1 : Int)) [(1 : Nat)] (2 : Int)) [(2 : Nat)] (8 : Int)) [(3 : Nat)] (16 : Int) [(3 : Nat)]))).tmod (2 : Int) == (1 : Int), false)] ∧ wordsR m = [] ++ upd (upd (upd (upd (fun is => []) [(0 : Nat)] [(101 : UInt8), (100 : UInt8), (105 : UInt8), (116 : UInt8)]) [(1 : Nat)] [(116 : UInt8), (114 : UInt8), (97 : UInt8), (112 : UInt8)]) [(2 : Nat)] [(115 : UInt8), (111 : UInt8), (102 : UInt8), (116 : UInt8)]) [(3 : Nat)] [(108 : UInt8), (105 : UInt8), (116 : UInt8)] [(1 : Nat)] ++ [(43 : UInt8)] ++ upd (upd (upd (upd (fun is => []) [(0 : Nat)] [(101 : UInt8), (100 : UInt8), (105 : UInt8), (116 : UInt8)]) [(1 : Nat)] [(116 : UInt8), (114 : UInt8), (97 : UInt8), (112 : UInt8)]) [(2 : Nat)] [(115 : UInt8), (111 : UInt8), (102 : UInt8), (116 : UInt8)]) [(3 : Nat)] [(108 : UInt8), (105 : UInt8), (116 : UInt8)] [(2 : Nat)] ∧ True) := by kernel_rfl
theorem rwordsI_p7 (m : Int) :
    isEnd (evTill Tryd.prog [] 300 (99) 900 34 [.code (bodyOf Tryd.f34)] (envOf [vN m] Tryd.f34.ntmps) ([]) ⟨[.t, .t, .t, .t, .t, .t, .s false, .t, .t, .t, .t, .t, .t, .s true, .f, .t, .t, .t, .t, .t, .t, .t, .t, .t, .t, .s true, .t, .t, .t, .t, .t, .t, .t, .t, .t, .t, .t, .t, .s true, .t, .t, .t, .t, .t, .t, .f, .f], 80⟩) (endP ([]) (vS (wordsR m)) [] 110) =
    (OkL [((IntKind.i64.wrap (m.tdiv (upd (upd (upd (upd (fun is => (0 : Int)) [(0 : Nat)] (1 : Int)) [(1 : Nat)] (2 : Int)) [(2 : Nat)] (8 : Int)) [(3 : Nat)] (16 : Int) [(0 : Nat)]))).tmod (2 : Int) == (1 : Int), false), ((IntKind.i64.wrap (m.tdiv (upd (upd (upd (upd (fun is => (0 : Int)) [(0 : Nat)] (1 : Int)) [(1 : Nat)] (2 : Int)) [(2 : Nat)] (8 : Int)) [(3 : Nat)] (16 : Int) [(1 : Nat)]))).tmod (2 : Int) == (1 : Int), true), ((IntKind.i64.wrap (m.tdiv (upd (upd (upd (upd (fun is => (0 : Int)) [(0 : Nat)] (1 : Int)) [(1 : Nat)] (2 : Int)) [(2 : Nat)] (8 : Int)) [(3 : Nat)] (16 : Int) [(2 : Nat)]))).tmod (2 : Int) == (1 : Int), true), ((IntKind.i64.wrap (m.tdiv (upd (upd (upd (upd (fun is => (0 : Int)) [(0 : Nat)] (1 : Int)) [(1 : Nat)] (2 : Int)) [(2 : Nat)] (8 : Int)) [(3 : Nat)] (16 : Int) [(3 : Nat)]))).tmod (2 : Int) == (1 : Int), true)] ∧ wordsR m = [] ++ upd (upd (upd (upd (fun is => []) [(0 : Nat)] [(101 : UInt8), (100 : UInt8), (105 : UInt8), (116 : UInt8)]) [(1 : Nat)] [(116 : UInt8), (114 : UInt8), (97 : UInt8), (112 : UInt8)]) [(2 : Nat)] [(115 : UInt8), (111 : UInt8), (102 : UInt8), (116 : UInt8)]) [(3 : Nat)] [(108 : UInt8), (105 : UInt8), (116 : UInt8)] [(1 : Nat)] ++ [(43 : UInt8)] ++ upd (upd (upd (upd (fun is => []) [(0 : Nat)] [(101 : UInt8), (100 : UInt8), (105 : UInt8), (116 : UInt8)]) [(1 : Nat)] [(116 : UInt8), (114 : UInt8), (97 : UInt8), (112 : UInt8)]) [(2 : Nat)] [(115 : UInt8), (111 : UInt8), (102 : UInt8), (116 : UInt8)]) [(3 : Nat)] [(108 : UInt8), (105 : UInt8), (116 : UInt8)] [(2 : Nat)] ++ [(43 : UInt8)] ++ upd (upd (upd (upd (fun is => []) [(0 : Nat)] [(101 : UInt8), (100 : UInt8), (105 : UInt8), (116 : UInt8)]) [(1 : Nat)] [(116 : UInt8), (114 : UInt8), (97 : UInt8), (112 : UInt8)]) [(2 : Nat)] [(115 : UInt8), (111 : UInt8), (102 : UInt8), (116 : UInt8)]) [(3 : Nat)] [(108 : UInt8), (105 : UInt8), (116 : UInt8)] [(3 : Nat)] ∧ True) := by kernel_rfl
theorem rwordsI_p8 (m : Int) :
    isEnd (evTill Tryd.prog [] 300 (99) 900 34 [.code (bodyOf Tryd.f34)] (envOf [vN m] Tryd.f34.ntmps) ([]) ⟨[.t, .t, .t, .t, .t, .t, .s true, .f, .t, .t, .t, .t, .t, .t, .t, .t, .t, .t, .s false, .t, .t, .t, .t, .t, .t, .s false, .t, .t, .t, .t, .t, .t, .s false, .f, .f], 80⟩) (endP ([]) (vS (wordsR m)) [] 110) =
    (OkL [((IntKind.i64.wrap (m.tdiv (upd (upd (upd (upd (fun is => (0 : Int)) [(0 : Nat)] (1 : Int)) [(1 : Nat)] (2 : Int)) [(2 : Nat)] (8 : Int)) [(3 : Nat)] (16 : Int) [(0 : Nat)]))).tmod (2 : Int) == (1 : Int), true), ((IntKind.i64.wrap (m.tdiv (upd (upd (upd (upd (fun is => (0 : Int)) [(0 : Nat)] (1 : Int)) [(1 : Nat)] (2 : Int)) [(2 : Nat)] (8 : Int)) [(3 : Nat)] (16 : Int) [(1 : Nat)]))).tmod (2 : Int) == (1 : Int), false), ((IntKind.i64.wrap (m.tdiv (upd (upd (upd (upd (fun is => (0 : Int)) [(0 : Nat)] (1 : Int)) [(1 : Nat)] (2 : Int)) [(2 : Nat)] (8 : Int)) [(3 : Nat)] (16 : Int) [(2 : Nat)]))).tmod (2 : Int) == (1 : Int), false), ((IntKind.i64.wrap (m.tdiv (upd (upd (upd (upd (fun is => (0 : Int)) [(0 : Nat)] (1 : Int)) [(1 : Nat)] (2 : Int)) [(2 : Nat)] (8 : Int)) [(3 : Nat)] (16 : Int) [(3 : Nat)]))).tmod (2 : Int) == (1 : Int), false)] ∧ wordsR m = [] ++ upd (upd (upd (upd (fun is => []) [(0 : Nat)] [(101 : UInt8), (100 : UInt8), (105 : UInt8), (116 : UInt8)]) [(1 : Nat)] [(116 : UInt8), (114 : UInt8), (97 : UInt8), (112 : UInt8)]) [(2 : Nat)] [(115 : UInt8), (111 : UInt8), (102 : UInt8), (116 : UInt8)]) [(3 : Nat)] [(108 : UInt8), (105 : UInt8), (116 : UInt8)] [(0 : Nat)] ∧ True) := by kernel_rfl
theorem rwordsI_p9 (m : Int) :
    isEnd (evTill Tryd.prog [] 300 (99) 900 34 [.code (bodyOf Tryd.f34)] (envOf [vN m] Tryd.f34.ntmps) ([]) ⟨[.t, .t, .t, .t, .t, .t, .s true, .f, .t, .t, .t, .t, .t, .t, .t, .t, .t, .t, .s false, .t, .t, .t, .t, .t, .t, .s false, .t, .t, .t, .t, .t, .t, .s true, .t, .t, .t, .t, .t, .t, .f, .f], 80⟩) (endP ([]) (vS (wordsR m)) [] 110) =
    (OkL [((IntKind.i64.wrap (m.tdiv (upd (upd (upd (upd (fun is => (0 : Int)) [(0 : Nat)] (1 : Int)) [(1 : Nat)] (2 : Int)) [(2 : Nat)] (8 : Int)) [(3 : Nat)] (16 : Int) [(0 : Nat)]))).tmod (2 : Int) == (1 : Int), true), ((IntKind.i64.wrap (m.tdiv (upd (upd (upd (upd (fun is => (0 : Int)) [(0 : Nat)] (1 : Int)) [(1 : Nat)] (2 : Int)) [(2 : Nat)] (8 : Int)) [(3 : Nat)] (16 : Int) [(1 : Nat)]))).tmod (2 : Int) == (1 : Int), false), ((IntKind.i64.wrap (m.tdiv (upd (upd (upd (upd (fun is => (0 : Int)) [(0 : Nat)] (1 : Int)) [(1 : Nat)] (2 : Int)) [(2 : Nat)] (8 : Int)) [(3 : Nat)] (16 : Int) [(2 : Nat)]))).tmod (2 : Int) == (1 : Int), false), ((IntKind.i64.wrap (m.tdiv (upd (upd (upd (upd (fun is => (0 : Int)) [(0 : Nat)] (1 : Int)) [(1 : Nat)] (2 : Int)) [(2 : Nat)] (8 : Int)) [(3 : Nat)] (16 : Int) [(3 : Nat)]))).tmod (2 : Int) == (1 : Int), true)] ∧ wordsR m = [] ++ upd (upd (upd (upd (fun is => []) [(0 : Nat)] [(101 : UInt8), (100 : UInt8), (105 : UInt8), (116 : UInt8)]) [(1 : Nat)] [(116 : UInt8), (114 : UInt8), (97 : UInt8), (112 : UInt8)]) [(2 : Nat)] [(115 : UInt8), (111 : UInt8), (102 : UInt8), (116 : UInt8)]) [(3 : Nat)] [(108 : UInt8), (105 : UInt8), (116 : UInt8)] [(0 : Nat)] ++ [(43 : UInt8)] ++ upd (upd (upd (upd (fun is => []) [(0 : Nat)] [(101 : UInt8), (100 : UInt8), (105 : UInt8), (116 : UInt8)]) [(1 : Nat)] [(116 : UInt8), (114 : UInt8), (97 : UInt8), (112 : UInt8)]) [(2 : Nat)] [(115 : UInt8), (111 : UInt8), (102 : UInt8), (116 : UInt8)]) [(3 : Nat)] [(108 : UInt8), (105 : UInt8), (116 : UInt8)] [(3 : Nat)] ∧ True) := by kernel_rfl
theorem rwordsI_p10 (m : Int) :
    isEnd (evTill Tryd.prog [] 300 (99) 900 34 [.code (bodyOf Tryd.f34)] (envOf [vN m] Tryd.f34.ntmps) ([]) ⟨[.t, .t, .t, .t, .t, .t, .s true, .f, .t, .t, .t, .t, .t, .t, .t, .t, .t, .t, .s false, .t, .t, .t, .t, .t, .t, .s true, .t, .t, .t, .t, .t, .t, .t, .t, .t, .t, .t, .t, .s false, .f, .f], 80⟩) (endP ([]) (vS (wordsR m)) [] 110) =
    (OkL [((IntKind.i64.wrap (m.tdiv (upd (upd (upd (upd (fun is => (0 : Int)) [(0 : Nat)] (1 : Int)) [(1 : Nat)] (2 : Int)) [(2 : Nat)] (8 : Int)) [(3 : Nat)] (16 : Int) [(0 : Nat)]))).tmod (2 : Int) == (1 : Int), true), ((IntKind.i64.wrap (m.tdiv (upd (upd (upd (upd (fun is => (0 : Int)) [(0 : Nat)] (1 : Int)) [(1 : Nat)] (2 : Int)) [(2 : Nat)] (8 : Int)) [(3 : Nat)] (16 : Int) [(1 : Nat)]))).tmod (2 : Int) == (1 : Int), false), ((IntKind.i64.wrap (m.tdiv (upd (upd (upd (upd (fun is => (0 : Int)) [(0 : Nat)] (1 : Int)) [(1 : Nat)] (2 : Int)) [(2 : Nat)] (8 : Int)) [(3 : Nat)] (16 : Int) [(2 : Nat)]))).tmod (2 : Int) == (1 : Int), true), ((IntKind.i64.wrap (m.tdiv (upd (upd (upd (upd (fun is => (0 : Int)) [(0 : Nat)] (1 : Int)) [(1 : Nat)] (2 : Int)) [(2 : Nat)] (8 : Int)) [(3 : Nat)] (16 : Int) [(3 : Nat)]))).tmod (2 : Int) == (1 : Int), false)] ∧ wordsR m = [] ++ upd (upd (upd (upd (fun is => []) [(0 : Nat)] [(101 : UInt8), (100 : UInt8), (105 : UInt8), (116 : UInt8)]) [(1 : Nat)] [(116 : UInt8), (114 : UInt8), (97 : UInt8), (112 : UInt8)]) [(2 : Nat)] [(115 : UInt8), (111 : UInt8), (102 : UInt8), (116 : UInt8)]) [(3 : Nat)] [(108 : UInt8), (105 : UInt8), (116 : UInt8)] [(0 : Nat)] ++ [(43 : UInt8)] ++ upd (upd (upd (upd (fun is => []) [(0 : Nat)] [(101 : UInt8), (100 : UInt8), (105 : UInt8), (116 : UInt8)]) [(1 : Nat)] [(116 : UInt8), (114 : UInt8), (97 : UInt8), (112 : UInt8)]) [(2 : Nat)] [(115 : UInt8), (111 : UInt8), (102 : UInt8), (116 : UInt8)]) [(3 : Nat)] [(108 : UInt8), (105 : UInt8), (116 : UInt8)] [(2 : Nat)] ∧ True) := by kernel_rfl
theorem rwordsI_p11 (m : Int) :
    isEnd (evTill Tryd.prog [] 300 (99) 900 34 [.code (bodyOf Tryd.f34)] (envOf [vN m] Tryd.f34.ntmps) ([]) ⟨[.t, .t, .t, .t, .t, .t, .s true, .f, .t, .t, .t, .t, .t, .t, .t, .t, .t, .t, .s false, .t, .t, .t, .t, .t, .t, .s true, .t, .t, .t, .t, .t, .t, .t, .t, .t, .t, .t, .t, .s true, .t, .t, .t, .t, .t, .t, .f, .f], 80⟩) (endP ([]) (vS (wordsR m)) [] 110) =
    (OkL [((IntKind.i64.wrap (m.tdiv (upd (upd (upd (upd (fun is => (0 : Int)) [(0 : Nat)] (1 : Int)) [(1 : Nat)] (2 : Int)) [(2 : Nat)] (8 : Int)) [(3 : Nat)] (16 : Int) [(0 : Nat)]))).tmod (2 : Int) == (1 : Int), true), ((IntKind.i64.wrap (m.tdiv (upd (upd (upd (upd (fun is => (0 : Int)) [(0 : Nat)] (1 : Int)) [(1 : Nat)] (2 : Int)) [(2 : Nat)] (8 : Int)) [(3 : Nat)] (16 : Int) [(1 : Nat)]))).tmod (2 : Int) == (1 : Int), false), ((IntKind.i64.wrap (m.tdiv (upd (upd (upd (upd (fun is => (0 : Int)) [(0 : Nat)] (1 : Int)) [(1 : Nat)] (2 : Int)) [(2 : Nat)] (8 : Int)) [(3 : Nat)] (16 : Int) [(2 : Nat)]))).tmod (2 : Int) == (1 : Int), true), ((IntKind.i64.wrap (m.tdiv (upd (upd (upd (upd (fun is => (0 : Int)) [(0 : Nat)] (1 : Int)) [(1 : Nat)] (2 : Int)) [(2 : Nat)] (8 : Int)) [(3 : Nat)] (16 : Int) [(3 : Nat)]))).tmod (2 : Int) == (1 : Int), true)] ∧ wordsR m = [] ++ upd (upd (upd (upd (fun is => []) [(0 : Nat)] [(101 : UInt8), (100 : UInt8), (105 : UInt8), (116 : UInt8)]) [(1 : Nat)] [(116 : UInt8), (114 : UInt8), (97 : UInt8), (112 : UInt8)]) [(2 : Nat)] [(115 : UInt8), (111 : UInt8), (102 : UInt8), (116 : UInt8)]) [(3 : Nat)] [(108 : UInt8), (105 : UInt8), (116 : UInt8)] [(0 : Nat)] ++ [(43 : UInt8)] ++ upd (upd (upd (upd (fun is => []) [(0 : Nat)] [(101 : UInt8), (100 : UInt8), (105 : UInt8), (116 : UInt8)]) [(1 : Nat)] [(116 : UInt8), (114 : UInt8), (97 : UInt8), (112 : UInt8)]) [(2 : Nat)] [(115 : UInt8), (111 : UInt8), (102 : UInt8), (116 : UInt8)]) [(3 : Nat)] [(108 : UInt8), (105 : UInt8), (116 : UInt8)] [(2 : Nat)] ++ [(43 : UInt8)] ++ upd (upd (upd (upd (fun is => []) [(0 : Nat)] [(101 : UInt8), (100 : UInt8), (105 : UInt8), (116 : UInt8)]) [(1 : Nat)] [(116 : UInt8), (114 : UInt8), (97 : UInt8), (112 : UInt8)]) [(2 : Nat)] [(115 : UInt8), (111 : UInt8), (102 : UInt8), (116 : UInt8)]) [(3 : Nat)] [(108 : UInt8), (105 : UInt8), (116 : UInt8)] [(3 : Nat)] ∧ True) := by kernel_rfl
theorem rwordsI_p12 (m : Int) :
    isEnd (evTill Tryd.prog [] 300 (99) 900 34 [.code (bodyOf Tryd.f34)] (envOf [vN m] Tryd.f34.ntmps) ([]) ⟨[.t, .t, .t, .t, .t, .t, .s true, .f, .t, .t, .t, .t, .t, .t, .t, .t, .t, .t, .s true, .t, .t, .t, .t, .t, .t, .t, .t, .t, .t, .t, .t, .s false, .t, .t, .t, .t, .t, .t, .s false, .f, .f], 80⟩) (endP ([]) (vS (wordsR m)) [] 110) =
    (OkL [((IntKind.i64.wrap (m.tdiv (upd (upd (upd (upd (fun is => (0 : Int)) [(0 : Nat)] (1 : Int)) [(1 : Nat)] (2 : Int)) [(2 : Nat)] (8 : Int)) [(3 : Nat)] (16 : Int) [(0 : Nat)]))).tmod (2 : Int) == (1 : Int), true), ((IntKind.i64.wrap (m.tdiv (upd (upd (upd (upd (fun is => (0 : Int)) [(0 : Nat)] (1 : Int)) [(1 : Nat)] (2 : Int)) [(2 : Nat)] (8 : Int)) [(3 : Nat)] (16 : Int) [(1 : Nat)]))).tmod (2 : Int) == (1 : Int), true), ((IntKind.i64.wrap (m.tdiv (upd (upd (upd (upd (fun is => (0 : Int)) [(0 : Nat)] (1 : Int)) [(1 : Nat)] (2 : Int)) [(2 : Nat)] (8 : Int)) [(3 : Nat)] (16 : Int) [(2 : Nat)]))).tmod (2 : Int) == (1 : Int), false), ((IntKind.i64.wrap (m.tdiv (upd (upd (upd (upd (fun is => (0 : Int)) [(0 : Nat)] (1 : Int)) [(1 : Nat)] (2 : Int)) [(2 : Nat)] (8 : Int)) [(3 : Nat)] (16 : Int) [(3 : Nat)]))).tmod (2 : Int) == (1 : Int), false)] ∧ wordsR m = [] ++ upd (upd (upd (upd (fun is => []) [(0 : Nat)] [(101 : UInt8), (100 : UInt8), (105 : UInt8), (116 : UInt8)]) [(1 : Nat)] [(116 : UInt8), (114 : UInt8), (97 : UInt8), (112 : UInt8)]) [(2 : Nat)] [(115 : UInt8), (111 : UInt8), (102 : UInt8), (116 : UInt8)]) [(3 : Nat)] [(108 : UInt8), (105 : UInt8), (116 : UInt8)] [(0 : Nat)] ++ [(43 : UInt8)] ++ upd (upd (upd (upd (fun is => []) [(0 : Nat)] [(101 : UInt8), (100 : UInt8), (105 : UInt8), (116 : UInt8)]) [(1 : Nat)] [(116 : UInt8), (114 : UInt8), (97 : UInt8), (112 : UInt8)]) [(2 : Nat)] [(115 : UInt8), (111 : UInt8), (102 : UInt8), (116 : UInt8)]) [(3 : Nat)] [(108 : UInt8), (105 : UInt8), (116 : UInt8)] [(1 : Nat)] ∧ True) := by kernel_rfl
theorem rwordsI_p13 (m : Int) :
    isEnd (evTill Tryd.prog [] 300 (99) 900 34 [.code (bodyOf Tryd.f34)] (envOf [vN m] Tryd.f34.ntmps) ([]) ⟨[.t, .t, .t, .t, .t, .t, .s true, .f, .t, .t, .t, .t, .t, .t, .t, .t, .t, .t, .s true, .t, .t, .t, .t, .t, .t, .t, .t, .t, .t, .t, .t, .s false, .t, .t, .t, .t, .t, .t, .s true, .t, .t, .t, .t, .t, .t, .f, .f], 80⟩) (endP ([]) (vS (wordsR m)) [] 110) =
    (OkL [((IntKind.i64.wrap (m.tdiv (upd (upd (upd (upd (fun is => (0 : Int)) [(0 : Nat)] (1 : Int)) [(1 : Nat)] (2 : Int)) [(2 : Nat)] (8 : Int)) [(3 : Nat)] (16 : Int) [(0 : Nat)]))).tmod (2 : Int) == (1 : Int), true), ((IntKind.i64.wrap (m.tdiv (upd (upd (upd (upd (fun is => (0 : Int)) [(0 : Nat)] (1 : Int)) [(1 : Nat)] (2 : Int)) [(2 : Nat)] (8 : Int)) [(3 : Nat)] (16 : Int) [(1 : Nat)]))).tmod (2 : Int) == (1 : Int), true), ((IntKind.i64.wrap (m.tdiv (upd (upd (upd (upd (fun is => (0 : Int)) [(0 : Nat)] (1 : Int)) [(1 : Nat)] (2 : Int)) [(2 : Nat)] (8 : Int)) [(3 : Nat)] (16 : Int) [(2 : Nat)]))).tmod (2 : Int) == (1 : Int), false), ((IntKind.i64.wrap (m.tdiv (upd (upd (upd (upd (fun is => (0 : Int)) [(0 : Nat)] (1 : Int)) [(1 : Nat)] (2 : Int)) [(2 : Nat)] (8 : Int)) [(3 : Nat)] (16 : Int) [(3 : Nat)]))).tmod (2 : Int) == (1 : Int), true)] ∧ wordsR m = [] ++ upd (upd (upd (upd (fun is => []) [(0 : Nat)] [(101 : UInt8), (100 : UInt8), (105 : UInt8), (116 : UInt8)]) [(1 : Nat)] [(116 : UInt8), (114 : UInt8), (97 : UInt8), (112 : UInt8)]) [(2 : Nat)] [(115 : UInt8), (111 : UInt8), (102 : UInt8), (116 : UInt8)]) [(3 : Nat)] [(108 : UInt8), (105 : UInt8), (116 : UInt8)] [(0 : Nat)] ++ [(43 : UInt8)] ++ upd (upd (upd (upd (fun is => []) [(0 : Nat)] [(101 : UInt8), (100 : UInt8), (105 : UInt8), (116 : UInt8)]) [(1 : Nat)] [(116 : UInt8), (114 : UInt8), (97 : UInt8), (112 : UInt8)]) [(2 : Nat)] [(115 : UInt8), (111 : UInt8), (102 : UInt8), (116 : UInt8)]) [(3 : Nat)] [(108 : UInt8), (105 : UInt8), (116 : UInt8)] [(1 : Nat)] ++ [(43 : UInt8)] ++ upd (upd (upd (upd (fun is => []) [(0 : Nat)] [(101 : UInt8), (100 : UInt8), (105 : UInt8), (116 : UInt8)]) [(1 : Nat)] [(116 : UInt8), (114 : UInt8), (97 : UInt8), (112 : UInt8)]) [(2 : Nat)] [(115 : UInt8), (111 : UInt8), (102 : UInt8), (116 : UInt8)]) [(3 : Nat)] [(108 : UInt8), (105 : UInt8), (116 : UInt8)] [(3 : Nat)] ∧ True) := by kernel_rfl
theorem rwordsI_p14 (m : Int) :
    isEnd (evTill Tryd.prog [] 300 (99) 900 34 [.code (bodyOf Tryd.f34)] (envOf [vN m] Tryd.f34.ntmps) ([]) ⟨[.t, .t, .t, .t, .t, .t, .s true, .f, .t, .t, .t, .t, .t, .t, .t, .t, .t, .t, .s true, .t, .t, .t, .t, .t, .t, .t, .t, .t, .t, .t, .t, .s true, .t, .t, .t, .t, .t, .t, .t, .t, .t, .t, .t, .t, .s false, .f, .f], 80⟩) (endP ([]) (vS (wordsR m)) [] 110) =
    (OkL [((IntKind.i64.wrap (m.tdiv (upd (upd (upd (upd (fun is => (0 : Int)) [(0 : Nat)] (1 : Int)) [(1 : Nat)] (2 : Int)) [(2 : Nat)] (8 : Int)) [(3 : Nat)] (16 : Int) [(0 : Nat)]))).tmod (2 : Int) == (1 : Int), true), ((IntKind.i64.wrap (m.tdiv (upd (upd (upd (upd (fun is => (0 : Int)) [(0 : Nat)] (1 : Int)) [(1 : Nat)] (2 : Int)) [(2 : Nat)] (8 : Int)) [(3 : Nat)] (16 : Int) [(1 : Nat)]))).tmod (2 : Int) == (1 : Int), true), ((IntKind.i64.wrap (m.tdiv (upd (upd (upd (upd (fun is => (0 : Int)) [(0 : Nat)] (1 : Int)) [(1 : Nat)] (2 : Int)) [(2 : Nat)] (8 : Int)) [(3 : Nat)] (16 : Int) [(2 : Nat)]))).tmod (2 : Int) == (1 : Int), true), ((IntKind.i64.wrap (m.tdiv (upd (upd (upd (upd (fun is => (0 : Int)) [(0 : Nat)] (1 : Int)) [(1 : Nat)] (2 : Int)) [(2 : Nat)] (8 : Int)) [(3 : Nat)] (16 : Int) [(3 : Nat)]))).tmod (2 : Int) == (1 : Int), false)] ∧ wordsR m = [] ++ upd (upd (upd (upd (fun is => []) [(0 : Nat)] [(101 : UInt8), (100 : UInt8), (105 : UInt8), (116 : UInt8)]) [(1 : Nat)] [(116 : UInt8), (114 : UInt8), (97 : UInt8), (112 : UInt8)]) [(2 : Nat)] [(115 : UInt8), (111 : UInt8), (102 : UInt8), (116 : UInt8)]) [(3 : Nat)] [(108 : UInt8), (105 : UInt8), (116 : UInt8)] [(0 : Nat)] ++ [(43 : UInt8)] ++ upd (upd (upd (upd (fun is => []) [(0 : Nat)] [(101 : UInt8), (100 : UInt8), (105 : UInt8), (116 : UInt8)]) [(1 : Nat)] [(116 : UInt8), (114 : UInt8), (97 : UInt8), (112 : UInt8)]) [(2 : Nat)] [(115 : UInt8), (111 : UInt8), (102 : UInt8), (116 : UInt8)]) [(3 : Nat)] [(108 : UInt8), (105 : UInt8), (116 : UInt8)] [(1 : Nat)] ++ [(43 : UInt8)] ++ upd (upd (upd (upd (fun is => []) [(0 : Nat)] [(101 : UInt8), (100 : UInt8), (105 : UInt8), (116 : UInt8)]) [(1 : Nat)] [(116 : UInt8), (114 : UInt8), (97 : UInt8), (112 : UInt8)]) [(2 : Nat)] [(115 : UInt8), (111 : UInt8), (102 : UInt8), (116 : UInt8)]) [(3 : Nat)] [(108 : UInt8), (105 : UInt8), (116 : UInt8)] [(2 : Nat)] ∧ True) := by kernel_rfl
theorem rwordsI_p15 (m : Int) :
    isEnd (evTill Tryd.prog [] 300 (99) 900 34 [.code (bodyOf Tryd.f34)] (envOf [vN m] Tryd.f34.ntmps) ([]) ⟨[.t, .t, .t, .t, .t, .t, .s true, .f, .t, .t, .t, .t, .t, .t, .t, .t, .t, .t, .s true, .t, .t, .t, .t, .t, .t, .t, .t, .t, .t, .t, .t, .s true, .t, .t, .t, .t, .t, .t, .t, .t, .t, .t, .t, .t, .s true, .t, .t, .t, .t, .t, .t, .f, .f], 80⟩) (endP ([]) (vS (wordsR m)) [] 110) =
    (OkL [((IntKind.i64.wrap (m.tdiv (upd (upd (upd (upd (fun is => (0 : Int)) [(0 : Nat)] (1 : Int)) [(1 : Nat)] (2 : Int)) [(2 : Nat)] (8 : Int)) [(3 : Nat)] (16 : Int) [(0 : Nat)]))).tmod (2 : Int) == (1 : Int), true), ((IntKind.i64.wrap (m.tdiv (upd (upd (upd (upd (fun is => (0 : Int)) [(0 : Nat)] (1 : Int)) [(1 : Nat)] (2 : Int)) [(2 : Nat)] (8 : Int)) [(3 : Nat)] (16 : Int) [(1 : Nat)]))).tmod (2 : Int) == (1 : Int), true), ((IntKind.i64.wrap (m.tdiv (upd (upd (upd (upd (fun is => (0 : Int)) [(0 : Nat)] (1 : Int)) [(1 : Nat)] (2 : Int)) [(2 : Nat)] (8 : Int)) [(3 : Nat)] (16 : Int) [(2 : Nat)]))).tmod (2 : Int) == (1 : Int), true), ((IntKind.i64.wrap (m.tdiv (upd (upd (upd (upd (fun is => (0 : Int)) [(0 : Nat)] (1 : Int)) [(1 : Nat)] (2 : Int)) [(2 : Nat)] (8 : Int)) [(3 : Nat)] (16 : Int) [(3 : Nat)]))).tmod (2 : Int) == (1 : Int), true)] ∧ wordsR m = [] ++ upd (upd (upd (upd (fun is => []) [(0 : Nat)] [(101 : UInt8), (100 : UInt8), (105 : UInt8), (116 : UInt8)]) [(1 : Nat)] [(116 : UInt8), (114 : UInt8), (97 : UInt8), (112 : UInt8)]) [(2 : Nat)] [(115 : UInt8), (111 : UInt8), (102 : UInt8), (116 : UInt8)]) [(3 : Nat)] [(108 : UInt8), (105 : UInt8), (116 : UInt8)] [(0 : Nat)] ++ [(43 : UInt8)] ++ upd (upd (upd (upd (fun is => []) [(0 : Nat)] [(101 : UInt8), (100 : UInt8), (105 : UInt8), (116 : UInt8)]) [(1 : Nat)] [(116 : UInt8), (114 : UInt8), (97 : UInt8), (112 : UInt8)]) [(2 : Nat)] [(115 : UInt8), (111 : UInt8), (102 : UInt8), (116 : UInt8)]) [(3 : Nat)] [(108 : UInt8), (105 : UInt8), (116 : UInt8)] [(1 : Nat)] ++ [(43 : UInt8)] ++ upd (upd (upd (upd (fun is => []) [(0 : Nat)] [(101 : UInt8), (100 : UInt8), (105 : UInt8), (116 : UInt8)]) [(1 : Nat)] [(116 : UInt8), (114 : UInt8), (97 : UInt8), (112 : UInt8)]) [(2 : Nat)] [(115 : UInt8), (111 : UInt8), (102 : UInt8), (116 : UInt8)]) [(3 : Nat)] [(108 : UInt8), (105 : UInt8), (116 : UInt8)] [(2 : Nat)] ++ [(43 : UInt8)] ++ upd (upd (upd (upd (fun is => []) [(0 : Nat)] [(101 : UInt8), (100 : UInt8), (105 : UInt8), (116 : UInt8)]) [(1 : Nat)] [(116 : UInt8), (114 : UInt8), (97 : UInt8), (112 : UInt8)]) [(2 : Nat)] [(115 : UInt8), (111 : UInt8), (102 : UInt8), (116 : UInt8)]) [(3 : Nat)] [(108 : UInt8), (105 : UInt8), (116 : UInt8)] [(3 : Nat)] ∧ True) := by kernel_rfl

set_option maxHeartbeats 4000000 in
theorem rwordsI (m : Int)  :
    RunsTo Tryd.prog 34 [.code (bodyOf Tryd.f34)] (envOf [vN m] Tryd.f34.ntmps) (Sx.look ([])) 80 (vS (wordsR m)) (Sx.look ([])) 110 := by
  refine bcase (c := ((IntKind.i64.wrap (m.tdiv (upd (upd (upd (upd (fun is => (0 : Int)) [(0 : Nat)] (1 : Int)) [(1 : Nat)] (2 : Int)) [(2 : Nat)] (8 : Int)) [(3 : Nat)] (16 : Int) [(0 : Nat)]))).tmod (2 : Int) == (1 : Int))) (fun gg0 => ?_) (fun gg0 => ?_)
  · refine bcase (c := ((IntKind.i64.wrap (m.tdiv (upd (upd (upd (upd (fun is => (0 : Int)) [(0 : Nat)] (1 : Int)) [(1 : Nat)] (2 : Int)) [(2 : Nat)] (8 : Int)) [(3 : Nat)] (16 : Int) [(1 : Nat)]))).tmod (2 : Int) == (1 : Int))) (fun gg1 => ?_) (fun gg1 => ?_)
    · refine bcase (c := ((IntKind.i64.wrap (m.tdiv (upd (upd (upd (upd (fun is => (0 : Int)) [(0 : Nat)] (1 : Int)) [(1 : Nat)] (2 : Int)) [(2 : Nat)] (8 : Int)) [(3 : Nat)] (16 : Int) [(2 : Nat)]))).tmod (2 : Int) == (1 : Int))) (fun gg2 => ?_) (fun gg2 => ?_)
      · refine bcase (c := ((IntKind.i64.wrap (m.tdiv (upd (upd (upd (upd (fun is => (0 : Int)) [(0 : Nat)] (1 : Int)) [(1 : Nat)] (2 : Int)) [(2 : Nat)] (8 : Int)) [(3 : Nat)] (16 : Int) [(3 : Nat)]))).tmod (2 : Int) == (1 : Int))) (fun gg3 => ?_) (fun gg3 => ?_)
        · refine runs_last baseO (Sx.Ends.of (rwordsI_p0 m) ⟨?oo, ?rr⟩) (by kernel_rfl) rfl (gtL (by decide)) (by decide)
          case oo =>
            refine (okc gg0 (okc gg1 (okc gg2 (okc gg3 okn))))
            all_goals first | rfl | (simp (disch := omega) only [SS] at *; omega) | (simp (disch := omega) only [SS] at *; done) | (simp_all; done)
          case rr =>
            simp only [SS] at *
            refine ⟨?_, trivial⟩
            simp [upd] at *
            simp [wordsR, addR, q2, wE, wT, wS, wL, wN, *]
        · refine runs_last baseO (Sx.Ends.of (rwordsI_p1 m) ⟨?oo, ?rr⟩) (by kernel_rfl) rfl (gtL (by decide)) (by decide)
          case oo =>
            refine (okc gg0 (okc gg1 (okc gg2 (okc gg3 okn))))
            all_goals first | rfl | (simp (disch := omega) only [SS] at *; omega) | (simp (disch := omega) only [SS] at *; done) | (simp_all; done)
          case rr =>
            simp only [SS] at *
            refine ⟨?_, trivial⟩
            simp [upd] at *
            simp [wordsR, addR, q2, wE, wT, wS, wL, wN, *]
      · refine bcase (c := ((IntKind.i64.wrap (m.tdiv (upd (upd (upd (upd (fun is => (0 : Int)) [(0 : Nat)] (1 : Int)) [(1 : Nat)] (2 : Int)) [(2 : Nat)] (8 : Int)) [(3 : Nat)] (16 : Int) [(3 : Nat)]))).tmod (2 : Int) == (1 : Int))) (fun gg3 => ?_) (fun gg3 => ?_)
        · refine runs_last baseO (Sx.Ends.of (rwordsI_p2 m) ⟨?oo, ?rr⟩) (by kernel_rfl) rfl (gtL (by decide)) (by decide)
          case oo =>
            refine (okc gg0 (okc gg1 (okc gg2 (okc gg3 okn))))
            all_goals first | rfl | (simp (disch := omega) only [SS] at *; omega) | (simp (disch := omega) only [SS] at *; done) | (simp_all; done)
          case rr =>
            simp only [SS] at *
            refine ⟨?_, trivial⟩
            simp [upd] at *
            simp [wordsR, addR, q2, wE, wT, wS, wL, wN, *]
        · refine runs_last baseO (Sx.Ends.of (rwordsI_p3 m) ⟨?oo, ?rr⟩) (by kernel_rfl) rfl (gtL (by decide)) (by decide)
          case oo =>
            refine (okc gg0 (okc gg1 (okc gg2 (okc gg3 okn))))
            all_goals first | rfl | (simp (disch := omega) only [SS] at *; omega) | (simp (disch := omega) only [SS] at *; done) | (simp_all; done)
          case rr =>
            simp only [SS] at *
            refine ⟨?_, trivial⟩
            simp [upd] at *
            simp [wordsR, addR, q2, wE, wT, wS, wL, wN, *]
    · refine bcase (c := ((IntKind.i64.wrap (m.tdiv (upd (upd (upd (upd (fun is => (0 : Int)) [(0 : Nat)] (1 : Int)) [(1 : Nat)] (2 : Int)) [(2 : Nat)] (8 : Int)) [(3 : Nat)] (16 : Int) [(2 : Nat)]))).tmod (2 : Int) == (1 : Int))) (fun gg2 => ?_) (fun gg2 => ?_)
      · refine bcase (c := ((IntKind.i64.wrap (m.tdiv (upd (upd (upd (upd (fun is => (0 : Int)) [(0 : Nat)] (1 : Int)) [(1 : Nat)] (2 : Int)) [(2 : Nat)] (8 : Int)) [(3 : Nat)] (16 : Int) [(3 : Nat)]))).tmod (2 : Int) == (1 : Int))) (fun gg3 => ?_) (fun gg3 => ?_)
        · refine runs_last baseO (Sx.Ends.of (rwordsI_p4 m) ⟨?oo, ?rr⟩) (by kernel_rfl) rfl (gtL (by decide)) (by decide)
          case oo =>
            refine (okc gg0 (okc gg1 (okc gg2 (okc gg3 okn))))
            all_goals first | rfl | (simp (disch := omega) only [SS] at *; omega) | (simp (disch := omega) only [SS] at *; done) | (simp_all; done)
          case rr =>
            simp only [SS] at *
            refine ⟨?_, trivial⟩
            simp [upd] at *
            simp [wordsR, addR, q2, wE, wT, wS, wL, wN, *]
        · refine runs_last baseO (Sx.Ends.of (rwordsI_p5 m) ⟨?oo, ?rr⟩) (by kernel_rfl) rfl (gtL (by decide)) (by decide)
          case oo =>
            refine (okc gg0 (okc gg1 (okc gg2 (okc gg3 okn))))
            all_goals first | rfl | (simp (disch := omega) only [SS] at *; omega) | (simp (disch := omega) only [SS] at *; done) | (simp_all; done)
          case rr =>
            simp only [SS] at *
            refine ⟨?_, trivial⟩
            simp [upd] at *
            simp [wordsR, addR, q2, wE, wT, wS, wL, wN, *]
      · refine bcase (c := ((IntKind.i64.wrap (m.tdiv (upd (upd (upd (upd (fun is => (0 : Int)) [(0 : Nat)] (1 : Int)) [(1 : Nat)] (2 : Int)) [(2 : Nat)] (8 : Int)) [(3 : Nat)] (16 : Int) [(3 : Nat)]))).tmod (2 : Int) == (1 : Int))) (fun gg3 => ?_) (fun gg3 => ?_)
        · refine runs_last baseO (Sx.Ends.of (rwordsI_p6 m) ⟨?oo, ?rr⟩) (by kernel_rfl) rfl (gtL (by decide)) (by decide)
          case oo =>
            refine (okc gg0 (okc gg1 (okc gg2 (okc gg3 okn))))
            all_goals first | rfl | (simp (disch := omega) only [SS] at *; omega) | (simp (disch := omega) only [SS] at *; done) | (simp_all; done)
          case rr =>
            simp only [SS] at *
            refine ⟨?_, trivial⟩
            simp [upd] at *
            simp [wordsR, addR, q2, wE, wT, wS, wL, wN, *]
        · refine runs_last baseO (Sx.Ends.of (rwordsI_p7 m) ⟨?oo, ?rr⟩) (by kernel_rfl) rfl (gtL (by decide)) (by decide)
          case oo =>
            refine (okc gg0 (okc gg1 (okc gg2 (okc gg3 okn))))
            all_goals first | rfl | (simp (disch := omega) only [SS] at *; omega) | (simp (disch := omega) only [SS] at *; done) | (simp_all; done)
          case rr =>
            simp only [SS] at *
            refine ⟨?_, trivial⟩
            simp [upd] at *
            simp [wordsR, addR, q2, wE, wT, wS, wL, wN, *]
  · refine bcase (c := ((IntKind.i64.wrap (m.tdiv (upd (upd (upd (upd (fun is => (0 : Int)) [(0 : Nat)] (1 : Int)) [(1 : Nat)] (2 : Int)) [(2 : Nat)] (8 : Int)) [(3 : Nat)] (16 : Int) [(1 : Nat)]))).tmod (2 : Int) == (1 : Int))) (fun gg1 => ?_) (fun gg1 => ?_)
    · refine bcase (c := ((IntKind.i64.wrap (m.tdiv (upd (upd (upd (upd (fun is => (0 : Int)) [(0 : Nat)] (1 : Int)) [(1 : Nat)] (2 : Int)) [(2 : Nat)] (8 : Int)) [(3 : Nat)] (16 : Int) [(2 : Nat)]))).tmod (2 : Int) == (1 : Int))) (fun gg2 => ?_) (fun gg2 => ?_)
      · refine bcase (c := ((IntKind.i64.wrap (m.tdiv (upd (upd (upd (upd (fun is => (0 : Int)) [(0 : Nat)] (1 : Int)) [(1 : Nat)] (2 : Int)) [(2 : Nat)] (8 : Int)) [(3 : Nat)] (16 : Int) [(3 : Nat)]))).tmod (2 : Int) == (1 : Int))) (fun gg3 => ?_) (fun gg3 => ?_)
        · refine runs_last baseO (Sx.Ends.of (rwordsI_p8 m) ⟨?oo, ?rr⟩) (by kernel_rfl) rfl (gtL (by decide)) (by decide)
          case oo =>
            refine (okc gg0 (okc gg1 (okc gg2 (okc gg3 okn))))
            all_goals first | rfl | (simp (disch := omega) only [SS] at *; omega) | (simp (disch := omega) only [SS] at *; done) | (simp_all; done)
          case rr =>
            simp only [SS] at *
            refine ⟨?_, trivial⟩
            simp [upd] at *
            simp [wordsR, addR, q2, wE, wT, wS, wL, wN, *]
        · refine runs_last baseO (Sx.Ends.of (rwordsI_p9 m) ⟨?oo, ?rr⟩) (by kernel_rfl) rfl (gtL (by decide)) (by decide)
          case oo =>
            refine (okc gg0 (okc gg1 (okc gg2 (okc gg3 okn))))
            all_goals first | rfl | (simp (disch := omega) only [SS] at *; omega) | (simp (disch := omega) only [SS] at *; done) | (simp_all; done)
          case rr =>
            simp only [SS] at *
            refine ⟨?_, trivial⟩
            simp [upd] at *
            simp [wordsR, addR, q2, wE, wT, wS, wL, wN, *]
      · refine bcase (c := ((IntKind.i64.wrap (m.tdiv (upd (upd (upd (upd (fun is => (0 : Int)) [(0 : Nat)] (1 : Int)) [(1 : Nat)] (2 : Int)) [(2 : Nat)] (8 : Int)) [(3 : Nat)] (16 : Int) [(3 : Nat)]))).tmod (2 : Int) == (1 : Int))) (fun gg3 => ?_) (fun gg3 => ?_)
        · refine runs_last baseO (Sx.Ends.of (rwordsI_p10 m) ⟨?oo, ?rr⟩) (by kernel_rfl) rfl (gtL (by decide)) (by decide)
          case oo =>
            refine (okc gg0 (okc gg1 (okc gg2 (okc gg3 okn))))
            all_goals first | rfl | (simp (disch := omega) only [SS] at *; omega) | (simp (disch := omega) only [SS] at *; done) | (simp_all; done)
          case rr =>
            simp only [SS] at *
            refine ⟨?_, trivial⟩
            simp [upd] at *
            simp [wordsR, addR, q2, wE, wT, wS, wL, wN, *]
        · refine runs_last baseO (Sx.Ends.of (rwordsI_p11 m) ⟨?oo, ?rr⟩) (by kernel_rfl) rfl (gtL (by decide)) (by decide)
          case oo =>
            refine (okc gg0 (okc gg1 (okc gg2 (okc gg3 okn))))
            all_goals first | rfl | (simp (disch := omega) only [SS] at *; omega) | (simp (disch := omega) only [SS] at *; done) | (simp_all; done)
          case rr =>
            simp only [SS] at *
            refine ⟨?_, trivial⟩
            simp [upd] at *
            simp [wordsR, addR, q2, wE, wT, wS, wL, wN, *]
    · refine bcase (c := ((IntKind.i64.wrap (m.tdiv (upd (upd (upd (upd (fun is => (0 : Int)) [(0 : Nat)] (1 : Int)) [(1 : Nat)] (2 : Int)) [(2 : Nat)] (8 : Int)) [(3 : Nat)] (16 : Int) [(2 : Nat)]))).tmod (2 : Int) == (1 : Int))) (fun gg2 => ?_) (fun gg2 => ?_)
      · refine bcase (c := ((IntKind.i64.wrap (m.tdiv (upd (upd (upd (upd (fun is => (0 : Int)) [(0 : Nat)] (1 : Int)) [(1 : Nat)] (2 : Int)) [(2 : Nat)] (8 : Int)) [(3 : Nat)] (16 : Int) [(3 : Nat)]))).tmod (2 : Int) == (1 : Int))) (fun gg3 => ?_) (fun gg3 => ?_)
        · refine runs_last baseO (Sx.Ends.of (rwordsI_p12 m) ⟨?oo, ?rr⟩) (by kernel_rfl) rfl (gtL (by decide)) (by decide)
          case oo =>
            refine (okc gg0 (okc gg1 (okc gg2 (okc gg3 okn))))
            all_goals first | rfl | (simp (disch := omega) only [SS] at *; omega) | (simp (disch := omega) only [SS] at *; done) | (simp_all; done)
          case rr =>
            simp only [SS] at *
            refine ⟨?_, trivial⟩
            simp [upd] at *
            simp [wordsR, addR, q2, wE, wT, wS, wL, wN, *]
        · refine runs_last baseO (Sx.Ends.of (rwordsI_p13 m) ⟨?oo, ?rr⟩) (by kernel_rfl) rfl (gtL (by decide)) (by decide)
          case oo =>
            refine (okc gg0 (okc gg1 (okc gg2 (okc gg3 okn))))
            all_goals first | rfl | (simp (disch := omega) only [SS] at *; omega) | (simp (disch := omega) only [SS] at *; done) | (simp_all; done)
          case rr =>
            simp only [SS] at *
            refine ⟨?_, trivial⟩
            simp [upd] at *
            simp [wordsR, addR, q2, wE, wT, wS, wL, wN, *]
      · refine bcase (c := ((IntKind.i64.wrap (m.tdiv (upd (upd (upd (upd (fun is => (0 : Int)) [(0 : Nat)] (1 : Int)) [(1 : Nat)] (2 : Int)) [(2 : Nat)] (8 : Int)) [(3 : Nat)] (16 : Int) [(3 : Nat)]))).tmod (2 : Int) == (1 : Int))) (fun gg3 => ?_) (fun gg3 => ?_)
        · refine runs_last baseO (Sx.Ends.of (rwordsI_p14 m) ⟨?oo, ?rr⟩) (by kernel_rfl) rfl (gtL (by decide)) (by decide)
          case oo =>
            refine (okc gg0 (okc gg1 (okc gg2 (okc gg3 okn))))
            all_goals first | rfl | (simp (disch := omega) only [SS] at *; omega) | (simp (disch := omega) only [SS] at *; done) | (simp_all; done)
          case rr =>
            simp only [SS] at *
            refine ⟨?_, trivial⟩
            simp [upd] at *
            simp [wordsR, addR, q2, wE, wT, wS, wL, wN, *]
        · refine runs_last baseO (Sx.Ends.of (rwordsI_p15 m) ⟨?oo, ?rr⟩) (by kernel_rfl) rfl (gtL (by decide)) (by decide)
          case oo =>
            refine (okc gg0 (okc gg1 (okc gg2 (okc gg3 okn))))
            all_goals first | rfl | (simp (disch := omega) only [SS] at *; omega) | (simp (disch := omega) only [SS] at *; done) | (simp_all; done)
          case rr =>
            simp only [SS] at *
            refine ⟨?_, trivial⟩
            simp [upd] at *
            simp [wordsR, addR, q2, wE, wT, wS, wL, wN, *]

def wordsPC : PC := { args := [.v (.vi .i64 0)], heap := [], gs := [], G := 25, tp := 223, n := 80, n' := 110, cond := fun e => true, v := fun e => vS (wordsC (eI e 0 [])), post := fun e => [] }
theorem words_pc : PC.Runs Tryd.prog 37 Tryd.f37 (bodyOf Tryd.f37) wordsPC := ⟨Tryd.func37, by kernel_rfl, (fun g hg => by cases hg), fun e H hc => wordsI (eI e 0 [])⟩
def rwordsPC : PC := { args := [.v (.vi .i64 0)], heap := [], gs := [], G := 25, tp := 223, n := 80, n' := 110, cond := fun e => true, v := fun e => vS (wordsR (eI e 0 [])), post := fun e => [] }
theorem rwords_pc : PC.Runs Tryd.prog 34 Tryd.f34 (bodyOf Tryd.f34) rwordsPC := ⟨Tryd.func34, by kernel_rfl, (fun g hg => by cases hg), fun e H hc => rwordsI (eI e 0 [])⟩
def sumsW : List (FuncId × Summ) := [(37, wordsPC.summ 50), (79, joinSumm)]
theorem baseW : Base0 Tryd.prog sumsW := ((baseO.cons Tryd.func79 (by kernel_rfl) joinSumm_ok).cons Tryd.func37 (by kernel_rfl) (PC.summ_ok words_pc gtop50))
theorem aliveI_p0 (u : Nat) :
    isEnd (evTill Tryd.prog sumsW 300 (99) 900 14 [.code (bodyOf Tryd.f14)] (envOf [] Tryd.f14.ntmps) ([]) ⟨[.f, .f, .t, .f, .f, .f, .f, .f, .t, .t, .t, .f, .t, .t, .t, .t, .f, .t, .t, .t, .f, .f, .t, .t, .f, .f, .t, .t, .t, .f, .t, .t, .t, .t, .f, .t, .t, .t, .f, .f, .f, .t, .t, .t, .t], 80⟩) (endP ([]) YES [] 160) =
    (OkL [] ∧ true = true ∧ True) := by kernel_rfl

set_option maxHeartbeats 4000000 in
theorem aliveI (u : Nat)  :
    RunsTo Tryd.prog 14 [.code (bodyOf Tryd.f14)] (envOf [] Tryd.f14.ntmps) (Sx.look ([])) 80 (YES) (Sx.look ([])) 160 := by
  exact runs_last baseW (Sx.Ends.of (aliveI_p0 u) ⟨okn, by first | rfl | simp_all | decide, trivial⟩) (by kernel_rfl) rfl (gtL (by decide)) (by decide)

def aliveC : PC := { args := [], heap := [], gs := [], G := 25, tp := 223, n := 80, n' := 160, cond := fun _ => true, v := fun _ => YES, post := fun _ => [] }
theorem alive_pc : PC.Runs Tryd.prog 14 Tryd.f14 (bodyOf Tryd.f14) aliveC := ⟨Tryd.func14, by kernel_rfl, (fun g hg => by cases hg), fun e H hc => aliveI 0⟩
end Go.Proofs.YtealbjkhjpmilaaDoor
