/- Codes: names: what the parts do. -/
import Derived.Test.YtealbjkhjpmilaaDoorVaC
import Derived.Test.YtealbjkhjpmilaaDoorVpC
set_option linter.unusedSimpArgs false
set_option linter.unusedVariables false
set_option maxRecDepth 100000
namespace Go.Proofs.YtealbjkhjpmilaaDoor
open Go.Sx

open DecR
def tabF (F : Ix → Int) : List Ent := [⟨20, false, none, 20, .ta 20 (.vi .u64 F)⟩]
theorem tdN (c k : Nat) : ((c : Int)).tdiv (k : Int) = ((c / k : Nat) : Int) := by rw [Int.tdiv_eq_ediv_of_nonneg (by omega)]; rfl
theorem tmN (c k : Nat) : ((c : Int)).tmod (k : Int) = ((c % k : Nat) : Int) := by rw [Int.tmod_eq_emod_of_nonneg (by omega)]; rfl
theorem wdI_p0 (c : Int) :
    isEnd (evTill Tryd.prog [] 300 (99) 900 95 [.code (bodyOf Tryd.f95)] (envOf [vN c] Tryd.f95.ntmps) ([] ++ ([])) ⟨[.s false, .s false, .s false, .s false, .s false, .s false, .s false, .s false], 80⟩) (endP ([]) (vS (wdC c)) ([]) 100) =
    (OkL [(c == (0 : Int), false), (c == (1 : Int), false), (c == (3 : Int), false), (c == (5 : Int), false), (c == (6 : Int), false), (c == (24 : Int), false), (c == (31 : Int), false), (c == (34 : Int), false)] ∧ wdC c = [] ∧ True) := by kernel_rfl
theorem wdI_p1 (c : Int) :
    isEnd (evTill Tryd.prog [] 300 (99) 900 95 [.code (bodyOf Tryd.f95)] (envOf [vN c] Tryd.f95.ntmps) ([] ++ ([])) ⟨[.s false, .s false, .s false, .s false, .s false, .s false, .s false, .s true], 80⟩) (endP ([]) (vS (wdC c)) ([]) 100) =
    (OkL [(c == (0 : Int), false), (c == (1 : Int), false), (c == (3 : Int), false), (c == (5 : Int), false), (c == (6 : Int), false), (c == (24 : Int), false), (c == (31 : Int), false), (c == (34 : Int), true)] ∧ wdC c = [(108 : UInt8), (105 : UInt8), (110 : UInt8), (101 : UInt8), (109 : UInt8), (111 : UInt8), (100 : UInt8), (101 : UInt8)] ∧ True) := by kernel_rfl
theorem wdI_p2 (c : Int) :
    isEnd (evTill Tryd.prog [] 300 (99) 900 95 [.code (bodyOf Tryd.f95)] (envOf [vN c] Tryd.f95.ntmps) ([] ++ ([])) ⟨[.s false, .s false, .s false, .s false, .s false, .s false, .s true], 80⟩) (endP ([]) (vS (wdC c)) ([]) 100) =
    (OkL [(c == (0 : Int), false), (c == (1 : Int), false), (c == (3 : Int), false), (c == (5 : Int), false), (c == (6 : Int), false), (c == (24 : Int), false), (c == (31 : Int), true)] ∧ wdC c = [(110 : UInt8), (97 : UInt8), (119 : UInt8), (115 : UInt8)] ∧ True) := by kernel_rfl
theorem wdI_p3 (c : Int) :
    isEnd (evTill Tryd.prog [] 300 (99) 900 95 [.code (bodyOf Tryd.f95)] (envOf [vN c] Tryd.f95.ntmps) ([] ++ ([])) ⟨[.s false, .s false, .s false, .s false, .s false, .s true], 80⟩) (endP ([]) (vS (wdC c)) ([]) 100) =
    (OkL [(c == (0 : Int), false), (c == (1 : Int), false), (c == (3 : Int), false), (c == (5 : Int), false), (c == (6 : Int), false), (c == (24 : Int), true)] ∧ wdC c = [(116 : UInt8), (116 : UInt8), (121 : UInt8), (112 : UInt8), (101 : UInt8)] ∧ True) := by kernel_rfl
theorem wdI_p4 (c : Int) :
    isEnd (evTill Tryd.prog [] 300 (99) 900 95 [.code (bodyOf Tryd.f95)] (envOf [vN c] Tryd.f95.ntmps) ([] ++ ([])) ⟨[.s false, .s false, .s false, .s false, .s true], 80⟩) (endP ([]) (vS (wdC c)) ([]) 100) =
    (OkL [(c == (0 : Int), false), (c == (1 : Int), false), (c == (3 : Int), false), (c == (5 : Int), false), (c == (6 : Int), true)] ∧ wdC c = [(109 : UInt8), (97 : UInt8), (114 : UInt8), (107 : UInt8)] ∧ True) := by kernel_rfl
theorem wdI_p5 (c : Int) :
    isEnd (evTill Tryd.prog [] 300 (99) 900 95 [.code (bodyOf Tryd.f95)] (envOf [vN c] Tryd.f95.ntmps) ([] ++ ([])) ⟨[.s false, .s false, .s false, .s true], 80⟩) (endP ([]) (vS (wdC c)) ([]) 100) =
    (OkL [(c == (0 : Int), false), (c == (1 : Int), false), (c == (3 : Int), false), (c == (5 : Int), true)] ∧ wdC c = [(115 : UInt8), (116 : UInt8), (97 : UInt8), (116 : UInt8), (117 : UInt8), (115 : UInt8)] ∧ True) := by kernel_rfl
theorem wdI_p6 (c : Int) :
    isEnd (evTill Tryd.prog [] 300 (99) 900 95 [.code (bodyOf Tryd.f95)] (envOf [vN c] Tryd.f95.ntmps) ([] ++ ([])) ⟨[.s false, .s false, .s true], 80⟩) (endP ([]) (vS (wdC c)) ([]) 100) =
    (OkL [(c == (0 : Int), false), (c == (1 : Int), false), (c == (3 : Int), true)] ∧ wdC c = [(115 : UInt8), (103 : UInt8), (97 : UInt8)] ∧ True) := by kernel_rfl
theorem wdI_p7 (c : Int) :
    isEnd (evTill Tryd.prog [] 300 (99) 900 95 [.code (bodyOf Tryd.f95)] (envOf [vN c] Tryd.f95.ntmps) ([] ++ ([])) ⟨[.s false, .s true], 80⟩) (endP ([]) (vS (wdC c)) ([]) 100) =
    (OkL [(c == (0 : Int), false), (c == (1 : Int), true)] ∧ wdC c = [(101 : UInt8), (99 : UInt8), (104 : UInt8), (111 : UInt8)] ∧ True) := by kernel_rfl
theorem wdI_p8 (c : Int) :
    isEnd (evTill Tryd.prog [] 300 (99) 900 95 [.code (bodyOf Tryd.f95)] (envOf [vN c] Tryd.f95.ntmps) ([] ++ ([])) ⟨[.s true], 80⟩) (endP ([]) (vS (wdC c)) ([]) 100) =
    (OkL [(c == (0 : Int), true)] ∧ wdC c = [(98 : UInt8), (105 : UInt8), (110 : UInt8), (97 : UInt8), (114 : UInt8), (121 : UInt8)] ∧ True) := by kernel_rfl

set_option maxHeartbeats 4000000 in
theorem wdI (c : Int)  :
    RunsTo Tryd.prog 95 [.code (bodyOf Tryd.f95)] (envOf [vN c] Tryd.f95.ntmps) (Sx.look ([] ++ ([]))) 80 (vS (wdC c)) (Sx.look ([])) 100 := by
  refine bcase (c := (c == (0 : Int))) (fun gg0 => ?_) (fun gg0 => ?_)
  · refine bcase (c := (c == (1 : Int))) (fun gg1 => ?_) (fun gg1 => ?_)
    · refine bcase (c := (c == (3 : Int))) (fun gg2 => ?_) (fun gg2 => ?_)
      · refine bcase (c := (c == (5 : Int))) (fun gg3 => ?_) (fun gg3 => ?_)
        · refine bcase (c := (c == (6 : Int))) (fun gg4 => ?_) (fun gg4 => ?_)
          · refine bcase (c := (c == (24 : Int))) (fun gg5 => ?_) (fun gg5 => ?_)
            · refine bcase (c := (c == (31 : Int))) (fun gg6 => ?_) (fun gg6 => ?_)
              · refine bcase (c := (c == (34 : Int))) (fun gg7 => ?_) (fun gg7 => ?_)
                · refine runs_last baseO (Sx.Ends.of (wdI_p0 c) ⟨?oo, ?rr⟩) (by kernel_rfl) rfl (gtL (by decide)) (by decide)
                  case oo =>
                    refine (okc gg0 (okc gg1 (okc gg2 (okc gg3 (okc gg4 (okc gg5 (okc gg6 (okc gg7 okn))))))))
                    all_goals ((try simp (disch := omega) only [SS]); first | done | omega | assumption | (simp (disch := omega) only [SS] at *; first | done | omega | assumption) | (simp_all; done) | grind)
                  case rr =>
                    refine ⟨?_, ?_⟩ <;> first | trivial | (simp only [wdC]; simp_all)
                · refine runs_last baseO (Sx.Ends.of (wdI_p1 c) ⟨?oo, ?rr⟩) (by kernel_rfl) rfl (gtL (by decide)) (by decide)
                  case oo =>
                    refine (okc gg0 (okc gg1 (okc gg2 (okc gg3 (okc gg4 (okc gg5 (okc gg6 (okc gg7 okn))))))))
                    all_goals ((try simp (disch := omega) only [SS]); first | done | omega | assumption | (simp (disch := omega) only [SS] at *; first | done | omega | assumption) | (simp_all; done) | grind)
                  case rr =>
                    refine ⟨?_, ?_⟩ <;> first | trivial | (simp only [wdC]; simp_all)
              · refine runs_last baseO (Sx.Ends.of (wdI_p2 c) ⟨?oo, ?rr⟩) (by kernel_rfl) rfl (gtL (by decide)) (by decide)
                case oo =>
                  refine (okc gg0 (okc gg1 (okc gg2 (okc gg3 (okc gg4 (okc gg5 (okc gg6 okn)))))))
                  all_goals ((try simp (disch := omega) only [SS]); first | done | omega | assumption | (simp (disch := omega) only [SS] at *; first | done | omega | assumption) | (simp_all; done) | grind)
                case rr =>
                  refine ⟨?_, ?_⟩ <;> first | trivial | (simp only [wdC]; simp_all)
            · refine runs_last baseO (Sx.Ends.of (wdI_p3 c) ⟨?oo, ?rr⟩) (by kernel_rfl) rfl (gtL (by decide)) (by decide)
              case oo =>
                refine (okc gg0 (okc gg1 (okc gg2 (okc gg3 (okc gg4 (okc gg5 okn))))))
                all_goals ((try simp (disch := omega) only [SS]); first | done | omega | assumption | (simp (disch := omega) only [SS] at *; first | done | omega | assumption) | (simp_all; done) | grind)
              case rr =>
                refine ⟨?_, ?_⟩ <;> first | trivial | (simp only [wdC]; simp_all)
          · refine runs_last baseO (Sx.Ends.of (wdI_p4 c) ⟨?oo, ?rr⟩) (by kernel_rfl) rfl (gtL (by decide)) (by decide)
            case oo =>
              refine (okc gg0 (okc gg1 (okc gg2 (okc gg3 (okc gg4 okn)))))
              all_goals ((try simp (disch := omega) only [SS]); first | done | omega | assumption | (simp (disch := omega) only [SS] at *; first | done | omega | assumption) | (simp_all; done) | grind)
            case rr =>
              refine ⟨?_, ?_⟩ <;> first | trivial | (simp only [wdC]; simp_all)
        · refine runs_last baseO (Sx.Ends.of (wdI_p5 c) ⟨?oo, ?rr⟩) (by kernel_rfl) rfl (gtL (by decide)) (by decide)
          case oo =>
            refine (okc gg0 (okc gg1 (okc gg2 (okc gg3 okn))))
            all_goals ((try simp (disch := omega) only [SS]); first | done | omega | assumption | (simp (disch := omega) only [SS] at *; first | done | omega | assumption) | (simp_all; done) | grind)
          case rr =>
            refine ⟨?_, ?_⟩ <;> first | trivial | (simp only [wdC]; simp_all)
      · refine runs_last baseO (Sx.Ends.of (wdI_p6 c) ⟨?oo, ?rr⟩) (by kernel_rfl) rfl (gtL (by decide)) (by decide)
        case oo =>
          refine (okc gg0 (okc gg1 (okc gg2 okn)))
          all_goals ((try simp (disch := omega) only [SS]); first | done | omega | assumption | (simp (disch := omega) only [SS] at *; first | done | omega | assumption) | (simp_all; done) | grind)
        case rr =>
          refine ⟨?_, ?_⟩ <;> first | trivial | (simp only [wdC]; simp_all)
    · refine runs_last baseO (Sx.Ends.of (wdI_p7 c) ⟨?oo, ?rr⟩) (by kernel_rfl) rfl (gtL (by decide)) (by decide)
      case oo =>
        refine (okc gg0 (okc gg1 okn))
        all_goals ((try simp (disch := omega) only [SS]); first | done | omega | assumption | (simp (disch := omega) only [SS] at *; first | done | omega | assumption) | (simp_all; done) | grind)
      case rr =>
        refine ⟨?_, ?_⟩ <;> first | trivial | (simp only [wdC]; simp_all)
  · refine runs_last baseO (Sx.Ends.of (wdI_p8 c) ⟨?oo, ?rr⟩) (by kernel_rfl) rfl (gtL (by decide)) (by decide)
    case oo =>
      refine (okc gg0 okn)
      all_goals ((try simp (disch := omega) only [SS]); first | done | omega | assumption | (simp (disch := omega) only [SS] at *; first | done | omega | assumption) | (simp_all; done) | grind)
    case rr =>
      refine ⟨?_, ?_⟩ <;> first | trivial | (simp only [wdC]; simp_all)

def wdP : PC := { args := [.v (.vi .i64 0)], heap := [], gs := [], G := 25, tp := 223, n := 80, n' := 100, cond := fun e => true, v := fun e => vS (wdC (eI e 0 [])), post := fun e => [] }
theorem wdP_pc : PC.Runs Tryd.prog 95 Tryd.f95 (bodyOf Tryd.f95) wdP := ⟨Tryd.func95, by kernel_rfl, (fun g hg => by first | cases hg | (revert g; decide)), fun e H hc => by
  have hc : (true) = true := hc
  try simp only [Bool.and_eq_true, decide_eq_true_eq, Nat.beq_eq] at hc
  exact wdI (eI e 0 [])⟩
theorem l7I_p0 (x : Int) :
    isEnd (evTill Tryd.prog [] 300 (99) 900 146 [.code (bodyOf Tryd.f146)] (envOf [.v (.vi .u64 fun _ => x)] Tryd.f146.ntmps) ([] ++ ([])) ⟨[.s false, .s false, .s false, .s true], 80⟩) (endP ([]) (vN 7) ([]) 90) =
    (OkL [(decide (x ≥ (4294967296 : Int)), false), (decide (x ≥ (65536 : Int)), false), (decide (x ≥ (256 : Int)), false), (decide ((0 : Int) ≤ IntKind.u8.wrap x ∧ IntKind.u8.wrap x < (↑(256 : Nat) : Int)), true)] ∧ (7 : Int) = IntKind.i64.wrap ((0 : Int) + IntKind.i64.wrap (↑((([(0 : UInt8), (1 : UInt8), (2 : UInt8), (2 : UInt8), (3 : UInt8), (3 : UInt8), (3 : UInt8), (3 : UInt8), (4 : UInt8), (4 : UInt8), (4 : UInt8), (4 : UInt8), (4 : UInt8), (4 : UInt8), (4 : UInt8), (4 : UInt8), (5 : UInt8), (5 : UInt8), (5 : UInt8), (5 : UInt8), (5 : UInt8), (5 : UInt8), (5 : UInt8), (5 : UInt8), (5 : UInt8), (5 : UInt8), (5 : UInt8), (5 : UInt8), (5 : UInt8), (5 : UInt8), (5 : UInt8), (5 : UInt8), (6 : UInt8), (6 : UInt8), (6 : UInt8), (6 : UInt8), (6 : UInt8), (6 : UInt8), (6 : UInt8), (6 : UInt8), (6 : UInt8), (6 : UInt8), (6 : UInt8), (6 : UInt8), (6 : UInt8), (6 : UInt8), (6 : UInt8), (6 : UInt8), (6 : UInt8), (6 : UInt8), (6 : UInt8), (6 : UInt8), (6 : UInt8), (6 : UInt8), (6 : UInt8), (6 : UInt8), (6 : UInt8), (6 : UInt8), (6 : UInt8), (6 : UInt8), (6 : UInt8), (6 : UInt8), (6 : UInt8), (6 : UInt8)].append [(7 : UInt8), (7 : UInt8), (7 : UInt8), (7 : UInt8), (7 : UInt8), (7 : UInt8), (7 : UInt8), (7 : UInt8), (7 : UInt8), (7 : UInt8), (7 : UInt8), (7 : UInt8), (7 : UInt8), (7 : UInt8), (7 : UInt8), (7 : UInt8), (7 : UInt8), (7 : UInt8), (7 : UInt8), (7 : UInt8), (7 : UInt8), (7 : UInt8), (7 : UInt8), (7 : UInt8), (7 : UInt8), (7 : UInt8), (7 : UInt8), (7 : UInt8), (7 : UInt8), (7 : UInt8), (7 : UInt8), (7 : UInt8), (7 : UInt8), (7 : UInt8), (7 : UInt8), (7 : UInt8), (7 : UInt8), (7 : UInt8), (7 : UInt8), (7 : UInt8), (7 : UInt8), (7 : UInt8), (7 : UInt8), (7 : UInt8), (7 : UInt8), (7 : UInt8), (7 : UInt8), (7 : UInt8), (7 : UInt8), (7 : UInt8), (7 : UInt8), (7 : UInt8), (7 : UInt8), (7 : UInt8), (7 : UInt8), (7 : UInt8), (7 : UInt8), (7 : UInt8), (7 : UInt8), (7 : UInt8), (7 : UInt8), (7 : UInt8), (7 : UInt8), (7 : UInt8)]).append ([(8 : UInt8), (8 : UInt8), (8 : UInt8), (8 : UInt8), (8 : UInt8), (8 : UInt8), (8 : UInt8), (8 : UInt8), (8 : UInt8), (8 : UInt8), (8 : UInt8), (8 : UInt8), (8 : UInt8), (8 : UInt8), (8 : UInt8), (8 : UInt8), (8 : UInt8), (8 : UInt8), (8 : UInt8), (8 : UInt8), (8 : UInt8), (8 : UInt8), (8 : UInt8), (8 : UInt8), (8 : UInt8), (8 : UInt8), (8 : UInt8), (8 : UInt8), (8 : UInt8), (8 : UInt8), (8 : UInt8), (8 : UInt8), (8 : UInt8), (8 : UInt8), (8 : UInt8), (8 : UInt8), (8 : UInt8), (8 : UInt8), (8 : UInt8), (8 : UInt8), (8 : UInt8), (8 : UInt8), (8 : UInt8), (8 : UInt8), (8 : UInt8), (8 : UInt8), (8 : UInt8), (8 : UInt8), (8 : UInt8), (8 : UInt8), (8 : UInt8), (8 : UInt8), (8 : UInt8), (8 : UInt8), (8 : UInt8), (8 : UInt8), (8 : UInt8), (8 : UInt8), (8 : UInt8), (8 : UInt8), (8 : UInt8), (8 : UInt8), (8 : UInt8), (8 : UInt8)].append [(8 : UInt8), (8 : UInt8), (8 : UInt8), (8 : UInt8), (8 : UInt8), (8 : UInt8), (8 : UInt8), (8 : UInt8), (8 : UInt8), (8 : UInt8), (8 : UInt8), (8 : UInt8), (8 : UInt8), (8 : UInt8), (8 : UInt8), (8 : UInt8), (8 : UInt8), (8 : UInt8), (8 : UInt8), (8 : UInt8), (8 : UInt8), (8 : UInt8), (8 : UInt8), (8 : UInt8), (8 : UInt8), (8 : UInt8), (8 : UInt8), (8 : UInt8), (8 : UInt8), (8 : UInt8), (8 : UInt8), (8 : UInt8), (8 : UInt8), (8 : UInt8), (8 : UInt8), (8 : UInt8), (8 : UInt8), (8 : UInt8), (8 : UInt8), (8 : UInt8), (8 : UInt8), (8 : UInt8), (8 : UInt8), (8 : UInt8), (8 : UInt8), (8 : UInt8), (8 : UInt8), (8 : UInt8), (8 : UInt8), (8 : UInt8), (8 : UInt8), (8 : UInt8), (8 : UInt8), (8 : UInt8), (8 : UInt8), (8 : UInt8), (8 : UInt8), (8 : UInt8), (8 : UInt8), (8 : UInt8), (8 : UInt8), (8 : UInt8), (8 : UInt8), (8 : UInt8)])).getD (IntKind.u8.wrap x).toNat (0 : UInt8)).toNat : Int)) ∧ True) := by kernel_rfl

set_option maxHeartbeats 4000000 in
theorem l7I (x : Int) (h : 64 ≤ x ∧ x < 128) :
    RunsTo Tryd.prog 146 [.code (bodyOf Tryd.f146)] (envOf [.v (.vi .u64 fun _ => x)] Tryd.f146.ntmps) (Sx.look ([] ++ ([]))) 80 (vN 7) (Sx.look ([])) 90 := by
  have hx : IntKind.u8.wrap x = x := u8id (by omega)
  refine runs_last baseO (Sx.Ends.of (l7I_p0 x) ⟨?oo, ?rr⟩) (by kernel_rfl) rfl (gtL (by decide)) (by decide)
  case oo =>
    refine (okc ?_ (okc ?_ (okc ?_ (okc ?_ okn))))
    all_goals ((try simp (disch := omega) only [SS, hx]); first | done | omega | assumption | (simp (disch := omega) only [SS, hx] at *; first | done | omega | assumption) | (simp_all; done) | grind)
  case rr =>
    clear hx
    refine ⟨?_, trivial⟩
    obtain ⟨n, rfl⟩ : ∃ n : Nat, x = n := ⟨x.toNat, by omega⟩
    have h2 : n < 128 := by omega
    have h1 : 64 ≤ n := by omega
    clear h
    revert h1
    revert h2
    revert n
    decide +kernel

def l7P : PC := { args := [.v (.vi .u64 0)], heap := [], gs := [], G := 25, tp := 223, n := 80, n' := 90, cond := fun e => decide (64 ≤ eI e 0 [] ∧ eI e 0 [] < 128), v := fun e => vN 7, post := fun e => [] }
theorem l7P_pc : PC.Runs Tryd.prog 146 Tryd.f146 (bodyOf Tryd.f146) l7P := ⟨Tryd.func146, by kernel_rfl, (fun g hg => by first | cases hg | (revert g; decide)), fun e H hc => by
  have hc : (decide (64 ≤ eI e 0 [] ∧ eI e 0 [] < 128)) = true := hc
  try simp only [Bool.and_eq_true, decide_eq_true_eq, Nat.beq_eq] at hc
  exact l7I (eI e 0 []) hc⟩
def sumsL7 : List (FuncId × Summ) := [(146, l7P.summ 50)]
theorem baseL7 : Base0 Tryd.prog sumsL7 := (baseO.cons Tryd.func146 (by kernel_rfl) (PC.summ_ok l7P_pc gtopG))
theorem l8I_p0 (x : Int) :
    isEnd (evTill Tryd.prog [] 300 (99) 900 146 [.code (bodyOf Tryd.f146)] (envOf [.v (.vi .u64 fun _ => x)] Tryd.f146.ntmps) ([] ++ ([])) ⟨[.s false, .s false, .s false, .s true], 80⟩) (endP ([]) (vN 8) ([]) 90) =
    (OkL [(decide (x ≥ (4294967296 : Int)), false), (decide (x ≥ (65536 : Int)), false), (decide (x ≥ (256 : Int)), false), (decide ((0 : Int) ≤ IntKind.u8.wrap x ∧ IntKind.u8.wrap x < (↑(256 : Nat) : Int)), true)] ∧ (8 : Int) = IntKind.i64.wrap ((0 : Int) + IntKind.i64.wrap (↑((([(0 : UInt8), (1 : UInt8), (2 : UInt8), (2 : UInt8), (3 : UInt8), (3 : UInt8), (3 : UInt8), (3 : UInt8), (4 : UInt8), (4 : UInt8), (4 : UInt8), (4 : UInt8), (4 : UInt8), (4 : UInt8), (4 : UInt8), (4 : UInt8), (5 : UInt8), (5 : UInt8), (5 : UInt8), (5 : UInt8), (5 : UInt8), (5 : UInt8), (5 : UInt8), (5 : UInt8), (5 : UInt8), (5 : UInt8), (5 : UInt8), (5 : UInt8), (5 : UInt8), (5 : UInt8), (5 : UInt8), (5 : UInt8), (6 : UInt8), (6 : UInt8), (6 : UInt8), (6 : UInt8), (6 : UInt8), (6 : UInt8), (6 : UInt8), (6 : UInt8), (6 : UInt8), (6 : UInt8), (6 : UInt8), (6 : UInt8), (6 : UInt8), (6 : UInt8), (6 : UInt8), (6 : UInt8), (6 : UInt8), (6 : UInt8), (6 : UInt8), (6 : UInt8), (6 : UInt8), (6 : UInt8), (6 : UInt8), (6 : UInt8), (6 : UInt8), (6 : UInt8), (6 : UInt8), (6 : UInt8), (6 : UInt8), (6 : UInt8), (6 : UInt8), (6 : UInt8)].append [(7 : UInt8), (7 : UInt8), (7 : UInt8), (7 : UInt8), (7 : UInt8), (7 : UInt8), (7 : UInt8), (7 : UInt8), (7 : UInt8), (7 : UInt8), (7 : UInt8), (7 : UInt8), (7 : UInt8), (7 : UInt8), (7 : UInt8), (7 : UInt8), (7 : UInt8), (7 : UInt8), (7 : UInt8), (7 : UInt8), (7 : UInt8), (7 : UInt8), (7 : UInt8), (7 : UInt8), (7 : UInt8), (7 : UInt8), (7 : UInt8), (7 : UInt8), (7 : UInt8), (7 : UInt8), (7 : UInt8), (7 : UInt8), (7 : UInt8), (7 : UInt8), (7 : UInt8), (7 : UInt8), (7 : UInt8), (7 : UInt8), (7 : UInt8), (7 : UInt8), (7 : UInt8), (7 : UInt8), (7 : UInt8), (7 : UInt8), (7 : UInt8), (7 : UInt8), (7 : UInt8), (7 : UInt8), (7 : UInt8), (7 : UInt8), (7 : UInt8), (7 : UInt8), (7 : UInt8), (7 : UInt8), (7 : UInt8), (7 : UInt8), (7 : UInt8), (7 : UInt8), (7 : UInt8), (7 : UInt8), (7 : UInt8), (7 : UInt8), (7 : UInt8), (7 : UInt8)]).append ([(8 : UInt8), (8 : UInt8), (8 : UInt8), (8 : UInt8), (8 : UInt8), (8 : UInt8), (8 : UInt8), (8 : UInt8), (8 : UInt8), (8 : UInt8), (8 : UInt8), (8 : UInt8), (8 : UInt8), (8 : UInt8), (8 : UInt8), (8 : UInt8), (8 : UInt8), (8 : UInt8), (8 : UInt8), (8 : UInt8), (8 : UInt8), (8 : UInt8), (8 : UInt8), (8 : UInt8), (8 : UInt8), (8 : UInt8), (8 : UInt8), (8 : UInt8), (8 : UInt8), (8 : UInt8), (8 : UInt8), (8 : UInt8), (8 : UInt8), (8 : UInt8), (8 : UInt8), (8 : UInt8), (8 : UInt8), (8 : UInt8), (8 : UInt8), (8 : UInt8), (8 : UInt8), (8 : UInt8), (8 : UInt8), (8 : UInt8), (8 : UInt8), (8 : UInt8), (8 : UInt8), (8 : UInt8), (8 : UInt8), (8 : UInt8), (8 : UInt8), (8 : UInt8), (8 : UInt8), (8 : UInt8), (8 : UInt8), (8 : UInt8), (8 : UInt8), (8 : UInt8), (8 : UInt8), (8 : UInt8), (8 : UInt8), (8 : UInt8), (8 : UInt8), (8 : UInt8)].append [(8 : UInt8), (8 : UInt8), (8 : UInt8), (8 : UInt8), (8 : UInt8), (8 : UInt8), (8 : UInt8), (8 : UInt8), (8 : UInt8), (8 : UInt8), (8 : UInt8), (8 : UInt8), (8 : UInt8), (8 : UInt8), (8 : UInt8), (8 : UInt8), (8 : UInt8), (8 : UInt8), (8 : UInt8), (8 : UInt8), (8 : UInt8), (8 : UInt8), (8 : UInt8), (8 : UInt8), (8 : UInt8), (8 : UInt8), (8 : UInt8), (8 : UInt8), (8 : UInt8), (8 : UInt8), (8 : UInt8), (8 : UInt8), (8 : UInt8), (8 : UInt8), (8 : UInt8), (8 : UInt8), (8 : UInt8), (8 : UInt8), (8 : UInt8), (8 : UInt8), (8 : UInt8), (8 : UInt8), (8 : UInt8), (8 : UInt8), (8 : UInt8), (8 : UInt8), (8 : UInt8), (8 : UInt8), (8 : UInt8), (8 : UInt8), (8 : UInt8), (8 : UInt8), (8 : UInt8), (8 : UInt8), (8 : UInt8), (8 : UInt8), (8 : UInt8), (8 : UInt8), (8 : UInt8), (8 : UInt8), (8 : UInt8), (8 : UInt8), (8 : UInt8), (8 : UInt8)])).getD (IntKind.u8.wrap x).toNat (0 : UInt8)).toNat : Int)) ∧ True) := by kernel_rfl

set_option maxHeartbeats 4000000 in
theorem l8I (x : Int) (h : 128 ≤ x ∧ x < 256) :
    RunsTo Tryd.prog 146 [.code (bodyOf Tryd.f146)] (envOf [.v (.vi .u64 fun _ => x)] Tryd.f146.ntmps) (Sx.look ([] ++ ([]))) 80 (vN 8) (Sx.look ([])) 90 := by
  have hx : IntKind.u8.wrap x = x := u8id (by omega)
  refine runs_last baseO (Sx.Ends.of (l8I_p0 x) ⟨?oo, ?rr⟩) (by kernel_rfl) rfl (gtL (by decide)) (by decide)
  case oo =>
    refine (okc ?_ (okc ?_ (okc ?_ (okc ?_ okn))))
    all_goals ((try simp (disch := omega) only [SS, hx]); first | done | omega | assumption | (simp (disch := omega) only [SS, hx] at *; first | done | omega | assumption) | (simp_all; done) | grind)
  case rr =>
    clear hx
    refine ⟨?_, trivial⟩
    obtain ⟨n, rfl⟩ : ∃ n : Nat, x = n := ⟨x.toNat, by omega⟩
    have h2 : n < 256 := by omega
    have h1 : 128 ≤ n := by omega
    clear h
    revert h1
    revert h2
    revert n
    decide +kernel

def l8P : PC := { args := [.v (.vi .u64 0)], heap := [], gs := [], G := 25, tp := 223, n := 80, n' := 90, cond := fun e => decide (128 ≤ eI e 0 [] ∧ eI e 0 [] < 256), v := fun e => vN 8, post := fun e => [] }
theorem l8P_pc : PC.Runs Tryd.prog 146 Tryd.f146 (bodyOf Tryd.f146) l8P := ⟨Tryd.func146, by kernel_rfl, (fun g hg => by first | cases hg | (revert g; decide)), fun e H hc => by
  have hc : (decide (128 ≤ eI e 0 [] ∧ eI e 0 [] < 256)) = true := hc
  try simp only [Bool.and_eq_true, decide_eq_true_eq, Nat.beq_eq] at hc
  exact l8I (eI e 0 []) hc⟩
def sumsL8 : List (FuncId × Summ) := [(146, l8P.summ 50)]
theorem baseL8 : Base0 Tryd.prog sumsL8 := (baseO.cons Tryd.func146 (by kernel_rfl) (PC.summ_ok l8P_pc gtopG))
theorem it1_p0 (F : Ix → Int) (n : Nat) :
    isEnd (evTill Tryd.prog [] 300 (99) 900 99 [.code (bodyOf Tryd.f99)] (envOf [vN n] Tryd.f99.ntmps) (tabF F ++ ([])) ⟨[.t, .t, .s true, .s true, .s true, .s true], 80⟩) (endP ([]) (vS (dec n)) ([]) 200) =
    (OkL [(decide ((↑n : Int) < (100 : Int)), true), (decide ((↑n : Int) < (10 : Int)), true), (decide ((0 : Int) ≤ IntKind.i64.wrap ((↑n : Int) + (1 : Int)) ∧ IntKind.i64.wrap ((↑n : Int) + (1 : Int)) ≤ (↑(36 : Nat) : Int)), true), (decide ((0 : Int) ≤ (↑n : Int) ∧ (↑n : Int) ≤ IntKind.i64.wrap ((↑n : Int) + (1 : Int))), true)] ∧ dec n = List.drop (↑n : Int).toNat (List.take (IntKind.i64.wrap ((↑n : Int) + (1 : Int))).toNat [(48 : UInt8), (49 : UInt8), (50 : UInt8), (51 : UInt8), (52 : UInt8), (53 : UInt8), (54 : UInt8), (55 : UInt8), (56 : UInt8), (57 : UInt8), (97 : UInt8), (98 : UInt8), (99 : UInt8), (100 : UInt8), (101 : UInt8), (102 : UInt8), (103 : UInt8), (104 : UInt8), (105 : UInt8), (106 : UInt8), (107 : UInt8), (108 : UInt8), (109 : UInt8), (110 : UInt8), (111 : UInt8), (112 : UInt8), (113 : UInt8), (114 : UInt8), (115 : UInt8), (116 : UInt8), (117 : UInt8), (118 : UInt8), (119 : UInt8), (120 : UInt8), (121 : UInt8), (122 : UInt8)]) ∧ True) := by kernel_rfl

set_option maxHeartbeats 4000000 in
theorem it1 (F : Ix → Int) (n : Nat) (hF : F [2] = 100) (h : 0 ≤ n ∧ n < 10) :
    RunsTo Tryd.prog 99 [.code (bodyOf Tryd.f99)] (envOf [vN n] Tryd.f99.ntmps) (Sx.look (tabF F ++ ([]))) 80 (vS (dec n)) (Sx.look ([])) 200 := by
  have hu : IntKind.u64.wrap (n : Int) = (n : Int) := by simp only [IntKind.wrap, IntKind.bits, IntKind.signed]; simp; omega
  refine runs_last baseO (Sx.Ends.of (it1_p0 F n) ⟨?oo, ?rr⟩) (by kernel_rfl) rfl (gtL (by decide)) (by decide)
  case oo =>
    refine (okc ?_ (okc ?_ (okc ?_ (okc ?_ okn))))
    all_goals first | omega | (exact (show decide (F [2] ≤ (n : Int)) = true by rw [hF]; exact decide_eq_true (by omega))) | (exact (show decide (IntKind.u64.wrap (n : Int) ≥ F [2]) = true by rw [hu, hF]; exact decide_eq_true (by omega))) | (clear hF hu; first | omega | (have h2 : n < 10 := h.2; have h1 : 0 ≤ n := h.1; clear h; revert h1; revert h2; revert n; decide +kernel))
  case rr =>
    refine ⟨?_, ?_⟩ <;> first | trivial | (clear hF hu; first | omega | (have h2 : n < 10 := h.2; have h1 : 0 ≤ n := h.1; clear h; revert h1; revert h2; revert n; decide +kernel))

theorem it2_p0 (F : Ix → Int) (n : Nat) :
    isEnd (evTill Tryd.prog [] 300 (99) 900 99 [.code (bodyOf Tryd.f99)] (envOf [vN n] Tryd.f99.ntmps) (tabF F ++ ([])) ⟨[.t, .t, .s true, .s false, .s true, .s true], 80⟩) (endP ([]) (vS (dec n)) ([]) 200) =
    (OkL [(decide ((↑n : Int) < (100 : Int)), true), (decide ((↑n : Int) < (10 : Int)), false), (decide ((0 : Int) ≤ IntKind.i64.wrap (IntKind.i64.wrap ((↑n : Int) * (2 : Int)) + (2 : Int)) ∧ IntKind.i64.wrap (IntKind.i64.wrap ((↑n : Int) * (2 : Int)) + (2 : Int)) ≤ (↑(200 : Nat) : Int)), true), (decide ((0 : Int) ≤ IntKind.i64.wrap ((↑n : Int) * (2 : Int)) ∧ IntKind.i64.wrap ((↑n : Int) * (2 : Int)) ≤ IntKind.i64.wrap (IntKind.i64.wrap ((↑n : Int) * (2 : Int)) + (2 : Int))), true)] ∧ dec n = List.drop (IntKind.i64.wrap ((↑n : Int) * (2 : Int))).toNat (List.take (IntKind.i64.wrap (IntKind.i64.wrap ((↑n : Int) * (2 : Int)) + (2 : Int))).toNat (([(48 : UInt8), (48 : UInt8), (48 : UInt8), (49 : UInt8), (48 : UInt8), (50 : UInt8), (48 : UInt8), (51 : UInt8), (48 : UInt8), (52 : UInt8), (48 : UInt8), (53 : UInt8), (48 : UInt8), (54 : UInt8), (48 : UInt8), (55 : UInt8), (48 : UInt8), (56 : UInt8), (48 : UInt8), (57 : UInt8), (49 : UInt8), (48 : UInt8), (49 : UInt8), (49 : UInt8), (49 : UInt8), (50 : UInt8), (49 : UInt8), (51 : UInt8), (49 : UInt8), (52 : UInt8), (49 : UInt8), (53 : UInt8), (49 : UInt8), (54 : UInt8), (49 : UInt8), (55 : UInt8), (49 : UInt8), (56 : UInt8), (49 : UInt8), (57 : UInt8), (50 : UInt8), (48 : UInt8), (50 : UInt8), (49 : UInt8), (50 : UInt8), (50 : UInt8), (50 : UInt8), (51 : UInt8), (50 : UInt8), (52 : UInt8)].append [(50 : UInt8), (53 : UInt8), (50 : UInt8), (54 : UInt8), (50 : UInt8), (55 : UInt8), (50 : UInt8), (56 : UInt8), (50 : UInt8), (57 : UInt8), (51 : UInt8), (48 : UInt8), (51 : UInt8), (49 : UInt8), (51 : UInt8), (50 : UInt8), (51 : UInt8), (51 : UInt8), (51 : UInt8), (52 : UInt8), (51 : UInt8), (53 : UInt8), (51 : UInt8), (54 : UInt8), (51 : UInt8), (55 : UInt8), (51 : UInt8), (56 : UInt8), (51 : UInt8), (57 : UInt8), (52 : UInt8), (48 : UInt8), (52 : UInt8), (49 : UInt8), (52 : UInt8), (50 : UInt8), (52 : UInt8), (51 : UInt8), (52 : UInt8), (52 : UInt8), (52 : UInt8), (53 : UInt8), (52 : UInt8), (54 : UInt8), (52 : UInt8), (55 : UInt8), (52 : UInt8), (56 : UInt8), (52 : UInt8), (57 : UInt8)]).append ([(53 : UInt8), (48 : UInt8), (53 : UInt8), (49 : UInt8), (53 : UInt8), (50 : UInt8), (53 : UInt8), (51 : UInt8), (53 : UInt8), (52 : UInt8), (53 : UInt8), (53 : UInt8), (53 : UInt8), (54 : UInt8), (53 : UInt8), (55 : UInt8), (53 : UInt8), (56 : UInt8), (53 : UInt8), (57 : UInt8), (54 : UInt8), (48 : UInt8), (54 : UInt8), (49 : UInt8), (54 : UInt8), (50 : UInt8), (54 : UInt8), (51 : UInt8), (54 : UInt8), (52 : UInt8), (54 : UInt8), (53 : UInt8), (54 : UInt8), (54 : UInt8), (54 : UInt8), (55 : UInt8), (54 : UInt8), (56 : UInt8), (54 : UInt8), (57 : UInt8), (55 : UInt8), (48 : UInt8), (55 : UInt8), (49 : UInt8), (55 : UInt8), (50 : UInt8), (55 : UInt8), (51 : UInt8), (55 : UInt8), (52 : UInt8)].append [(55 : UInt8), (53 : UInt8), (55 : UInt8), (54 : UInt8), (55 : UInt8), (55 : UInt8), (55 : UInt8), (56 : UInt8), (55 : UInt8), (57 : UInt8), (56 : UInt8), (48 : UInt8), (56 : UInt8), (49 : UInt8), (56 : UInt8), (50 : UInt8), (56 : UInt8), (51 : UInt8), (56 : UInt8), (52 : UInt8), (56 : UInt8), (53 : UInt8), (56 : UInt8), (54 : UInt8), (56 : UInt8), (55 : UInt8), (56 : UInt8), (56 : UInt8), (56 : UInt8), (57 : UInt8), (57 : UInt8), (48 : UInt8), (57 : UInt8), (49 : UInt8), (57 : UInt8), (50 : UInt8), (57 : UInt8), (51 : UInt8), (57 : UInt8), (52 : UInt8), (57 : UInt8), (53 : UInt8), (57 : UInt8), (54 : UInt8), (57 : UInt8), (55 : UInt8), (57 : UInt8), (56 : UInt8), (57 : UInt8), (57 : UInt8)]))) ∧ True) := by kernel_rfl

set_option maxHeartbeats 4000000 in
theorem it2 (F : Ix → Int) (n : Nat) (hF : F [2] = 100) (h : 10 ≤ n ∧ n < 100) :
    RunsTo Tryd.prog 99 [.code (bodyOf Tryd.f99)] (envOf [vN n] Tryd.f99.ntmps) (Sx.look (tabF F ++ ([]))) 80 (vS (dec n)) (Sx.look ([])) 200 := by
  have hu : IntKind.u64.wrap (n : Int) = (n : Int) := by simp only [IntKind.wrap, IntKind.bits, IntKind.signed]; simp; omega
  refine runs_last baseO (Sx.Ends.of (it2_p0 F n) ⟨?oo, ?rr⟩) (by kernel_rfl) rfl (gtL (by decide)) (by decide)
  case oo =>
    refine (okc ?_ (okc ?_ (okc ?_ (okc ?_ okn))))
    all_goals first | omega | (exact (show decide (F [2] ≤ (n : Int)) = true by rw [hF]; exact decide_eq_true (by omega))) | (exact (show decide (IntKind.u64.wrap (n : Int) ≥ F [2]) = true by rw [hu, hF]; exact decide_eq_true (by omega))) | (clear hF hu; first | omega | (have h2 : n < 100 := h.2; have h1 : 10 ≤ n := h.1; clear h; revert h1; revert h2; revert n; decide +kernel))
  case rr =>
    refine ⟨?_, ?_⟩ <;> first | trivial | (clear hF hu; first | omega | (have h2 : n < 100 := h.2; have h1 : 10 ≤ n := h.1; clear h; revert h1; revert h2; revert n; decide +kernel))

theorem it3_p0 (F : Ix → Int) (n : Nat) :
    isEnd (evTill Tryd.prog sumsL7 300 (99) 900 99 [.code (bodyOf Tryd.f99)] (envOf [vN n] Tryd.f99.ntmps) (tabF F ++ ([])) ⟨[.t, .t, .s false, .f, .s true, .t, .t, .t, .s true, .t, .t, .f, .f, .t, .t, .t, .s true, .s true, .t, .t, .t, .t, .t, .t, .t, .f, .t, .t, .t], 80⟩) (endP ([]) (vS (dec n)) ([]) 200) =
    (OkL [(decide ((↑n : Int) < (100 : Int)), false), (decide ((64 : Int) ≤ IntKind.u64.wrap (↑n : Int) ∧ IntKind.u64.wrap (↑n : Int) < (128 : Int)), true), (decide (IntKind.u64.wrap (↑n : Int) ≥ F [(2 : Nat)]), true), (decide ((0 : Int) ≤ IntKind.u32.wrap (IntKind.u32.wrap ((IntKind.u32.wrap (IntKind.u64.wrap (↑n : Int))).tmod (100 : Int) * (2 : Int)) + (1 : Int)) ∧ IntKind.u32.wrap (IntKind.u32.wrap ((IntKind.u32.wrap (IntKind.u64.wrap (↑n : Int))).tmod (100 : Int) * (2 : Int)) + (1 : Int)) < (↑(200 : Nat) : Int)), true), (decide ((0 : Int) ≤ IntKind.u32.wrap ((IntKind.u32.wrap (IntKind.u64.wrap (↑n : Int))).tmod (100 : Int) * (2 : Int)) ∧ IntKind.u32.wrap ((IntKind.u32.wrap (IntKind.u64.wrap (↑n : Int))).tmod (100 : Int) * (2 : Int)) < (↑(200 : Nat) : Int)), true)] ∧ dec n = bytesOf (upd (upd (upd (fun x => (0 : Int)) [(3 : Nat)] (↑((([(48 : UInt8), (48 : UInt8), (48 : UInt8), (49 : UInt8), (48 : UInt8), (50 : UInt8), (48 : UInt8), (51 : UInt8), (48 : UInt8), (52 : UInt8), (48 : UInt8), (53 : UInt8), (48 : UInt8), (54 : UInt8), (48 : UInt8), (55 : UInt8), (48 : UInt8), (56 : UInt8), (48 : UInt8), (57 : UInt8), (49 : UInt8), (48 : UInt8), (49 : UInt8), (49 : UInt8), (49 : UInt8), (50 : UInt8), (49 : UInt8), (51 : UInt8), (49 : UInt8), (52 : UInt8), (49 : UInt8), (53 : UInt8), (49 : UInt8), (54 : UInt8), (49 : UInt8), (55 : UInt8), (49 : UInt8), (56 : UInt8), (49 : UInt8), (57 : UInt8), (50 : UInt8), (48 : UInt8), (50 : UInt8), (49 : UInt8), (50 : UInt8), (50 : UInt8), (50 : UInt8), (51 : UInt8), (50 : UInt8), (52 : UInt8)].append [(50 : UInt8), (53 : UInt8), (50 : UInt8), (54 : UInt8), (50 : UInt8), (55 : UInt8), (50 : UInt8), (56 : UInt8), (50 : UInt8), (57 : UInt8), (51 : UInt8), (48 : UInt8), (51 : UInt8), (49 : UInt8), (51 : UInt8), (50 : UInt8), (51 : UInt8), (51 : UInt8), (51 : UInt8), (52 : UInt8), (51 : UInt8), (53 : UInt8), (51 : UInt8), (54 : UInt8), (51 : UInt8), (55 : UInt8), (51 : UInt8), (56 : UInt8), (51 : UInt8), (57 : UInt8), (52 : UInt8), (48 : UInt8), (52 : UInt8), (49 : UInt8), (52 : UInt8), (50 : UInt8), (52 : UInt8), (51 : UInt8), (52 : UInt8), (52 : UInt8), (52 : UInt8), (53 : UInt8), (52 : UInt8), (54 : UInt8), (52 : UInt8), (55 : UInt8), (52 : UInt8), (56 : UInt8), (52 : UInt8), (57 : UInt8)]).append ([(53 : UInt8), (48 : UInt8), (53 : UInt8), (49 : UInt8), (53 : UInt8), (50 : UInt8), (53 : UInt8), (51 : UInt8), (53 : UInt8), (52 : UInt8), (53 : UInt8), (53 : UInt8), (53 : UInt8), (54 : UInt8), (53 : UInt8), (55 : UInt8), (53 : UInt8), (56 : UInt8), (53 : UInt8), (57 : UInt8), (54 : UInt8), (48 : UInt8), (54 : UInt8), (49 : UInt8), (54 : UInt8), (50 : UInt8), (54 : UInt8), (51 : UInt8), (54 : UInt8), (52 : UInt8), (54 : UInt8), (53 : UInt8), (54 : UInt8), (54 : UInt8), (54 : UInt8), (55 : UInt8), (54 : UInt8), (56 : UInt8), (54 : UInt8), (57 : UInt8), (55 : UInt8), (48 : UInt8), (55 : UInt8), (49 : UInt8), (55 : UInt8), (50 : UInt8), (55 : UInt8), (51 : UInt8), (55 : UInt8), (52 : UInt8)].append [(55 : UInt8), (53 : UInt8), (55 : UInt8), (54 : UInt8), (55 : UInt8), (55 : UInt8), (55 : UInt8), (56 : UInt8), (55 : UInt8), (57 : UInt8), (56 : UInt8), (48 : UInt8), (56 : UInt8), (49 : UInt8), (56 : UInt8), (50 : UInt8), (56 : UInt8), (51 : UInt8), (56 : UInt8), (52 : UInt8), (56 : UInt8), (53 : UInt8), (56 : UInt8), (54 : UInt8), (56 : UInt8), (55 : UInt8), (56 : UInt8), (56 : UInt8), (56 : UInt8), (57 : UInt8), (57 : UInt8), (48 : UInt8), (57 : UInt8), (49 : UInt8), (57 : UInt8), (50 : UInt8), (57 : UInt8), (51 : UInt8), (57 : UInt8), (52 : UInt8), (57 : UInt8), (53 : UInt8), (57 : UInt8), (54 : UInt8), (57 : UInt8), (55 : UInt8), (57 : UInt8), (56 : UInt8), (57 : UInt8), (57 : UInt8)])).getD (IntKind.u32.wrap (IntKind.u32.wrap ((IntKind.u32.wrap (IntKind.u64.wrap (↑n : Int))).tmod (100 : Int) * (2 : Int)) + (1 : Int))).toNat (0 : UInt8)).toNat : Int)) [(2 : Nat)] (↑((([(48 : UInt8), (48 : UInt8), (48 : UInt8), (49 : UInt8), (48 : UInt8), (50 : UInt8), (48 : UInt8), (51 : UInt8), (48 : UInt8), (52 : UInt8), (48 : UInt8), (53 : UInt8), (48 : UInt8), (54 : UInt8), (48 : UInt8), (55 : UInt8), (48 : UInt8), (56 : UInt8), (48 : UInt8), (57 : UInt8), (49 : UInt8), (48 : UInt8), (49 : UInt8), (49 : UInt8), (49 : UInt8), (50 : UInt8), (49 : UInt8), (51 : UInt8), (49 : UInt8), (52 : UInt8), (49 : UInt8), (53 : UInt8), (49 : UInt8), (54 : UInt8), (49 : UInt8), (55 : UInt8), (49 : UInt8), (56 : UInt8), (49 : UInt8), (57 : UInt8), (50 : UInt8), (48 : UInt8), (50 : UInt8), (49 : UInt8), (50 : UInt8), (50 : UInt8), (50 : UInt8), (51 : UInt8), (50 : UInt8), (52 : UInt8)].append [(50 : UInt8), (53 : UInt8), (50 : UInt8), (54 : UInt8), (50 : UInt8), (55 : UInt8), (50 : UInt8), (56 : UInt8), (50 : UInt8), (57 : UInt8), (51 : UInt8), (48 : UInt8), (51 : UInt8), (49 : UInt8), (51 : UInt8), (50 : UInt8), (51 : UInt8), (51 : UInt8), (51 : UInt8), (52 : UInt8), (51 : UInt8), (53 : UInt8), (51 : UInt8), (54 : UInt8), (51 : UInt8), (55 : UInt8), (51 : UInt8), (56 : UInt8), (51 : UInt8), (57 : UInt8), (52 : UInt8), (48 : UInt8), (52 : UInt8), (49 : UInt8), (52 : UInt8), (50 : UInt8), (52 : UInt8), (51 : UInt8), (52 : UInt8), (52 : UInt8), (52 : UInt8), (53 : UInt8), (52 : UInt8), (54 : UInt8), (52 : UInt8), (55 : UInt8), (52 : UInt8), (56 : UInt8), (52 : UInt8), (57 : UInt8)]).append ([(53 : UInt8), (48 : UInt8), (53 : UInt8), (49 : UInt8), (53 : UInt8), (50 : UInt8), (53 : UInt8), (51 : UInt8), (53 : UInt8), (52 : UInt8), (53 : UInt8), (53 : UInt8), (53 : UInt8), (54 : UInt8), (53 : UInt8), (55 : UInt8), (53 : UInt8), (56 : UInt8), (53 : UInt8), (57 : UInt8), (54 : UInt8), (48 : UInt8), (54 : UInt8), (49 : UInt8), (54 : UInt8), (50 : UInt8), (54 : UInt8), (51 : UInt8), (54 : UInt8), (52 : UInt8), (54 : UInt8), (53 : UInt8), (54 : UInt8), (54 : UInt8), (54 : UInt8), (55 : UInt8), (54 : UInt8), (56 : UInt8), (54 : UInt8), (57 : UInt8), (55 : UInt8), (48 : UInt8), (55 : UInt8), (49 : UInt8), (55 : UInt8), (50 : UInt8), (55 : UInt8), (51 : UInt8), (55 : UInt8), (52 : UInt8)].append [(55 : UInt8), (53 : UInt8), (55 : UInt8), (54 : UInt8), (55 : UInt8), (55 : UInt8), (55 : UInt8), (56 : UInt8), (55 : UInt8), (57 : UInt8), (56 : UInt8), (48 : UInt8), (56 : UInt8), (49 : UInt8), (56 : UInt8), (50 : UInt8), (56 : UInt8), (51 : UInt8), (56 : UInt8), (52 : UInt8), (56 : UInt8), (53 : UInt8), (56 : UInt8), (54 : UInt8), (56 : UInt8), (55 : UInt8), (56 : UInt8), (56 : UInt8), (56 : UInt8), (57 : UInt8), (57 : UInt8), (48 : UInt8), (57 : UInt8), (49 : UInt8), (57 : UInt8), (50 : UInt8), (57 : UInt8), (51 : UInt8), (57 : UInt8), (52 : UInt8), (57 : UInt8), (53 : UInt8), (57 : UInt8), (54 : UInt8), (57 : UInt8), (55 : UInt8), (57 : UInt8), (56 : UInt8), (57 : UInt8), (57 : UInt8)])).getD (IntKind.u32.wrap ((IntKind.u32.wrap (IntKind.u64.wrap (↑n : Int))).tmod (100 : Int) * (2 : Int))).toNat (0 : UInt8)).toNat : Int)) [(1 : Nat)] (IntKind.u8.wrap (IntKind.u32.wrap ((48 : Int) + IntKind.u32.wrap ((IntKind.u32.wrap (IntKind.u64.wrap (↑n : Int))).tdiv (100 : Int)))))) [] (1 : Nat) (3 : Nat) ∧ True) := by kernel_rfl

set_option maxHeartbeats 4000000 in
theorem it3 (F : Ix → Int) (n : Nat) (hF : F [2] = 100) (h : 100 ≤ n ∧ n < 128) :
    RunsTo Tryd.prog 99 [.code (bodyOf Tryd.f99)] (envOf [vN n] Tryd.f99.ntmps) (Sx.look (tabF F ++ ([]))) 80 (vS (dec n)) (Sx.look ([])) 200 := by
  have hu : IntKind.u64.wrap (n : Int) = (n : Int) := by simp only [IntKind.wrap, IntKind.bits, IntKind.signed]; simp; omega
  refine runs_last baseL7 (Sx.Ends.of (it3_p0 F n) ⟨?oo, ?rr⟩) (by kernel_rfl) rfl (gtL (by decide)) (by decide)
  case oo =>
    refine (okc ?_ (okc ?_ (okc ?_ (okc ?_ (okc ?_ okn)))))
    all_goals first | omega | (exact (show decide (F [2] ≤ (n : Int)) = true by rw [hF]; exact decide_eq_true (by omega))) | (exact (show decide (IntKind.u64.wrap (n : Int) ≥ F [2]) = true by rw [hu, hF]; exact decide_eq_true (by omega))) | (clear hF hu; first | omega | (have h2 : n < 128 := h.2; have h1 : 100 ≤ n := h.1; clear h; revert h1; revert h2; revert n; decide +kernel))
  case rr =>
    refine ⟨?_, ?_⟩ <;> first | trivial | (clear hF hu; first | omega | (have h2 : n < 128 := h.2; have h1 : 100 ≤ n := h.1; clear h; revert h1; revert h2; revert n; decide +kernel))

theorem it4_p0 (F : Ix → Int) (n : Nat) :
    isEnd (evTill Tryd.prog sumsL8 300 (99) 900 99 [.code (bodyOf Tryd.f99)] (envOf [vN n] Tryd.f99.ntmps) (tabF F ++ ([])) ⟨[.t, .t, .s false, .f, .s true, .t, .t, .t, .s true, .t, .t, .f, .f, .t, .t, .t, .s true, .s true, .t, .t, .t, .t, .t, .t, .t, .f, .t, .t, .t], 80⟩) (endP ([]) (vS (dec n)) ([]) 200) =
    (OkL [(decide ((↑n : Int) < (100 : Int)), false), (decide ((128 : Int) ≤ IntKind.u64.wrap (↑n : Int) ∧ IntKind.u64.wrap (↑n : Int) < (256 : Int)), true), (decide (IntKind.u64.wrap (↑n : Int) ≥ F [(2 : Nat)]), true), (decide ((0 : Int) ≤ IntKind.u32.wrap (IntKind.u32.wrap ((IntKind.u32.wrap (IntKind.u64.wrap (↑n : Int))).tmod (100 : Int) * (2 : Int)) + (1 : Int)) ∧ IntKind.u32.wrap (IntKind.u32.wrap ((IntKind.u32.wrap (IntKind.u64.wrap (↑n : Int))).tmod (100 : Int) * (2 : Int)) + (1 : Int)) < (↑(200 : Nat) : Int)), true), (decide ((0 : Int) ≤ IntKind.u32.wrap ((IntKind.u32.wrap (IntKind.u64.wrap (↑n : Int))).tmod (100 : Int) * (2 : Int)) ∧ IntKind.u32.wrap ((IntKind.u32.wrap (IntKind.u64.wrap (↑n : Int))).tmod (100 : Int) * (2 : Int)) < (↑(200 : Nat) : Int)), true)] ∧ dec n = bytesOf (upd (upd (upd (fun x => (0 : Int)) [(3 : Nat)] (↑((([(48 : UInt8), (48 : UInt8), (48 : UInt8), (49 : UInt8), (48 : UInt8), (50 : UInt8), (48 : UInt8), (51 : UInt8), (48 : UInt8), (52 : UInt8), (48 : UInt8), (53 : UInt8), (48 : UInt8), (54 : UInt8), (48 : UInt8), (55 : UInt8), (48 : UInt8), (56 : UInt8), (48 : UInt8), (57 : UInt8), (49 : UInt8), (48 : UInt8), (49 : UInt8), (49 : UInt8), (49 : UInt8), (50 : UInt8), (49 : UInt8), (51 : UInt8), (49 : UInt8), (52 : UInt8), (49 : UInt8), (53 : UInt8), (49 : UInt8), (54 : UInt8), (49 : UInt8), (55 : UInt8), (49 : UInt8), (56 : UInt8), (49 : UInt8), (57 : UInt8), (50 : UInt8), (48 : UInt8), (50 : UInt8), (49 : UInt8), (50 : UInt8), (50 : UInt8), (50 : UInt8), (51 : UInt8), (50 : UInt8), (52 : UInt8)].append [(50 : UInt8), (53 : UInt8), (50 : UInt8), (54 : UInt8), (50 : UInt8), (55 : UInt8), (50 : UInt8), (56 : UInt8), (50 : UInt8), (57 : UInt8), (51 : UInt8), (48 : UInt8), (51 : UInt8), (49 : UInt8), (51 : UInt8), (50 : UInt8), (51 : UInt8), (51 : UInt8), (51 : UInt8), (52 : UInt8), (51 : UInt8), (53 : UInt8), (51 : UInt8), (54 : UInt8), (51 : UInt8), (55 : UInt8), (51 : UInt8), (56 : UInt8), (51 : UInt8), (57 : UInt8), (52 : UInt8), (48 : UInt8), (52 : UInt8), (49 : UInt8), (52 : UInt8), (50 : UInt8), (52 : UInt8), (51 : UInt8), (52 : UInt8), (52 : UInt8), (52 : UInt8), (53 : UInt8), (52 : UInt8), (54 : UInt8), (52 : UInt8), (55 : UInt8), (52 : UInt8), (56 : UInt8), (52 : UInt8), (57 : UInt8)]).append ([(53 : UInt8), (48 : UInt8), (53 : UInt8), (49 : UInt8), (53 : UInt8), (50 : UInt8), (53 : UInt8), (51 : UInt8), (53 : UInt8), (52 : UInt8), (53 : UInt8), (53 : UInt8), (53 : UInt8), (54 : UInt8), (53 : UInt8), (55 : UInt8), (53 : UInt8), (56 : UInt8), (53 : UInt8), (57 : UInt8), (54 : UInt8), (48 : UInt8), (54 : UInt8), (49 : UInt8), (54 : UInt8), (50 : UInt8), (54 : UInt8), (51 : UInt8), (54 : UInt8), (52 : UInt8), (54 : UInt8), (53 : UInt8), (54 : UInt8), (54 : UInt8), (54 : UInt8), (55 : UInt8), (54 : UInt8), (56 : UInt8), (54 : UInt8), (57 : UInt8), (55 : UInt8), (48 : UInt8), (55 : UInt8), (49 : UInt8), (55 : UInt8), (50 : UInt8), (55 : UInt8), (51 : UInt8), (55 : UInt8), (52 : UInt8)].append [(55 : UInt8), (53 : UInt8), (55 : UInt8), (54 : UInt8), (55 : UInt8), (55 : UInt8), (55 : UInt8), (56 : UInt8), (55 : UInt8), (57 : UInt8), (56 : UInt8), (48 : UInt8), (56 : UInt8), (49 : UInt8), (56 : UInt8), (50 : UInt8), (56 : UInt8), (51 : UInt8), (56 : UInt8), (52 : UInt8), (56 : UInt8), (53 : UInt8), (56 : UInt8), (54 : UInt8), (56 : UInt8), (55 : UInt8), (56 : UInt8), (56 : UInt8), (56 : UInt8), (57 : UInt8), (57 : UInt8), (48 : UInt8), (57 : UInt8), (49 : UInt8), (57 : UInt8), (50 : UInt8), (57 : UInt8), (51 : UInt8), (57 : UInt8), (52 : UInt8), (57 : UInt8), (53 : UInt8), (57 : UInt8), (54 : UInt8), (57 : UInt8), (55 : UInt8), (57 : UInt8), (56 : UInt8), (57 : UInt8), (57 : UInt8)])).getD (IntKind.u32.wrap (IntKind.u32.wrap ((IntKind.u32.wrap (IntKind.u64.wrap (↑n : Int))).tmod (100 : Int) * (2 : Int)) + (1 : Int))).toNat (0 : UInt8)).toNat : Int)) [(2 : Nat)] (↑((([(48 : UInt8), (48 : UInt8), (48 : UInt8), (49 : UInt8), (48 : UInt8), (50 : UInt8), (48 : UInt8), (51 : UInt8), (48 : UInt8), (52 : UInt8), (48 : UInt8), (53 : UInt8), (48 : UInt8), (54 : UInt8), (48 : UInt8), (55 : UInt8), (48 : UInt8), (56 : UInt8), (48 : UInt8), (57 : UInt8), (49 : UInt8), (48 : UInt8), (49 : UInt8), (49 : UInt8), (49 : UInt8), (50 : UInt8), (49 : UInt8), (51 : UInt8), (49 : UInt8), (52 : UInt8), (49 : UInt8), (53 : UInt8), (49 : UInt8), (54 : UInt8), (49 : UInt8), (55 : UInt8), (49 : UInt8), (56 : UInt8), (49 : UInt8), (57 : UInt8), (50 : UInt8), (48 : UInt8), (50 : UInt8), (49 : UInt8), (50 : UInt8), (50 : UInt8), (50 : UInt8), (51 : UInt8), (50 : UInt8), (52 : UInt8)].append [(50 : UInt8), (53 : UInt8), (50 : UInt8), (54 : UInt8), (50 : UInt8), (55 : UInt8), (50 : UInt8), (56 : UInt8), (50 : UInt8), (57 : UInt8), (51 : UInt8), (48 : UInt8), (51 : UInt8), (49 : UInt8), (51 : UInt8), (50 : UInt8), (51 : UInt8), (51 : UInt8), (51 : UInt8), (52 : UInt8), (51 : UInt8), (53 : UInt8), (51 : UInt8), (54 : UInt8), (51 : UInt8), (55 : UInt8), (51 : UInt8), (56 : UInt8), (51 : UInt8), (57 : UInt8), (52 : UInt8), (48 : UInt8), (52 : UInt8), (49 : UInt8), (52 : UInt8), (50 : UInt8), (52 : UInt8), (51 : UInt8), (52 : UInt8), (52 : UInt8), (52 : UInt8), (53 : UInt8), (52 : UInt8), (54 : UInt8), (52 : UInt8), (55 : UInt8), (52 : UInt8), (56 : UInt8), (52 : UInt8), (57 : UInt8)]).append ([(53 : UInt8), (48 : UInt8), (53 : UInt8), (49 : UInt8), (53 : UInt8), (50 : UInt8), (53 : UInt8), (51 : UInt8), (53 : UInt8), (52 : UInt8), (53 : UInt8), (53 : UInt8), (53 : UInt8), (54 : UInt8), (53 : UInt8), (55 : UInt8), (53 : UInt8), (56 : UInt8), (53 : UInt8), (57 : UInt8), (54 : UInt8), (48 : UInt8), (54 : UInt8), (49 : UInt8), (54 : UInt8), (50 : UInt8), (54 : UInt8), (51 : UInt8), (54 : UInt8), (52 : UInt8), (54 : UInt8), (53 : UInt8), (54 : UInt8), (54 : UInt8), (54 : UInt8), (55 : UInt8), (54 : UInt8), (56 : UInt8), (54 : UInt8), (57 : UInt8), (55 : UInt8), (48 : UInt8), (55 : UInt8), (49 : UInt8), (55 : UInt8), (50 : UInt8), (55 : UInt8), (51 : UInt8), (55 : UInt8), (52 : UInt8)].append [(55 : UInt8), (53 : UInt8), (55 : UInt8), (54 : UInt8), (55 : UInt8), (55 : UInt8), (55 : UInt8), (56 : UInt8), (55 : UInt8), (57 : UInt8), (56 : UInt8), (48 : UInt8), (56 : UInt8), (49 : UInt8), (56 : UInt8), (50 : UInt8), (56 : UInt8), (51 : UInt8), (56 : UInt8), (52 : UInt8), (56 : UInt8), (53 : UInt8), (56 : UInt8), (54 : UInt8), (56 : UInt8), (55 : UInt8), (56 : UInt8), (56 : UInt8), (56 : UInt8), (57 : UInt8), (57 : UInt8), (48 : UInt8), (57 : UInt8), (49 : UInt8), (57 : UInt8), (50 : UInt8), (57 : UInt8), (51 : UInt8), (57 : UInt8), (52 : UInt8), (57 : UInt8), (53 : UInt8), (57 : UInt8), (54 : UInt8), (57 : UInt8), (55 : UInt8), (57 : UInt8), (56 : UInt8), (57 : UInt8), (57 : UInt8)])).getD (IntKind.u32.wrap ((IntKind.u32.wrap (IntKind.u64.wrap (↑n : Int))).tmod (100 : Int) * (2 : Int))).toNat (0 : UInt8)).toNat : Int)) [(1 : Nat)] (IntKind.u8.wrap (IntKind.u32.wrap ((48 : Int) + IntKind.u32.wrap ((IntKind.u32.wrap (IntKind.u64.wrap (↑n : Int))).tdiv (100 : Int)))))) [] (1 : Nat) (3 : Nat) ∧ True) := by kernel_rfl

set_option maxHeartbeats 4000000 in
theorem it4 (F : Ix → Int) (n : Nat) (hF : F [2] = 100) (h : 128 ≤ n ∧ n < 256) :
    RunsTo Tryd.prog 99 [.code (bodyOf Tryd.f99)] (envOf [vN n] Tryd.f99.ntmps) (Sx.look (tabF F ++ ([]))) 80 (vS (dec n)) (Sx.look ([])) 200 := by
  have hu : IntKind.u64.wrap (n : Int) = (n : Int) := by simp only [IntKind.wrap, IntKind.bits, IntKind.signed]; simp; omega
  refine runs_last baseL8 (Sx.Ends.of (it4_p0 F n) ⟨?oo, ?rr⟩) (by kernel_rfl) rfl (gtL (by decide)) (by decide)
  case oo =>
    refine (okc ?_ (okc ?_ (okc ?_ (okc ?_ (okc ?_ okn)))))
    all_goals first | omega | (exact (show decide (F [2] ≤ (n : Int)) = true by rw [hF]; exact decide_eq_true (by omega))) | (exact (show decide (IntKind.u64.wrap (n : Int) ≥ F [2]) = true by rw [hu, hF]; exact decide_eq_true (by omega))) | (clear hF hu; first | omega | (have h2 : n < 256 := h.2; have h1 : 128 ≤ n := h.1; clear h; revert h1; revert h2; revert n; decide +kernel))
  case rr =>
    refine ⟨?_, ?_⟩ <;> first | trivial | (clear hF hu; first | omega | (have h2 : n < 256 := h.2; have h1 : 128 ≤ n := h.1; clear h; revert h1; revert h2; revert n; decide +kernel))

theorem itI (F : Ix → Int) (c : Int) (hF : F [2] = 100) (h : 0 ≤ c ∧ c < 256) : RunsTo Tryd.prog 99 [.code (bodyOf Tryd.f99)] (envOf [vN c] Tryd.f99.ntmps) (Sx.look (tabF F ++ ([]))) 80 (vS (dec c.toNat)) (Sx.look []) 200 := by
  obtain ⟨n, rfl⟩ : ∃ n : Nat, c = n := ⟨c.toNat, by omega⟩
  rw [Int.toNat_natCast]
  by_cases h1 : n < 10
  · exact it1 F n hF ⟨by omega, h1⟩
  · by_cases h2 : n < 100
    · exact it2 F n hF ⟨by omega, h2⟩
    · by_cases h3 : n < 128
      · exact it3 F n hF ⟨by omega, h3⟩
      · exact it4 F n hF ⟨by omega, by omega⟩
def itP : PC := { args := [.v (.vi .i64 0)], heap := [], fams := [], tabs := [⟨20, false, 20, .tn 20 (.vi .u64 9)⟩], gs := [], G := 25, tp := 223, n := 80, n' := 200, cond := fun e => decide (0 ≤ eI e 0 [] ∧ eI e 0 [] < 256) && decide (eI e 9 [2] = 100), v := fun e => vS (dec (eI e 0 []).toNat), post := fun e => [] }
theorem itP_pc : PC.Runs Tryd.prog 99 Tryd.f99 (bodyOf Tryd.f99) itP := ⟨Tryd.func99, by kernel_rfl, (fun g hg => by first | cases hg | (revert g; decide)), fun e H hc => by
  have hc : (decide (0 ≤ eI e 0 [] ∧ eI e 0 [] < 256) && decide (eI e 9 [2] = 100)) = true := hc
  try simp only [Bool.and_eq_true, decide_eq_true_eq, Nat.beq_eq] at hc
  exact itI (eI e 9) (eI e 0 []) hc.2 hc.1⟩
def sumsN : List (FuncId × Summ) := [(95, wdP.summ 50), (99, itP.summ 50)]
theorem baseN : Base0 Tryd.prog sumsN := ((baseO.cons Tryd.func99 (by kernel_rfl) (PC.summ_ok itP_pc gtopG)).cons Tryd.func95 (by kernel_rfl) (PC.summ_ok wdP_pc gtopG))
theorem naOut_p0 (F : Ix → Int) (c : Int) :
    isEnd (evTill Tryd.prog sumsN 300 (99) 900 72 [.code (bodyOf Tryd.f72)] (envOf [vN c] Tryd.f72.ntmps) (tabF F ++ ([])) ⟨[.s false, .s true], 80⟩) (endP ([]) (vS (nameC c)) ([]) 240) =
    (OkL [(decide (c < (0 : Int)), false), (decide (c ≥ (256 : Int)), true)] ∧ nameC c = [] ∧ True) := by kernel_rfl
theorem naOut_p1 (F : Ix → Int) (c : Int) :
    isEnd (evTill Tryd.prog sumsN 300 (99) 900 72 [.code (bodyOf Tryd.f72)] (envOf [vN c] Tryd.f72.ntmps) (tabF F ++ ([])) ⟨[.s true], 80⟩) (endP ([]) (vS (nameC c)) ([]) 240) =
    (OkL [(decide (c < (0 : Int)), true)] ∧ nameC c = [] ∧ True) := by kernel_rfl

set_option maxHeartbeats 4000000 in
theorem naOut (F : Ix → Int) (c : Int) (h : c < 0 ∨ 255 < c) :
    RunsTo Tryd.prog 72 [.code (bodyOf Tryd.f72)] (envOf [vN c] Tryd.f72.ntmps) (Sx.look (tabF F ++ ([]))) 80 (vS (nameC c)) (Sx.look ([])) 240 := by
  have hn : nameC c = [] := if_pos h
  refine bcase (c := (decide (c < (0 : Int)))) (fun gg0 => ?_) (fun gg0 => ?_)
  · refine runs_last baseN (Sx.Ends.of (naOut_p0 F c) ⟨?oo, ?rr⟩) (by kernel_rfl) rfl (gtL (by decide)) (by decide)
    case oo =>
      refine (okc gg0 (okc ?_ okn))
      all_goals ((try simp (disch := omega) only [SS, hn]); first | done | omega | assumption | (simp (disch := omega) only [SS, hn] at *; first | done | omega | assumption) | (simp_all; done) | grind)
    case rr =>
      try simp (disch := omega) only [SS, hn]
      repeat' apply And.intro
      all_goals first | exact True.intro | with_reducible rfl | omega | (intros; first | exact True.intro | with_reducible rfl | omega | (simp_all; done)) | (simp_all; done) | rfl
  · refine runs_last baseN (Sx.Ends.of (naOut_p1 F c) ⟨?oo, ?rr⟩) (by kernel_rfl) rfl (gtL (by decide)) (by decide)
    case oo =>
      refine (okc gg0 okn)
      all_goals ((try simp (disch := omega) only [SS, hn]); first | done | omega | assumption | (simp (disch := omega) only [SS, hn] at *; first | done | omega | assumption) | (simp_all; done) | grind)
    case rr =>
      try simp (disch := omega) only [SS, hn]
      repeat' apply And.intro
      all_goals first | exact True.intro | with_reducible rfl | omega | (intros; first | exact True.intro | with_reducible rfl | omega | (simp_all; done)) | (simp_all; done) | rfl

theorem naWord_p0 (F : Ix → Int) (c : Int) :
    isEnd (evTill Tryd.prog sumsN 300 (99) 900 72 [.code (bodyOf Tryd.f72)] (envOf [vN c] Tryd.f72.ntmps) (tabF F ++ ([])) ⟨[.s false, .s false, .t, .s true], 80⟩) (endP ([]) (vS (nameC c)) ([]) 240) =
    (OkL [(decide (c < (0 : Int)), false), (decide (c ≥ (256 : Int)), false), (!wdC c == [], true)] ∧ nameC c = wdC c ∧ True) := by kernel_rfl

set_option maxHeartbeats 4000000 in
theorem naWord (F : Ix → Int) (c : Int) (h : ¬ (c < 0 ∨ 255 < c)) (hw : wdC c ≠ []) :
    RunsTo Tryd.prog 72 [.code (bodyOf Tryd.f72)] (envOf [vN c] Tryd.f72.ntmps) (Sx.look (tabF F ++ ([]))) 80 (vS (nameC c)) (Sx.look ([])) 240 := by
  have hn : nameC c = wdC c := by unfold nameC; rw [if_neg h, if_neg hw]
  refine runs_last baseN (Sx.Ends.of (naWord_p0 F c) ⟨?oo, ?rr⟩) (by kernel_rfl) rfl (gtL (by decide)) (by decide)
  case oo =>
    refine (okc ?_ (okc ?_ (okc ?_ okn)))
    all_goals ((try simp (disch := omega) only [SS, hn, hw]); first | done | omega | assumption | (simp (disch := omega) only [SS, hn, hw] at *; first | done | omega | assumption) | (simp_all; done) | grind)
  case rr =>
    try simp (disch := omega) only [SS, hn, hw]
    repeat' apply And.intro
    all_goals first | exact True.intro | with_reducible rfl | omega | (intros; first | exact True.intro | with_reducible rfl | omega | (simp_all; done)) | (simp_all; done) | rfl

theorem naFig_p0 (F : Ix → Int) (c : Int) :
    isEnd (evTill Tryd.prog sumsN 300 (99) 900 72 [.code (bodyOf Tryd.f72)] (envOf [vN c] Tryd.f72.ntmps) (tabF F ++ ([])) ⟨[.s false, .s false, .t, .s false, .s true], 80⟩) (endP ([]) (vS (nameC c)) ([]) 240) =
    (OkL [(decide (c < (0 : Int)), false), (decide (c ≥ (256 : Int)), false), (!wdC c == [], false), (decide ((0 : Int) ≤ c ∧ c < (256 : Int)) && decide (F [(2 : Nat)] = (100 : Int)), true)] ∧ nameC c = dec c.toNat ∧ True) := by kernel_rfl

set_option maxHeartbeats 4000000 in
theorem naFig (F : Ix → Int) (c : Int) (hF : F [2] = 100) (h : ¬ (c < 0 ∨ 255 < c)) (hw : wdC c = []) :
    RunsTo Tryd.prog 72 [.code (bodyOf Tryd.f72)] (envOf [vN c] Tryd.f72.ntmps) (Sx.look (tabF F ++ ([]))) 80 (vS (nameC c)) (Sx.look ([])) 240 := by
  have hn : nameC c = dec c.toNat := by unfold nameC; rw [if_neg h, if_pos hw]
  refine runs_last baseN (Sx.Ends.of (naFig_p0 F c) ⟨?oo, ?rr⟩) (by kernel_rfl) rfl (gtL (by decide)) (by decide)
  case oo =>
    refine (okc ?_ (okc ?_ (okc ?_ (okc ?_ okn))))
    all_goals ((try simp (disch := omega) only [SS, hn, hw, hF]); first | done | omega | assumption | (simp (disch := omega) only [SS, hn, hw, hF] at *; first | done | omega | assumption) | (simp_all; done) | grind)
  case rr =>
    try simp (disch := omega) only [SS, hn, hw, hF]
    repeat' apply And.intro
    all_goals first | exact True.intro | with_reducible rfl | omega | (intros; first | exact True.intro | with_reducible rfl | omega | (simp_all; done)) | (simp_all; done) | rfl

theorem naI (F : Ix → Int) (c : Int) (hF : F [2] = 100) : RunsTo Tryd.prog 72 [.code (bodyOf Tryd.f72)] (envOf [vN c] Tryd.f72.ntmps) (Sx.look (tabF F ++ ([]))) 80 (vS (nameC c)) (Sx.look []) 240 := by
  by_cases h : c < 0 ∨ 255 < c
  · exact naOut F c h
  · by_cases hw : wdC c = []
    · exact naFig F c hF h hw
    · exact naWord F c h hw
def naP : PC := { args := [.v (.vi .i64 0)], heap := [], fams := [], tabs := [⟨20, false, 20, .tn 20 (.vi .u64 9)⟩], gs := [], G := 25, tp := 223, n := 80, n' := 240, cond := fun e => decide (eI e 9 [2] = 100), v := fun e => vS (nameC (eI e 0 [])), post := fun e => [] }
theorem naP_pc : PC.Runs Tryd.prog 72 Tryd.f72 (bodyOf Tryd.f72) naP := ⟨Tryd.func72, by kernel_rfl, (fun g hg => by first | cases hg | (revert g; decide)), fun e H hc => by
  have hc : (decide (eI e 9 [2] = 100)) = true := hc
  try simp only [Bool.and_eq_true, decide_eq_true_eq, Nat.beq_eq] at hc
  exact naI (eI e 9) (eI e 0 []) hc⟩
end Go.Proofs.YtealbjkhjpmilaaDoor
