/- Telling: what is told is read as it was: back's contract. -/
import Derived.Test.YtcphocfnhekdaaaDoorUiC
import Derived.Test.YtcphocfnhekdaaaDoorUdC
import Derived.Test.YtcphocfnhekdaaaDoorSyY
import Derived.Test.YtcphocfnhekdaaaDoorSyPl
import Derived.Lay
import Derived.Test.YtcphocfnhekdaaaDoorTie
import Derived.Test.YtcphocfnhekdaaaDoorCards
set_option linter.unusedSimpArgs false
set_option linter.unusedVariables false
set_option maxRecDepth 100000
namespace Go.Proofs.YtcphocfnhekdaaaDoor
open Go.Sx

open GramR
def sumsKOk : List (FuncId × Summ) := [(31, alOkP.summ 38), (33, xaP.summ 38)]
theorem baseKOk : Base0 Tryd.prog sumsKOk := ((baseO.cons Tryd.func33 (by kernel_rfl) (PC.summ_ok xaP_pc gtopG)).cons Tryd.func31 (by kernel_rfl) (PC.summ_ok alOkP_pc gtopG))
def sumsKKi : List (FuncId × Summ) := [(31, alKiP.summ 38), (33, xaP.summ 38)]
theorem baseKKi : Base0 Tryd.prog sumsKKi := ((baseO.cons Tryd.func33 (by kernel_rfl) (PC.summ_ok xaP_pc gtopG)).cons Tryd.func31 (by kernel_rfl) (PC.summ_ok alKiP_pc gtopG))
def sumsKRa : List (FuncId × Summ) := [(31, alRaP.summ 38), (33, xaP.summ 38)]
theorem baseKRa : Base0 Tryd.prog sumsKRa := ((baseO.cons Tryd.func33 (by kernel_rfl) (PC.summ_ok xaP_pc gtopG)).cons Tryd.func31 (by kernel_rfl) (PC.summ_ok alRaP_pc gtopG))
def sumsKLo : List (FuncId × Summ) := [(31, alLoP.summ 38), (33, xaP.summ 38)]
theorem baseKLo : Base0 Tryd.prog sumsKLo := ((baseO.cons Tryd.func33 (by kernel_rfl) (PC.summ_ok xaP_pc gtopG)).cons Tryd.func31 (by kernel_rfl) (PC.summ_ok alLoP_pc gtopG))
theorem bkEKi_p0 (t1 t2 t3 : List UInt8) (N R : Nat) (K C O : Ix → Int) (m n : Ix → Nat) (CU : Ix → Bool) (ls : Nat → Nat) (F : Ix → Int) :
    isEnd (evTill Tryd.prog sumsKKi 400 (99) 900 38 [.code (bodyOf Tryd.f38)] (envOf [vL 61 5 N] Tryd.f38.ntmps) (sentEnts 19 144 [(1, t1), (2, t2), (3, t3)] ++ (pR 61 62 N K C O m n CU ++ pF 62 R ls F) ++ ([])) ⟨[.s true, .s true, .t], 80⟩) (endP ([]) (YES) ([]) 2000) =
    (OkL [(N.beq N, true), (decide (N ≤ (1000 : Nat)) && (okRow N R m n ls F && decide (alE K C O m n CU F N (0 : Nat) = (1 : Nat))), true)] ∧ true = true ∧ True) := by kernel_rfl

set_option maxHeartbeats 4000000 in
theorem bkEKi (t1 t2 t3 : List UInt8) (N R : Nat) (K C O : Ix → Int) (m n : Ix → Nat) (CU : Ix → Bool) (ls : Nat → Nat) (F : Ix → Int) (hN : N ≤ 700) (hok : okRow N R m n ls F = true) (he : alE K C O m n CU F N 0 = 1)  :
    RunsTo Tryd.prog 38 [.code (bodyOf Tryd.f38)] (envOf [vL 61 5 N] Tryd.f38.ntmps) (Sx.look (sentEnts 19 144 [(1, t1), (2, t2), (3, t3)] ++ (pR 61 62 N K C O m n CU ++ pF 62 R ls F) ++ ([]))) 80 (YES) (Sx.look ([])) 2000 := by
  refine runs_last baseKKi (Sx.Ends.of (bkEKi_p0 t1 t2 t3 N R K C O m n CU ls F) ⟨?oo, ?rr⟩) (by kernel_rfl) rfl (gtL (by decide)) (by decide)
  case oo =>
    refine (okc ?_ (okc ?_ okn))
    all_goals first | omega | exact ⟨hok, he⟩ | (simp (disch := omega) only [SS]; first | done | omega | exact ⟨hok, he⟩ | exact ⟨by omega, hok, he⟩ | exact ⟨by omega, hbn⟩ | exact hbn) | (simp_all; done) | (simp_all; omega)
  case rr =>
    try simp (disch := omega) only [SS]
    repeat' apply And.intro
    all_goals first | exact True.intro | with_reducible rfl | omega | (intros; first | exact True.intro | with_reducible rfl | omega | (simp_all; done)) | (simp_all; done) | rfl

theorem bkERa_p0 (t1 t2 t3 : List UInt8) (N R : Nat) (K C O : Ix → Int) (m n : Ix → Nat) (CU : Ix → Bool) (ls : Nat → Nat) (F : Ix → Int) :
    isEnd (evTill Tryd.prog sumsKRa 400 (99) 900 38 [.code (bodyOf Tryd.f38)] (envOf [vL 61 5 N] Tryd.f38.ntmps) (sentEnts 19 144 [(1, t1), (2, t2), (3, t3)] ++ (pR 61 62 N K C O m n CU ++ pF 62 R ls F) ++ ([])) ⟨[.s true, .s true, .t], 80⟩) (endP ([]) (YES) ([]) 2000) =
    (OkL [(N.beq N, true), (decide (N ≤ (1000 : Nat)) && (okRow N R m n ls F && decide (alE K C O m n CU F N (0 : Nat) = (2 : Nat))), true)] ∧ true = true ∧ True) := by kernel_rfl

set_option maxHeartbeats 4000000 in
theorem bkERa (t1 t2 t3 : List UInt8) (N R : Nat) (K C O : Ix → Int) (m n : Ix → Nat) (CU : Ix → Bool) (ls : Nat → Nat) (F : Ix → Int) (hN : N ≤ 700) (hok : okRow N R m n ls F = true) (he : alE K C O m n CU F N 0 = 2)  :
    RunsTo Tryd.prog 38 [.code (bodyOf Tryd.f38)] (envOf [vL 61 5 N] Tryd.f38.ntmps) (Sx.look (sentEnts 19 144 [(1, t1), (2, t2), (3, t3)] ++ (pR 61 62 N K C O m n CU ++ pF 62 R ls F) ++ ([]))) 80 (YES) (Sx.look ([])) 2000 := by
  refine runs_last baseKRa (Sx.Ends.of (bkERa_p0 t1 t2 t3 N R K C O m n CU ls F) ⟨?oo, ?rr⟩) (by kernel_rfl) rfl (gtL (by decide)) (by decide)
  case oo =>
    refine (okc ?_ (okc ?_ okn))
    all_goals first | omega | exact ⟨hok, he⟩ | (simp (disch := omega) only [SS]; first | done | omega | exact ⟨hok, he⟩ | exact ⟨by omega, hok, he⟩ | exact ⟨by omega, hbn⟩ | exact hbn) | (simp_all; done) | (simp_all; omega)
  case rr =>
    try simp (disch := omega) only [SS]
    repeat' apply And.intro
    all_goals first | exact True.intro | with_reducible rfl | omega | (intros; first | exact True.intro | with_reducible rfl | omega | (simp_all; done)) | (simp_all; done) | rfl

theorem bkELo_p0 (t1 t2 t3 : List UInt8) (N R : Nat) (K C O : Ix → Int) (m n : Ix → Nat) (CU : Ix → Bool) (ls : Nat → Nat) (F : Ix → Int) :
    isEnd (evTill Tryd.prog sumsKLo 400 (99) 900 38 [.code (bodyOf Tryd.f38)] (envOf [vL 61 5 N] Tryd.f38.ntmps) (sentEnts 19 144 [(1, t1), (2, t2), (3, t3)] ++ (pR 61 62 N K C O m n CU ++ pF 62 R ls F) ++ ([])) ⟨[.s true, .s true, .t], 80⟩) (endP ([]) (YES) ([]) 2000) =
    (OkL [(N.beq N, true), (decide (N ≤ (1000 : Nat)) && (okRow N R m n ls F && decide (alE K C O m n CU F N (0 : Nat) = (3 : Nat))), true)] ∧ true = true ∧ True) := by kernel_rfl

set_option maxHeartbeats 4000000 in
theorem bkELo (t1 t2 t3 : List UInt8) (N R : Nat) (K C O : Ix → Int) (m n : Ix → Nat) (CU : Ix → Bool) (ls : Nat → Nat) (F : Ix → Int) (hN : N ≤ 700) (hok : okRow N R m n ls F = true) (he : alE K C O m n CU F N 0 = 3)  :
    RunsTo Tryd.prog 38 [.code (bodyOf Tryd.f38)] (envOf [vL 61 5 N] Tryd.f38.ntmps) (Sx.look (sentEnts 19 144 [(1, t1), (2, t2), (3, t3)] ++ (pR 61 62 N K C O m n CU ++ pF 62 R ls F) ++ ([]))) 80 (YES) (Sx.look ([])) 2000 := by
  refine runs_last baseKLo (Sx.Ends.of (bkELo_p0 t1 t2 t3 N R K C O m n CU ls F) ⟨?oo, ?rr⟩) (by kernel_rfl) rfl (gtL (by decide)) (by decide)
  case oo =>
    refine (okc ?_ (okc ?_ okn))
    all_goals first | omega | exact ⟨hok, he⟩ | (simp (disch := omega) only [SS]; first | done | omega | exact ⟨hok, he⟩ | exact ⟨by omega, hok, he⟩ | exact ⟨by omega, hbn⟩ | exact hbn) | (simp_all; done) | (simp_all; omega)
  case rr =>
    try simp (disch := omega) only [SS]
    repeat' apply And.intro
    all_goals first | exact True.intro | with_reducible rfl | omega | (intros; first | exact True.intro | with_reducible rfl | omega | (simp_all; done)) | (simp_all; done) | rfl

theorem bkStart_p0 (t1 t2 t3 : List UInt8) (N R : Nat) (K C O : Ix → Int) (m n : Ix → Nat) (CU : Ix → Bool) (ls : Nat → Nat) (F : Ix → Int) (b : List UInt8) (T : List Tk) :
    isMore (evTill Tryd.prog sumsKOk 400 (behind Tryd.f38 0) 900 38 [.code (bodyOf Tryd.f38)] (envOf [vL 61 5 N] Tryd.f38.ntmps) (sentEnts 19 144 [(1, t1), (2, t2), (3, t3)] ++ (pR 61 62 N K C O m n CU ++ pF 62 R ls F) ++ ([])) ⟨[.s true, .s true, .f, .s true, .s false, .s false], 80⟩) (moreP (headOf Tryd.f38 0) ([((121 : Nat), Rn.to (1022 : Nat)), ((122 : Nat), Rn.to (1023 : Nat))]) Tryd.f38.ntmps ([(5, vL 121 5 T.length), (34, vL 61 5 N), (35, vN N), (36, vN (0 : Nat))]) (toK 121 122 T) 2000) =
    (OkL [(N.beq N, true), (decide (N ≤ (1000 : Nat)) && (okRow N R m n ls F && decide (alE K C O m n CU F N (0 : Nat) = (0 : Nat))), true), (decide ((alB K C O m n CU F N).length ≤ (400000 : Nat)) && (decide ((alB K C O m n CU F N).length ≤ (alB K C O m n CU F N).length) && bndB (fun is => (↑((alB K C O m n CU F N).getD (List.headD is (0 : Nat)) (0 : UInt8)).toNat : Int)) (alB K C O m n CU F N).length), true), (!xaL (alB K C O m n CU F N).length fun is => (↑((alB K C O m n CU F N).getD (List.headD is (0 : Nat)) (0 : UInt8)).toNat : Int), false), ((↑(xaT (alB K C O m n CU F N).length fun is => (↑((alB K C O m n CU F N).getD (List.headD is (0 : Nat)) (0 : UInt8)).toNat : Int)).length : Int) != (↑N : Int), false)] ∧ headOf Tryd.f38 (0 : Nat) = headOf Tryd.f38 (0 : Nat) ∧ (((0 : Nat) = (0 : Nat) ∧ T.length = (xaT (alB K C O m n CU F N).length fun is => (↑((alB K C O m n CU F N).getD (List.headD is (0 : Nat)) (0 : UInt8)).toNat : Int)).length) ∧ ((0 : Nat) = (0 : Nat) ∧ N = N) ∧ (↑N : Int) = (↑N : Int) ∧ (↑(0 : Nat) : Int) = (0 : Int)) ∧ (T.length = (xaT (alB K C O m n CU F N).length fun is => (↑((alB K C O m n CU F N).getD (List.headD is (0 : Nat)) (0 : UInt8)).toNat : Int)).length ∧ (∀ (i : Nat), i < T.length → kK T [i] = kK (xaT (alB K C O m n CU F N).length fun is => (↑((alB K C O m n CU F N).getD (List.headD is (0 : Nat)) (0 : UInt8)).toNat : Int)) [i]) ∧ (∀ (i : Nat), i < T.length → kC T [i] = kC (xaT (alB K C O m n CU F N).length fun is => (↑((alB K C O m n CU F N).getD (List.headD is (0 : Nat)) (0 : UInt8)).toNat : Int)) [i]) ∧ (∀ (i : Nat), i < T.length → kO T [i] = kO (xaT (alB K C O m n CU F N).length fun is => (↑((alB K C O m n CU F N).getD (List.headD is (0 : Nat)) (0 : UInt8)).toNat : Int)) [i]) ∧ ((∀ (i : Nat), i < T.length → kM T [i] = kM (xaT (alB K C O m n CU F N).length fun is => (↑((alB K C O m n CU F N).getD (List.headD is (0 : Nat)) (0 : UInt8)).toNat : Int)) [i]) ∧ ∀ (i : Nat), i < T.length → kL T [i] = kL (xaT (alB K C O m n CU F N).length fun is => (↑((alB K C O m n CU F N).getD (List.headD is (0 : Nat)) (0 : UInt8)).toNat : Int)) [i]) ∧ ∀ (i : Nat), i < T.length → kU T [i] = kU (xaT (alB K C O m n CU F N).length fun is => (↑((alB K C O m n CU F N).getD (List.headD is (0 : Nat)) (0 : UInt8)).toNat : Int)) [i]) ∧ T.length = (xaT (alB K C O m n CU F N).length fun is => (↑((alB K C O m n CU F N).getD (List.headD is (0 : Nat)) (0 : UInt8)).toNat : Int)).length ∧ ∀ (m_1 : Nat), m_1 < T.length → gL T m_1 = gL (xaT (alB K C O m n CU F N).length fun is => (↑((alB K C O m n CU F N).getD (List.headD is (0 : Nat)) (0 : UInt8)).toNat : Int)) m_1 ∧ ∀ (i : Nat), i < gL T m_1 → gB T [m_1, i] = gB (xaT (alB K C O m n CU F N).length fun is => (↑((alB K C O m n CU F N).getD (List.headD is (0 : Nat)) (0 : UInt8)).toNat : Int)) [m_1, i]) := by kernel_rfl

set_option maxHeartbeats 4000000 in
theorem bkStart (t1 t2 t3 : List UInt8) (N R : Nat) (K C O : Ix → Int) (m n : Ix → Nat) (CU : Ix → Bool) (ls : Nat → Nat) (F : Ix → Int) (b : List UInt8) (T : List Tk) (hN : N ≤ 700) (hok : okRow N R m n ls F = true) (he : alE K C O m n CU F N 0 = 0) (hb : alB K C O m n CU F N = b) (hl : b.length ≤ 400000) (hbn : bndB (fun is => ((b.getD (is.headD 0) 0).toNat : Int)) b.length = true) (hT : xaT b.length (fun is => ((b.getD (is.headD 0) 0).toNat : Int)) = T) (hL : xaL b.length (fun is => ((b.getD (is.headD 0) 0).toNat : Int)) = true) (hTl : T.length = N)  (next : RunsTo Tryd.prog 38 (headOf Tryd.f38 0) (envAt Tryd.f38.ntmps ([(5, vL 121 5 T.length), (34, vL 61 5 N), (35, vN N), (36, vN (0 : Nat))])) (Sx.look (sentEnts 19 144 [(1, t1), (2, t2), (3, t3)] ++ (pR 61 62 N K C O m n CU ++ pF 62 R ls F) ++ (toK 121 122 T))) 80 (YES) (Sx.look []) 2000) :
    RunsTo Tryd.prog 38 [.code (bodyOf Tryd.f38)] (envOf [vL 61 5 N] Tryd.f38.ntmps) (Sx.look (sentEnts 19 144 [(1, t1), (2, t2), (3, t3)] ++ (pR 61 62 N K C O m n CU ++ pF 62 R ls F) ++ ([]))) 80 (YES) (Sx.look []) 2000 := by
  refine runs_more baseKOk (More.of (bkStart_p0 t1 t2 t3 N R K C O m n CU ls F b T) ⟨?oo, rfl, ?rr⟩) (by kernel_rfl) (by kernel_rfl) rfl (gtL (by decide)) (by decide) next
  case oo =>
    clear next
    refine (okc ?_ (okc ?_ (okc ?_ (okc ?_ (okc ?_ okn)))))
    all_goals first | omega | exact ⟨hok, he⟩ | (simp (disch := omega) only [SS, hb, hT, hL, hTl]; first | done | omega | exact ⟨hok, he⟩ | exact ⟨by omega, hok, he⟩ | exact ⟨by omega, hbn⟩ | exact hbn) | (simp_all; done) | (simp_all; omega)
  case rr =>
    clear next
    try simp (disch := omega) only [SS, hb, hT, hL, hTl]
    repeat' apply And.intro
    all_goals first | exact True.intro | with_reducible rfl | omega | (intros; first | exact True.intro | with_reducible rfl | omega | (simp_all; done)) | (simp_all; done) | rfl

theorem bkA_p0 (t1 t2 t3 : List UInt8) (N R : Nat) (K C O : Ix → Int) (m n : Ix → Nat) (CU : Ix → Bool) (ls : Nat → Nat) (F : Ix → Int) (T : List Tk) (i : Nat) :
    isMore (evTill Tryd.prog sumsKOk 400 (behind Tryd.f38 0) 900 38 (headOf Tryd.f38 0) (envAt Tryd.f38.ntmps ([(5, vL 121 5 T.length), (34, vL 61 5 N), (35, vN N), (36, vN (i : Nat))])) (sentEnts 19 144 [(1, t1), (2, t2), (3, t3)] ++ (pR 61 62 N K C O m n CU ++ pF 62 R ls F) ++ (toK 121 122 T)) ⟨[.s true, .s true, .s true, .s true, .s true, .s false, .s false, .s false, .s true, .s true, .s true, .s true, .s true, .s true, .s true, .s true, .s true, .s false], 130⟩) (moreP (headOf Tryd.f38 0) ([]) Tryd.f38.ntmps ([(5, vL 121 5 T.length), (34, vL 61 5 N), (35, vN N), (36, vN (i + 1 : Nat))]) (toK 121 122 T) 2000) =
    (OkL [(decide ((↑i : Int) < (↑N : Int)), true), (decide ((0 : Int) ≤ (↑i : Int) ∧ (↑i : Int) < (↑N : Int)), true), (((0 : Nat) + (↑i : Int).toNat).blt N, true), (((0 : Nat) + (↑i : Int).toNat).blt N, true), (K [(0 : Nat) + (↑i : Int).toNat] != (4 : Int), true), (K [(0 : Nat) + (↑i : Int).toNat] == (3 : Int), false), (K [(0 : Nat) + (↑i : Int).toNat] == (4 : Int), false), (K [(0 : Nat) + (↑i : Int).toNat] == (4 : Int), false), (decide ((0 : Int) ≤ (↑i : Int) ∧ (↑i : Int) < (↑T.length : Int)), true), (((0 : Nat) + (↑i : Int).toNat).blt T.length, true), (((0 : Nat) + (↑i : Int).toNat).blt T.length, true), (kK T [(0 : Nat) + (↑i : Int).toNat] == K [(0 : Nat) + (↑i : Int).toNat], true), (kC T [(0 : Nat) + (↑i : Int).toNat] == C [(0 : Nat) + (↑i : Int).toNat], true), (kO T [(0 : Nat) + (↑i : Int).toNat] == (0 : Int), true), (kU T [(0 : Nat) + (↑i : Int).toNat] == false, true), ((kM T [(0 : Nat) + (↑i : Int).toNat]).blt T.length, true), (((0 : Nat) + kL T [(0 : Nat) + (↑i : Int).toNat]).ble (gL T (kM T [(0 : Nat) + (↑i : Int).toNat])), true), (!bytesOf (gB T) [kM T [(0 : Nat) + (↑i : Int).toNat]] (0 : Nat) (kL T [(0 : Nat) + (↑i : Int).toNat]) == [], false)] ∧ headOf Tryd.f38 (0 : Nat) = headOf Tryd.f38 (0 : Nat) ∧ (((0 : Nat) = (0 : Nat) ∧ T.length = T.length) ∧ ((0 : Nat) = (0 : Nat) ∧ N = N) ∧ (↑N : Int) = (↑N : Int) ∧ (↑(i + (1 : Nat)) : Int) = IntKind.i64.wrap ((↑i : Int) + (1 : Int))) ∧ (T.length = T.length ∧ (∀ (i : Nat), i < T.length → kK T [i] = kK T [i]) ∧ (∀ (i : Nat), i < T.length → kC T [i] = kC T [i]) ∧ (∀ (i : Nat), i < T.length → kO T [i] = kO T [i]) ∧ ((∀ (i : Nat), i < T.length → kM T [i] = kM T [i]) ∧ ∀ (i : Nat), i < T.length → kL T [i] = kL T [i]) ∧ ∀ (i : Nat), i < T.length → kU T [i] = kU T [i]) ∧ T.length = T.length ∧ ∀ (m : Nat), m < T.length → gL T m = gL T m ∧ ∀ (i : Nat), i < gL T m → gB T [m, i] = gB T [m, i]) := by kernel_rfl

set_option maxHeartbeats 4000000 in
theorem bkA (t1 t2 t3 : List UInt8) (N R : Nat) (K C O : Ix → Int) (m n : Ix → Nat) (CU : Ix → Bool) (ls : Nat → Nat) (F : Ix → Int) (T : List Tk) (i : Nat) (hi : i < N) (hN : N ≤ 700) (hTl : T.length = N) (h1 : m [i] < R) (h2 : n [i] ≤ ls (m [i])) (hk : kK T [i] = K [i]) (hu : kU T [i] = false) (h3 : K [i] ≠ 3) (h4 : K [i] ≠ 4) (hc : kC T [i] = C [i]) (ho : kO T [i] = 0) (hl : kL T [i] = 0)  (next : RunsTo Tryd.prog 38 (headOf Tryd.f38 0) (envAt Tryd.f38.ntmps ([(5, vL 121 5 T.length), (34, vL 61 5 N), (35, vN N), (36, vN (i + 1 : Nat))])) (Sx.look (sentEnts 19 144 [(1, t1), (2, t2), (3, t3)] ++ (pR 61 62 N K C O m n CU ++ pF 62 R ls F) ++ (toK 121 122 T))) 80 (YES) (Sx.look []) 2000) :
    RunsTo Tryd.prog 38 (headOf Tryd.f38 0) (envAt Tryd.f38.ntmps ([(5, vL 121 5 T.length), (34, vL 61 5 N), (35, vN N), (36, vN (i : Nat))])) (Sx.look (sentEnts 19 144 [(1, t1), (2, t2), (3, t3)] ++ (pR 61 62 N K C O m n CU ++ pF 62 R ls F) ++ (toK 121 122 T))) 80 (YES) (Sx.look []) 2000 := by
  have hw : IntKind.i64.wrap ((i : Int) + 1) = ((i + 1 : Nat) : Int) := by rw [wr64 (by omega)]; rfl
  have hb0 : ∀ (B : Ix → Int) (is : Ix), bytesOf B is 0 0 = [] := fun _ _ => rfl
  have hmk' : kM T [i] < T.length := by simp only [kM]; omega
  have hgl : kL T [i] ≤ gL T (kM T [i]) := by simp only [kL, gL, kM, List.headD]; rw [show T.length - 1 - (T.length - 1 - i) = i by omega]; exact Nat.le_refl _
  refine runs_more baseKOk (More.of (bkA_p0 t1 t2 t3 N R K C O m n CU ls F T i) ⟨?oo, rfl, ?rr⟩) (by kernel_rfl) (by kernel_rfl) rfl (gtL (by decide)) (by decide) next
  case oo =>
    clear next
    refine (okc ?_ (okc ?_ (okc ?_ (okc ?_ (okc ?_ (okc ?_ (okc ?_ (okc ?_ (okc ?_ (okc ?_ (okc ?_ (okc ?_ (okc ?_ (okc ?_ (okc ?_ (okc ?_ (okc ?_ (okc ?_ okn))))))))))))))))))
    all_goals ((try simp (disch := omega) only [SS, hw, hk, hu, hc, ho, hl, hb0]); first | done | omega | assumption | (simp (disch := omega) only [SS, hw, hk, hu, hc, ho, hl, hb0] at *; first | done | omega | assumption) | (simp_all; done))
  case rr =>
    clear next
    try simp (disch := omega) only [SS, hw, hk, hu, hc, ho, hl, hb0]
    repeat' apply And.intro
    all_goals first | exact True.intro | with_reducible rfl | omega | (intros; first | exact True.intro | with_reducible rfl | omega | (simp_all; done)) | (simp_all; done) | rfl

theorem bkV_p0 (t1 t2 t3 : List UInt8) (N R : Nat) (K C O : Ix → Int) (m n : Ix → Nat) (CU : Ix → Bool) (ls : Nat → Nat) (F : Ix → Int) (T : List Tk) (i : Nat) :
    isMore (evTill Tryd.prog sumsKOk 400 (behind Tryd.f38 0) 900 38 (headOf Tryd.f38 0) (envAt Tryd.f38.ntmps ([(5, vL 121 5 T.length), (34, vL 61 5 N), (35, vN N), (36, vN (i : Nat))])) (sentEnts 19 144 [(1, t1), (2, t2), (3, t3)] ++ (pR 61 62 N K C O m n CU ++ pF 62 R ls F) ++ (toK 121 122 T)) ⟨[.s true, .s true, .s true, .s true, .s true, .s true, .s false, .s true, .s true, .s true, .s true, .s true, .s true, .s true, .s true, .s true, .s false], 130⟩) (moreP (headOf Tryd.f38 0) ([]) Tryd.f38.ntmps ([(5, vL 121 5 T.length), (34, vL 61 5 N), (35, vN N), (36, vN (i + 1 : Nat))]) (toK 121 122 T) 2000) =
    (OkL [(decide ((↑i : Int) < (↑N : Int)), true), (decide ((0 : Int) ≤ (↑i : Int) ∧ (↑i : Int) < (↑N : Int)), true), (((0 : Nat) + (↑i : Int).toNat).blt N, true), (((0 : Nat) + (↑i : Int).toNat).blt N, true), (K [(0 : Nat) + (↑i : Int).toNat] != (4 : Int), true), (K [(0 : Nat) + (↑i : Int).toNat] == (3 : Int), true), (K [(0 : Nat) + (↑i : Int).toNat] == (4 : Int), false), (decide ((0 : Int) ≤ (↑i : Int) ∧ (↑i : Int) < (↑T.length : Int)), true), (((0 : Nat) + (↑i : Int).toNat).blt T.length, true), (((0 : Nat) + (↑i : Int).toNat).blt T.length, true), (kK T [(0 : Nat) + (↑i : Int).toNat] == K [(0 : Nat) + (↑i : Int).toNat], true), (kC T [(0 : Nat) + (↑i : Int).toNat] == C [(0 : Nat) + (↑i : Int).toNat], true), (kO T [(0 : Nat) + (↑i : Int).toNat] == O [(0 : Nat) + (↑i : Int).toNat], true), (kU T [(0 : Nat) + (↑i : Int).toNat] == false, true), ((kM T [(0 : Nat) + (↑i : Int).toNat]).blt T.length, true), (((0 : Nat) + kL T [(0 : Nat) + (↑i : Int).toNat]).ble (gL T (kM T [(0 : Nat) + (↑i : Int).toNat])), true), (!bytesOf (gB T) [kM T [(0 : Nat) + (↑i : Int).toNat]] (0 : Nat) (kL T [(0 : Nat) + (↑i : Int).toNat]) == [], false)] ∧ headOf Tryd.f38 (0 : Nat) = headOf Tryd.f38 (0 : Nat) ∧ (((0 : Nat) = (0 : Nat) ∧ T.length = T.length) ∧ ((0 : Nat) = (0 : Nat) ∧ N = N) ∧ (↑N : Int) = (↑N : Int) ∧ (↑(i + (1 : Nat)) : Int) = IntKind.i64.wrap ((↑i : Int) + (1 : Int))) ∧ (T.length = T.length ∧ (∀ (i : Nat), i < T.length → kK T [i] = kK T [i]) ∧ (∀ (i : Nat), i < T.length → kC T [i] = kC T [i]) ∧ (∀ (i : Nat), i < T.length → kO T [i] = kO T [i]) ∧ ((∀ (i : Nat), i < T.length → kM T [i] = kM T [i]) ∧ ∀ (i : Nat), i < T.length → kL T [i] = kL T [i]) ∧ ∀ (i : Nat), i < T.length → kU T [i] = kU T [i]) ∧ T.length = T.length ∧ ∀ (m : Nat), m < T.length → gL T m = gL T m ∧ ∀ (i : Nat), i < gL T m → gB T [m, i] = gB T [m, i]) := by kernel_rfl

set_option maxHeartbeats 4000000 in
theorem bkV (t1 t2 t3 : List UInt8) (N R : Nat) (K C O : Ix → Int) (m n : Ix → Nat) (CU : Ix → Bool) (ls : Nat → Nat) (F : Ix → Int) (T : List Tk) (i : Nat) (hi : i < N) (hN : N ≤ 700) (hTl : T.length = N) (h1 : m [i] < R) (h2 : n [i] ≤ ls (m [i])) (hk : kK T [i] = K [i]) (hu : kU T [i] = false) (h3 : K [i] = 3) (hc : kC T [i] = C [i]) (ho : kO T [i] = O [i]) (hl : kL T [i] = 0)  (next : RunsTo Tryd.prog 38 (headOf Tryd.f38 0) (envAt Tryd.f38.ntmps ([(5, vL 121 5 T.length), (34, vL 61 5 N), (35, vN N), (36, vN (i + 1 : Nat))])) (Sx.look (sentEnts 19 144 [(1, t1), (2, t2), (3, t3)] ++ (pR 61 62 N K C O m n CU ++ pF 62 R ls F) ++ (toK 121 122 T))) 80 (YES) (Sx.look []) 2000) :
    RunsTo Tryd.prog 38 (headOf Tryd.f38 0) (envAt Tryd.f38.ntmps ([(5, vL 121 5 T.length), (34, vL 61 5 N), (35, vN N), (36, vN (i : Nat))])) (Sx.look (sentEnts 19 144 [(1, t1), (2, t2), (3, t3)] ++ (pR 61 62 N K C O m n CU ++ pF 62 R ls F) ++ (toK 121 122 T))) 80 (YES) (Sx.look []) 2000 := by
  have hw : IntKind.i64.wrap ((i : Int) + 1) = ((i + 1 : Nat) : Int) := by rw [wr64 (by omega)]; rfl
  have hb0 : ∀ (B : Ix → Int) (is : Ix), bytesOf B is 0 0 = [] := fun _ _ => rfl
  have hmk' : kM T [i] < T.length := by simp only [kM]; omega
  have hgl : kL T [i] ≤ gL T (kM T [i]) := by simp only [kL, gL, kM, List.headD]; rw [show T.length - 1 - (T.length - 1 - i) = i by omega]; exact Nat.le_refl _
  refine runs_more baseKOk (More.of (bkV_p0 t1 t2 t3 N R K C O m n CU ls F T i) ⟨?oo, rfl, ?rr⟩) (by kernel_rfl) (by kernel_rfl) rfl (gtL (by decide)) (by decide) next
  case oo =>
    clear next
    refine (okc ?_ (okc ?_ (okc ?_ (okc ?_ (okc ?_ (okc ?_ (okc ?_ (okc ?_ (okc ?_ (okc ?_ (okc ?_ (okc ?_ (okc ?_ (okc ?_ (okc ?_ (okc ?_ (okc ?_ okn)))))))))))))))))
    all_goals ((try simp (disch := omega) only [SS, hw, hk, hu, hc, ho, hl, hb0, h3]); first | done | omega | assumption | (simp (disch := omega) only [SS, hw, hk, hu, hc, ho, hl, hb0, h3] at *; first | done | omega | assumption) | (simp_all; done))
  case rr =>
    clear next
    try simp (disch := omega) only [SS, hw, hk, hu, hc, ho, hl, hb0, h3]
    repeat' apply And.intro
    all_goals first | exact True.intro | with_reducible rfl | omega | (intros; first | exact True.intro | with_reducible rfl | omega | (simp_all; done)) | (simp_all; done) | rfl

theorem bkS_p0 (t1 t2 t3 : List UInt8) (N R : Nat) (K C O : Ix → Int) (m n : Ix → Nat) (CU : Ix → Bool) (ls : Nat → Nat) (F : Ix → Int) (T : List Tk) (i : Nat) :
    isMore (evTill Tryd.prog sumsKOk 400 (behind Tryd.f38 0) 900 38 (headOf Tryd.f38 0) (envAt Tryd.f38.ntmps ([(5, vL 121 5 T.length), (34, vL 61 5 N), (35, vN N), (36, vN (i : Nat))])) (sentEnts 19 144 [(1, t1), (2, t2), (3, t3)] ++ (pR 61 62 N K C O m n CU ++ pF 62 R ls F) ++ (toK 121 122 T)) ⟨[.s true, .s true, .s true, .s true, .s false, .s false, .s true, .s true, .s true, .s true, .s true, .s true, .s true, .s true, .s true, .s true, .s true, .s true, .s true, .s false], 130⟩) (moreP (headOf Tryd.f38 0) ([]) Tryd.f38.ntmps ([(5, vL 121 5 T.length), (34, vL 61 5 N), (35, vN N), (36, vN (i + 1 : Nat))]) (toK 121 122 T) 2000) =
    (OkL [(decide ((↑i : Int) < (↑N : Int)), true), (decide ((0 : Int) ≤ (↑i : Int) ∧ (↑i : Int) < (↑N : Int)), true), (((0 : Nat) + (↑i : Int).toNat).blt N, true), (((0 : Nat) + (↑i : Int).toNat).blt N, true), (K [(0 : Nat) + (↑i : Int).toNat] != (4 : Int), false), (K [(0 : Nat) + (↑i : Int).toNat] == (3 : Int), false), (K [(0 : Nat) + (↑i : Int).toNat] == (4 : Int), true), (K [(0 : Nat) + (↑i : Int).toNat] == (4 : Int), true), (decide ((0 : Int) ≤ (↑i : Int) ∧ (↑i : Int) < (↑T.length : Int)), true), (((0 : Nat) + (↑i : Int).toNat).blt T.length, true), (((0 : Nat) + (↑i : Int).toNat).blt T.length, true), (kK T [(0 : Nat) + (↑i : Int).toNat] == K [(0 : Nat) + (↑i : Int).toNat], true), (kC T [(0 : Nat) + (↑i : Int).toNat] == (0 : Int), true), (kO T [(0 : Nat) + (↑i : Int).toNat] == O [(0 : Nat) + (↑i : Int).toNat], true), (kU T [(0 : Nat) + (↑i : Int).toNat] == false, true), ((kM T [(0 : Nat) + (↑i : Int).toNat]).blt T.length, true), (((0 : Nat) + kL T [(0 : Nat) + (↑i : Int).toNat]).ble (gL T (kM T [(0 : Nat) + (↑i : Int).toNat])), true), ((m [(0 : Nat) + (↑i : Int).toNat]).blt R, true), (((0 : Nat) + n [(0 : Nat) + (↑i : Int).toNat]).ble (ls (m [(0 : Nat) + (↑i : Int).toNat])), true), (!bytesOf (gB T) [kM T [(0 : Nat) + (↑i : Int).toNat]] (0 : Nat) (kL T [(0 : Nat) + (↑i : Int).toNat]) == bytesOf F [m [(0 : Nat) + (↑i : Int).toNat]] (0 : Nat) (n [(0 : Nat) + (↑i : Int).toNat]), false)] ∧ headOf Tryd.f38 (0 : Nat) = headOf Tryd.f38 (0 : Nat) ∧ (((0 : Nat) = (0 : Nat) ∧ T.length = T.length) ∧ ((0 : Nat) = (0 : Nat) ∧ N = N) ∧ (↑N : Int) = (↑N : Int) ∧ (↑(i + (1 : Nat)) : Int) = IntKind.i64.wrap ((↑i : Int) + (1 : Int))) ∧ (T.length = T.length ∧ (∀ (i : Nat), i < T.length → kK T [i] = kK T [i]) ∧ (∀ (i : Nat), i < T.length → kC T [i] = kC T [i]) ∧ (∀ (i : Nat), i < T.length → kO T [i] = kO T [i]) ∧ ((∀ (i : Nat), i < T.length → kM T [i] = kM T [i]) ∧ ∀ (i : Nat), i < T.length → kL T [i] = kL T [i]) ∧ ∀ (i : Nat), i < T.length → kU T [i] = kU T [i]) ∧ T.length = T.length ∧ ∀ (m : Nat), m < T.length → gL T m = gL T m ∧ ∀ (i : Nat), i < gL T m → gB T [m, i] = gB T [m, i]) := by kernel_rfl

set_option maxHeartbeats 4000000 in
theorem bkS (t1 t2 t3 : List UInt8) (N R : Nat) (K C O : Ix → Int) (m n : Ix → Nat) (CU : Ix → Bool) (ls : Nat → Nat) (F : Ix → Int) (T : List Tk) (i : Nat) (hi : i < N) (hN : N ≤ 700) (hTl : T.length = N) (h1 : m [i] < R) (h2 : n [i] ≤ ls (m [i])) (hk : kK T [i] = K [i]) (hu : kU T [i] = false) (h3 : K [i] = 4) (hc : kC T [i] = 0) (ho : kO T [i] = O [i]) (hl : kL T [i] = n [i]) (hm : gL T (kM T [i]) = n [i]) (hmk : kM T [i] < T.length) (hb : bytesOf (gB T) [kM T [i]] 0 (n [i]) = bytesOf F [m [i]] 0 (n [i]))  (next : RunsTo Tryd.prog 38 (headOf Tryd.f38 0) (envAt Tryd.f38.ntmps ([(5, vL 121 5 T.length), (34, vL 61 5 N), (35, vN N), (36, vN (i + 1 : Nat))])) (Sx.look (sentEnts 19 144 [(1, t1), (2, t2), (3, t3)] ++ (pR 61 62 N K C O m n CU ++ pF 62 R ls F) ++ (toK 121 122 T))) 80 (YES) (Sx.look []) 2000) :
    RunsTo Tryd.prog 38 (headOf Tryd.f38 0) (envAt Tryd.f38.ntmps ([(5, vL 121 5 T.length), (34, vL 61 5 N), (35, vN N), (36, vN (i : Nat))])) (Sx.look (sentEnts 19 144 [(1, t1), (2, t2), (3, t3)] ++ (pR 61 62 N K C O m n CU ++ pF 62 R ls F) ++ (toK 121 122 T))) 80 (YES) (Sx.look []) 2000 := by
  have hw : IntKind.i64.wrap ((i : Int) + 1) = ((i + 1 : Nat) : Int) := by rw [wr64 (by omega)]; rfl
  have hb0 : ∀ (B : Ix → Int) (is : Ix), bytesOf B is 0 0 = [] := fun _ _ => rfl
  have hmk' : kM T [i] < T.length := by simp only [kM]; omega
  have hgl : kL T [i] ≤ gL T (kM T [i]) := by simp only [kL, gL, kM, List.headD]; rw [show T.length - 1 - (T.length - 1 - i) = i by omega]; exact Nat.le_refl _
  refine runs_more baseKOk (More.of (bkS_p0 t1 t2 t3 N R K C O m n CU ls F T i) ⟨?oo, rfl, ?rr⟩) (by kernel_rfl) (by kernel_rfl) rfl (gtL (by decide)) (by decide) next
  case oo =>
    clear next
    refine (okc ?_ (okc ?_ (okc ?_ (okc ?_ (okc ?_ (okc ?_ (okc ?_ (okc ?_ (okc ?_ (okc ?_ (okc ?_ (okc ?_ (okc ?_ (okc ?_ (okc ?_ (okc ?_ (okc ?_ (okc ?_ (okc ?_ (okc ?_ okn))))))))))))))))))))
    all_goals ((try simp (disch := omega) only [SS, hw, hk, hu, hc, ho, hl, hb0, h3, hb, hm]); first | done | omega | assumption | (simp (disch := omega) only [SS, hw, hk, hu, hc, ho, hl, hb0, h3, hb, hm] at *; first | done | omega | assumption) | (simp_all; done))
  case rr =>
    clear next
    try simp (disch := omega) only [SS, hw, hk, hu, hc, ho, hl, hb0, h3, hb, hm]
    repeat' apply And.intro
    all_goals first | exact True.intro | with_reducible rfl | omega | (intros; first | exact True.intro | with_reducible rfl | omega | (simp_all; done)) | (simp_all; done) | rfl

theorem bkEnd_p0 (t1 t2 t3 : List UInt8) (N R : Nat) (K C O : Ix → Int) (m n : Ix → Nat) (CU : Ix → Bool) (ls : Nat → Nat) (F : Ix → Int) (T : List Tk) (i : Nat) :
    isEnd (evTill Tryd.prog sumsKOk 400 (99) 900 38 (headOf Tryd.f38 0) (envAt Tryd.f38.ntmps ([(5, vL 121 5 T.length), (34, vL 61 5 N), (35, vN N), (36, vN (i : Nat))])) (sentEnts 19 144 [(1, t1), (2, t2), (3, t3)] ++ (pR 61 62 N K C O m n CU ++ pF 62 R ls F) ++ (toK 121 122 T)) ⟨[.s false], 130⟩) (endP ([]) (YES) ([]) 2000) =
    (OkL [(decide ((↑i : Int) < (↑N : Int)), false)] ∧ true = true ∧ True) := by kernel_rfl

set_option maxHeartbeats 4000000 in
theorem bkEnd (t1 t2 t3 : List UInt8) (N R : Nat) (K C O : Ix → Int) (m n : Ix → Nat) (CU : Ix → Bool) (ls : Nat → Nat) (F : Ix → Int) (T : List Tk) (i : Nat) (hi : i = N) (hTl : T.length = N)  :
    RunsTo Tryd.prog 38 (headOf Tryd.f38 0) (envAt Tryd.f38.ntmps ([(5, vL 121 5 T.length), (34, vL 61 5 N), (35, vN N), (36, vN (i : Nat))])) (Sx.look (sentEnts 19 144 [(1, t1), (2, t2), (3, t3)] ++ (pR 61 62 N K C O m n CU ++ pF 62 R ls F) ++ (toK 121 122 T))) 80 (YES) (Sx.look ([])) 2000 := by
  refine runs_last baseKOk (Sx.Ends.of (bkEnd_p0 t1 t2 t3 N R K C O m n CU ls F T i) ⟨?oo, ?rr⟩) (by kernel_rfl) rfl (gtL (by decide)) (by decide)
  case oo =>
    refine (okc ?_ okn)
    all_goals ((try simp (disch := omega) only [SS]); first | done | omega | assumption | (simp (disch := omega) only [SS] at *; first | done | omega | assumption) | (simp_all; done))
  case rr =>
    try simp (disch := omega) only [SS]
    repeat' apply And.intro
    all_goals first | exact True.intro | with_reducible rfl | omega | (intros; first | exact True.intro | with_reducible rfl | omega | (simp_all; done)) | (simp_all; done) | rfl

theorem alE_le3 (K C O : Ix → Int) (m n : Ix → Nat) (CU : Ix → Bool) (F : Ix → Int) : ∀ k j, alE K C O m n CU F k j ≤ 3
  | 0, j => Nat.zero_le _
  | k + 1, j => by
    simp only [alE]
    cases hz : tkAt K C O m n CU F j with
    | inl l => exact alE_le3 K C O m n CU F k (j + 1)
    | inr e => exact (tkR_le hz).2
theorem alB_le (K C O : Ix → Int) (m n : Ix → Nat) (CU : Ix → Bool) (F : Ix → Int) : ∀ i, (alB K C O m n CU F i).length ≤ 517 * i
  | 0 => by simp [alB]
  | i + 1 => by
    have := alB_le K C O m n CU F i
    have h : (theB (tkAt K C O m n CU F i)).length ≤ 517 := tkR_len
    simp only [alB, List.length_append]; omega
theorem tkR_kind {k c o : Int} {b l : List UInt8} {cut : Bool} (h : tkR k c o b cut = .inl l) : 1 ≤ k ∧ k ≤ 4 := by
  unfold tkR at h
  by_cases h1 : k = 1
  · omega
  rw [if_neg h1] at h
  by_cases h2 : k = 2
  · omega
  rw [if_neg h2] at h
  by_cases h3 : k = 3
  · omega
  rw [if_neg h3] at h
  by_cases h4 : k = 4
  · omega
  rw [if_neg h4] at h
  cases h
theorem tkR_rng {k c o : Int} {b l : List UInt8} {cut : Bool} (h : tkR k c o b cut = .inl l) : (k ≠ 4 → 0 ≤ c) ∧ (3 ≤ k → 0 ≤ o) := by
  unfold tkR at h
  by_cases h1 : k = 1
  · rw [if_pos h1] at h
    cases hc : byN c with
    | false => rw [hc, if_pos rfl] at h; cases h
    | true => have := byN_r hc; omega
  rw [if_neg h1] at h
  by_cases h2 : k = 2
  · rw [if_pos h2] at h
    unfold plR at h
    by_cases hc : 241 ≤ c ∧ c ≤ 249
    · omega
    · rw [if_neg hc] at h; cases h
  rw [if_neg h2] at h
  by_cases h3 : k = 3
  · rw [if_pos h3] at h
    unfold vbR at h
    by_cases hc : 251 ≤ c ∧ c ≤ 254
    · rw [if_neg (fun e => e hc)] at h
      cases ho : byN o with
      | false => rw [ho, if_pos rfl] at h; cases h
      | true => have := byN_r ho; omega
    · rw [if_pos hc] at h; cases h
  rw [if_neg h3] at h
  by_cases h4 : k = 4
  · rw [if_pos h4] at h
    cases hq : sbR o b with
    | inr e => rw [hq] at h; cases h
    | inl m =>
      unfold sbR at hq
      cases ho : byN o with
      | false => rw [ho, if_pos rfl] at hq; cases hq
      | true => have := byN_r ho; omega
  rw [if_neg h4] at h; cases h
theorem map_len {α : Type} (f : Nat → α) (N : Nat) : ((List.range' 0 N).map f).length = N := by simp
theorem map_getD {α : Type} (f : Nat → α) (z : α) {N i : Nat} (h : i < N) : ((List.range' 0 N).map f).getD i z = f i := by
  simp [List.getD_eq_getElem?_getD, h]
theorem map_bytes (f : Nat → Tk) {N i : Nat} (h : i < N) : bytesOf (gB ((List.range' 0 N).map f)) [kM ((List.range' 0 N).map f) [i]] 0 (f i).body.length = (f i).body := by
  refine Eq.trans (List.map_congr_left (fun j hj => ?_)) (bytesOf_full (f i).body)
  simp only [gB, kM, List.headD, List.tail, map_len, List.append_eq, List.cons_append, List.nil_append, Nat.zero_add]
  rw [show N - 1 - (N - 1 - i) = i by omega, map_getD f kz h]
theorem bkI (t1 t2 t3 : List UInt8) (N R : Nat) (K C O : Ix → Int) (m n : Ix → Nat) (CU : Ix → Bool) (ls : Nat → Nat) (F : Ix → Int) (hN : N ≤ 700) (hr : okRow N R m n ls F = true) : RunsTo Tryd.prog 38 [.code (bodyOf Tryd.f38)] (envOf [vL 61 5 N] Tryd.f38.ntmps) (Sx.look (sentEnts 19 144 [(1, t1), (2, t2), (3, t3)] ++ (pR 61 62 N K C O m n CU ++ pF 62 R ls F) ++ ([]))) 80 (YES) (Sx.look []) 2000 := by
  have hle := alE_le3 K C O m n CU F N 0
  have hbl := alB_le K C O m n CU F N
  rcases (by omega : alE K C O m n CU F N 0 = 0 ∨ alE K C O m n CU F N 0 = 1 ∨ alE K C O m n CU F N 0 = 2 ∨ alE K C O m n CU F N 0 = 3) with he | he | he | he
  · generalize hb : alB K C O m n CU F N = b at hbl
    have hinl := alE_inl K C O m n CU F N 0 he
    have hrun := run_cat K C O m n CU F N 0 hinl
    rw [← alB_cat, hb] at hrun
    generalize hT : (List.range' 0 N).map (fun j => cnT (K [j]) (C [j]) (O [j]) (bytesOf F [m [j]] 0 (n [j]))) = T at hrun
    have hTl : T.length = N := by rw [← hT, map_len]
    have e1 : xaT b.length (fun is => ((b.getD (is.headD 0) 0).toNat : Int)) = T := by unfold xaT; rw [bytesOf_full, hrun]
    have e2 : xaL b.length (fun is => ((b.getD (is.headD 0) 0).toNat : Int)) = true := by unfold xaL; rw [bytesOf_full, hrun]; rfl
    refine bkStart t1 t2 t3 N R K C O m n CU ls F b T hN hr he hb (by omega) (bndB_of fun i hi => u8nat _) e1 e2 hTl ?_
    suffices q : ∀ (k i : Nat), i + k = N → RunsTo Tryd.prog 38 (headOf Tryd.f38 0) (envAt Tryd.f38.ntmps ([(5, vL 121 5 T.length), (34, vL 61 5 N), (35, vN N), (36, vN (i : Nat))])) (Sx.look (sentEnts 19 144 [(1, t1), (2, t2), (3, t3)] ++ (pR 61 62 N K C O m n CU ++ pF 62 R ls F) ++ (toK 121 122 T))) 80 (YES) (Sx.look []) 2000 from q N 0 (by omega)
    intro k
    induction k with
    | zero => intro i hi; exact bkEnd t1 t2 t3 N R K C O m n CU ls F T i (by omega) hTl
    | succ k ih =>
      intro i hi
      have h0 := all_ok hr (i := i) (by omega)
      simp only [okAt, Bool.and_eq_true, decide_eq_true_eq] at h0
      obtain ⟨⟨h1, h2, h3⟩, hB⟩ := h0
      obtain ⟨l, hl⟩ := hinl i (by omega) (by omega)
      have hk := tkR_kind hl
      have hrg := tkR_rng hl
      have hg : T.getD i kz = cnT (K [i]) (C [i]) (O [i]) (bytesOf F [m [i]] 0 (n [i])) := by rw [← hT]; exact map_getD _ kz (by omega)
      have hlen := bytesOf_len F [m [i]] 0 (n [i])
      by_cases k4 : K [i] = 4
      · have hg' : T.getD i kz = ⟨4, 0, (O [i]).toNat, bytesOf F [m [i]] 0 (n [i]), false⟩ := by rw [hg, cnT, if_pos k4]
        have hbb := map_bytes (fun j => cnT (K [j]) (C [j]) (O [j]) (bytesOf F [m [j]] 0 (n [j]))) (N := N) (i := i) (by omega)
        rw [hT] at hbb
        simp only [cnT, if_pos k4] at hbb
        rw [hlen] at hbb
        exact bkS t1 t2 t3 N R K C O m n CU ls F T i (by omega) hN hTl h1 h2 (by simp only [kK, List.headD, hg', k4]; rfl) (by simp only [kU, List.headD, hg']) k4 (by simp only [kC, List.headD, hg']; rfl) (by simp only [kO, List.headD, hg']; have := hrg.2 (by omega); omega) (by simp only [kL, List.headD, hg', hlen]) (by simp only [gL, kM, List.headD]; rw [show T.length - 1 - (T.length - 1 - i) = i by omega, hg']; exact hlen) (by simp only [kM]; omega) hbb (ih (i + 1) (by omega))
      · by_cases k3 : K [i] = 3
        · have hg' : T.getD i kz = ⟨3, (C [i]).toNat, (O [i]).toNat, [], false⟩ := by rw [hg, cnT, if_neg k4, if_pos k3]
          exact bkV t1 t2 t3 N R K C O m n CU ls F T i (by omega) hN hTl h1 h2 (by simp only [kK, List.headD, hg', k3]; rfl) (by simp only [kU, List.headD, hg']) k3 (by simp only [kC, List.headD, hg']; have := hrg.1 (by omega); omega) (by simp only [kO, List.headD, hg']; have := hrg.2 (by omega); omega) (by simp only [kL, List.headD, hg']; rfl) (ih (i + 1) (by omega))
        · have hg' : T.getD i kz = ⟨(K [i]).toNat, (C [i]).toNat, 0, [], false⟩ := by rw [hg, cnT, if_neg k4, if_neg k3]
          exact bkA t1 t2 t3 N R K C O m n CU ls F T i (by omega) hN hTl h1 h2 (by simp only [kK, List.headD, hg']; omega) (by simp only [kU, List.headD, hg']) k3 k4 (by simp only [kC, List.headD, hg']; have := hrg.1 (by omega); omega) (by simp only [kO, List.headD, hg']; rfl) (by simp only [kL, List.headD, hg']; rfl) (ih (i + 1) (by omega))
  · exact bkEKi t1 t2 t3 N R K C O m n CU ls F hN hr he
  · exact bkERa t1 t2 t3 N R K C O m n CU ls F hN hr he
  · exact bkELo t1 t2 t3 N R K C O m n CU ls F hN hr he
def bkP : PC := { args := [.v (.vl 61 5 0)], heap := [⟨61, false, 5, .ta 0 (.tc (.vi .i64 1) (.tc (.vi .i64 2) (.tc (.vi .i64 3) (.tc (.vf 62 1 4 5) (.tc (.vb 6) .t0)))))⟩], fams := [⟨62, false, 1, 9, 7, .vi .u8 8⟩], gs := [1, 2, 3], G := 19, tp := 144, n := 80, n' := 2000, cond := fun e => decide (eN e 0 ≤ 700) && okRow (eN e 0) (eN e 9) (eM e 4) (eM e 5) (eL e 7) (eI e 8), v := fun e => YES, post := fun e => [] }
theorem bkP_pc : PC.Runs Tryd.prog 38 Tryd.f38 (bodyOf Tryd.f38) bkP := ⟨Tryd.func38, by kernel_rfl, (fun g hg => by first | (cases hg; done) | (revert g; show ∀ g ∈ ([1, 2, 3] : List Nat), g < 19; decide)), fun e H hc => by
  have hc : (decide (eN e 0 ≤ 700) && okRow (eN e 0) (eN e 9) (eM e 4) (eM e 5) (eL e 7) (eI e 8)) = true := hc
  try simp only [Bool.and_eq_true, decide_eq_true_eq, Nat.beq_eq] at hc
  exact bkI (textAt2 H (19 + 1)) (textAt2 H (19 + 2)) (textAt2 H (19 + 3)) (eN e 0) (eN e 9) (eI e 1) (eI e 2) (eI e 3) (eM e 4) (eM e 5) (eB e 6) (eL e 7) (eI e 8) hc.1 hc.2⟩
end Go.Proofs.YtcphocfnhekdaaaDoor

set_option linter.unusedSimpArgs false
set_option linter.unusedVariables false
set_option maxRecDepth 100000
namespace Go.Proofs.YtcphocfnhekdaaaDoor
open Go.Sx

open GramR
def sumsLB : List (FuncId × Summ) := [(22, a6P.summ 38), (33, xaP.summ 38), (38, bkP.summ 38)]
theorem baseLB : Base0 Tryd.prog sumsLB := (((baseO.cons Tryd.func38 (by kernel_rfl) (PC.summ_ok bkP_pc gtopG)).cons Tryd.func33 (by kernel_rfl) (PC.summ_ok xaP_pc gtopG)).cons Tryd.func22 (by kernel_rfl) (PC.summ_ok a6P_pc gtopG))
def ebS (t0 t1 t2 : List UInt8) : List Ent := sentEnts 19 144 [(2, t0), (3, t1), (1, t2)]
theorem ebLong_p0 (t0 t1 t2 : List UInt8) (N : Nat) (K C O : Ix → Int) (bl : Ix → Nat) (CU : Ix → Bool) (B : Ix → Int) (R : Nat) (RB : Ix → Int) :
    isEnd (evTill Tryd.prog sumsLB 700 (99) 900 9 [.code (bodyOf Tryd.f9)] (envOf [vL 100 5 N, vL 102 1 R] Tryd.f9.ntmps) (ebS t0 t1 t2 ++ (([⟨100, false, none, 5, .ta N (.tc (.vi .i64 K) (.tc (.vi .i64 C) (.tc (.vi .i64 O) (.tc (.vl 101 (fun is => is.headD 0) 1 [] bl) (.tc (.vb CU) .t0)))))⟩] ++ [⟨101, false, some (N, fun i => bl [i]), 1, .vi .u8 B⟩]) ++ rB 102 R RB) ++ ([])) ⟨[.t, .f, .s true], 110⟩) (endP ([]) (YES) ([]) 9000) =
    (OkL [(decide ((↑N : Int) > (30 : Int)), true)] ∧ true = true ∧ True) := by kernel_rfl

set_option maxHeartbeats 4000000 in
theorem ebLong (t0 t1 t2 : List UInt8) (N : Nat) (K C O : Ix → Int) (bl : Ix → Nat) (CU : Ix → Bool) (B : Ix → Int) (R : Nat) (RB : Ix → Int) (h : 30 < N)  :
    RunsTo Tryd.prog 9 [.code (bodyOf Tryd.f9)] (envOf [vL 100 5 N, vL 102 1 R] Tryd.f9.ntmps) (Sx.look (ebS t0 t1 t2 ++ (([⟨100, false, none, 5, .ta N (.tc (.vi .i64 K) (.tc (.vi .i64 C) (.tc (.vi .i64 O) (.tc (.vl 101 (fun is => is.headD 0) 1 [] bl) (.tc (.vb CU) .t0)))))⟩] ++ [⟨101, false, some (N, fun i => bl [i]), 1, .vi .u8 B⟩]) ++ rB 102 R RB) ++ ([]))) 110 (YES) (Sx.look ([])) 9000 := by
  refine runs_last baseLB (Sx.Ends.of (ebLong_p0 t0 t1 t2 N K C O bl CU B R RB) ⟨?oo, ?rr⟩) (by kernel_rfl) rfl (gtL (by decide)) (by decide)
  case oo =>
    refine (okc ?_ okn)
    all_goals ((try simp (disch := omega) only [SS]); first | done | omega | assumption | (simp (disch := omega) only [SS] at *; first | done | omega | assumption) | (simp_all; done))
  case rr =>
    try simp (disch := omega) only [SS]
    repeat' apply And.intro
    all_goals first | exact True.intro | with_reducible rfl | omega | (intros; first | exact True.intro | with_reducible rfl | omega | (simp_all; done)) | (simp_all; done) | rfl

theorem ebRaw_p0 (t0 t1 t2 : List UInt8) (N : Nat) (K C O : Ix → Int) (bl : Ix → Nat) (CU : Ix → Bool) (B : Ix → Int) (R : Nat) (RB : Ix → Int) :
    isEnd (evTill Tryd.prog sumsLB 700 (99) 900 9 [.code (bodyOf Tryd.f9)] (envOf [vL 100 5 N, vL 102 1 R] Tryd.f9.ntmps) (ebS t0 t1 t2 ++ (([⟨100, false, none, 5, .ta N (.tc (.vi .i64 K) (.tc (.vi .i64 C) (.tc (.vi .i64 O) (.tc (.vl 101 (fun is => is.headD 0) 1 [] bl) (.tc (.vb CU) .t0)))))⟩] ++ [⟨101, false, some (N, fun i => bl [i]), 1, .vi .u8 B⟩]) ++ rB 102 R RB) ++ ([])) ⟨[.t, .f, .s false, .s true], 110⟩) (endP ([]) (YES) ([]) 9000) =
    (OkL [(decide ((↑N : Int) > (30 : Int)), false), (decide ((↑R : Int) > (600 : Int)), true)] ∧ true = true ∧ True) := by kernel_rfl

set_option maxHeartbeats 4000000 in
theorem ebRaw (t0 t1 t2 : List UInt8) (N : Nat) (K C O : Ix → Int) (bl : Ix → Nat) (CU : Ix → Bool) (B : Ix → Int) (R : Nat) (RB : Ix → Int) (hN : N ≤ 30) (h : 600 < R)  :
    RunsTo Tryd.prog 9 [.code (bodyOf Tryd.f9)] (envOf [vL 100 5 N, vL 102 1 R] Tryd.f9.ntmps) (Sx.look (ebS t0 t1 t2 ++ (([⟨100, false, none, 5, .ta N (.tc (.vi .i64 K) (.tc (.vi .i64 C) (.tc (.vi .i64 O) (.tc (.vl 101 (fun is => is.headD 0) 1 [] bl) (.tc (.vb CU) .t0)))))⟩] ++ [⟨101, false, some (N, fun i => bl [i]), 1, .vi .u8 B⟩]) ++ rB 102 R RB) ++ ([]))) 110 (YES) (Sx.look ([])) 9000 := by
  refine runs_last baseLB (Sx.Ends.of (ebRaw_p0 t0 t1 t2 N K C O bl CU B R RB) ⟨?oo, ?rr⟩) (by kernel_rfl) rfl (gtL (by decide)) (by decide)
  case oo =>
    refine (okc ?_ (okc ?_ okn))
    all_goals ((try simp (disch := omega) only [SS]); first | done | omega | assumption | (simp (disch := omega) only [SS] at *; first | done | omega | assumption) | (simp_all; done))
  case rr =>
    try simp (disch := omega) only [SS]
    repeat' apply And.intro
    all_goals first | exact True.intro | with_reducible rfl | omega | (intros; first | exact True.intro | with_reducible rfl | omega | (simp_all; done)) | (simp_all; done) | rfl

theorem ebStart_p0 (t0 t1 t2 : List UInt8) (N : Nat) (K C O : Ix → Int) (bl : Ix → Nat) (CU : Ix → Bool) (B : Ix → Int) (R : Nat) (RB : Ix → Int) :
    isMore (evTill Tryd.prog sumsLB 700 (behind Tryd.f9 0) 900 9 [.code (bodyOf Tryd.f9)] (envOf [vL 100 5 N, vL 102 1 R] Tryd.f9.ntmps) (ebS t0 t1 t2 ++ (([⟨100, false, none, 5, .ta N (.tc (.vi .i64 K) (.tc (.vi .i64 C) (.tc (.vi .i64 O) (.tc (.vl 101 (fun is => is.headD 0) 1 [] bl) (.tc (.vb CU) .t0)))))⟩] ++ [⟨101, false, some (N, fun i => bl [i]), 1, .vi .u8 B⟩]) ++ rB 102 R RB) ++ ([])) ⟨[.t, .f, .s false, .s false], 110⟩) (moreP (headOf Tryd.f9 0) ([]) Tryd.f9.ntmps ([(0, vL 100 5 N), (1, vL 102 1 R), (19, vL 100 5 N), (20, vN N), (21, vN (0 : Nat))]) ([]) 9000) =
    (OkL [(decide ((↑N : Int) > (30 : Int)), false), (decide ((↑R : Int) > (600 : Int)), false)] ∧ headOf Tryd.f9 (0 : Nat) = headOf Tryd.f9 (0 : Nat) ∧ (((0 : Nat) = (0 : Nat) ∧ N = N) ∧ ((0 : Nat) = (0 : Nat) ∧ R = R) ∧ ((0 : Nat) = (0 : Nat) ∧ N = N) ∧ (↑N : Int) = (↑N : Int) ∧ (↑(0 : Nat) : Int) = (0 : Int)) ∧ True) := by kernel_rfl

set_option maxHeartbeats 4000000 in
theorem ebStart (t0 t1 t2 : List UInt8) (N : Nat) (K C O : Ix → Int) (bl : Ix → Nat) (CU : Ix → Bool) (B : Ix → Int) (R : Nat) (RB : Ix → Int) (hN : N ≤ 30) (hR : R ≤ 600)  (next : RunsTo Tryd.prog 9 (headOf Tryd.f9 0) (envAt Tryd.f9.ntmps ([(0, vL 100 5 N), (1, vL 102 1 R), (19, vL 100 5 N), (20, vN N), (21, vN (0 : Nat))])) (Sx.look (ebS t0 t1 t2 ++ (([⟨100, false, none, 5, .ta N (.tc (.vi .i64 K) (.tc (.vi .i64 C) (.tc (.vi .i64 O) (.tc (.vl 101 (fun is => is.headD 0) 1 [] bl) (.tc (.vb CU) .t0)))))⟩] ++ [⟨101, false, some (N, fun i => bl [i]), 1, .vi .u8 B⟩]) ++ rB 102 R RB) ++ ([]))) 110 (YES) (Sx.look []) 9000) :
    RunsTo Tryd.prog 9 [.code (bodyOf Tryd.f9)] (envOf [vL 100 5 N, vL 102 1 R] Tryd.f9.ntmps) (Sx.look (ebS t0 t1 t2 ++ (([⟨100, false, none, 5, .ta N (.tc (.vi .i64 K) (.tc (.vi .i64 C) (.tc (.vi .i64 O) (.tc (.vl 101 (fun is => is.headD 0) 1 [] bl) (.tc (.vb CU) .t0)))))⟩] ++ [⟨101, false, some (N, fun i => bl [i]), 1, .vi .u8 B⟩]) ++ rB 102 R RB) ++ ([]))) 110 (YES) (Sx.look []) 9000 := by
  refine runs_more baseLB (More.of (ebStart_p0 t0 t1 t2 N K C O bl CU B R RB) ⟨?oo, rfl, ?rr⟩) (by kernel_rfl) (by kernel_rfl) rfl (gtL (by decide)) (by decide) next
  case oo =>
    clear next
    refine (okc ?_ (okc ?_ okn))
    all_goals ((try simp (disch := omega) only [SS]); first | done | omega | assumption | (simp (disch := omega) only [SS] at *; first | done | omega | assumption) | (simp_all; done))
  case rr =>
    clear next
    try simp (disch := omega) only [SS]
    repeat' apply And.intro
    all_goals first | exact True.intro | with_reducible rfl | omega | (intros; first | exact True.intro | with_reducible rfl | omega | (simp_all; done)) | (simp_all; done) | rfl

theorem ebBody_p0 (t0 t1 t2 : List UInt8) (N : Nat) (K C O : Ix → Int) (bl : Ix → Nat) (CU : Ix → Bool) (B : Ix → Int) (R : Nat) (RB : Ix → Int) (i : Nat) :
    isEnd (evTill Tryd.prog sumsLB 700 (99) 900 9 (headOf Tryd.f9 0) (envAt Tryd.f9.ntmps ([(0, vL 100 5 N), (1, vL 102 1 R), (19, vL 100 5 N), (20, vN N), (21, vN (i : Nat))])) (ebS t0 t1 t2 ++ (([⟨100, false, none, 5, .ta N (.tc (.vi .i64 K) (.tc (.vi .i64 C) (.tc (.vi .i64 O) (.tc (.vl 101 (fun is => is.headD 0) 1 [] bl) (.tc (.vb CU) .t0)))))⟩] ++ [⟨101, false, some (N, fun i => bl [i]), 1, .vi .u8 B⟩]) ++ rB 102 R RB) ++ ([])) ⟨[.s true, .s true, .s true, .s true, .s true], 140⟩) (endP ([]) (YES) ([]) 9000) =
    (OkL [(decide ((↑i : Int) < (↑N : Int)), true), (decide ((0 : Int) ≤ (↑i : Int) ∧ (↑i : Int) < (↑N : Int)), true), (((0 : Nat) + (↑i : Int).toNat).blt N, true), (((0 : Nat) + (↑i : Int).toNat).blt N, true), (decide ((↑(bl [(0 : Nat) + (↑i : Int).toNat]) : Int) > (400 : Int)), true)] ∧ true = true ∧ True) := by kernel_rfl

set_option maxHeartbeats 4000000 in
theorem ebBody (t0 t1 t2 : List UInt8) (N : Nat) (K C O : Ix → Int) (bl : Ix → Nat) (CU : Ix → Bool) (B : Ix → Int) (R : Nat) (RB : Ix → Int) (i : Nat) (hi : i < N) (h : 400 < bl [i])  :
    RunsTo Tryd.prog 9 (headOf Tryd.f9 0) (envAt Tryd.f9.ntmps ([(0, vL 100 5 N), (1, vL 102 1 R), (19, vL 100 5 N), (20, vN N), (21, vN (i : Nat))])) (Sx.look (ebS t0 t1 t2 ++ (([⟨100, false, none, 5, .ta N (.tc (.vi .i64 K) (.tc (.vi .i64 C) (.tc (.vi .i64 O) (.tc (.vl 101 (fun is => is.headD 0) 1 [] bl) (.tc (.vb CU) .t0)))))⟩] ++ [⟨101, false, some (N, fun i => bl [i]), 1, .vi .u8 B⟩]) ++ rB 102 R RB) ++ ([]))) 110 (YES) (Sx.look ([])) 9000 := by
  refine runs_last baseLB (Sx.Ends.of (ebBody_p0 t0 t1 t2 N K C O bl CU B R RB i) ⟨?oo, ?rr⟩) (by kernel_rfl) rfl (gtL (by decide)) (by decide)
  case oo =>
    refine (okc ?_ (okc ?_ (okc ?_ (okc ?_ (okc ?_ okn)))))
    all_goals ((try simp (disch := omega) only [SS]); first | done | omega | assumption | (simp (disch := omega) only [SS] at *; first | done | omega | assumption) | (simp_all; done))
  case rr =>
    try simp (disch := omega) only [SS]
    repeat' apply And.intro
    all_goals first | exact True.intro | with_reducible rfl | omega | (intros; first | exact True.intro | with_reducible rfl | omega | (simp_all; done)) | (simp_all; done) | rfl

theorem ebR_p0 (t0 t1 t2 : List UInt8) (N : Nat) (K C O : Ix → Int) (bl : Ix → Nat) (CU : Ix → Bool) (B : Ix → Int) (R : Nat) (RB : Ix → Int) (i : Nat) :
    isMore (evTill Tryd.prog sumsLB 700 (behind Tryd.f9 0) 900 9 (headOf Tryd.f9 0) (envAt Tryd.f9.ntmps ([(0, vL 100 5 N), (1, vL 102 1 R), (19, vL 100 5 N), (20, vN N), (21, vN (i : Nat))])) (ebS t0 t1 t2 ++ (([⟨100, false, none, 5, .ta N (.tc (.vi .i64 K) (.tc (.vi .i64 C) (.tc (.vi .i64 O) (.tc (.vl 101 (fun is => is.headD 0) 1 [] bl) (.tc (.vb CU) .t0)))))⟩] ++ [⟨101, false, some (N, fun i => bl [i]), 1, .vi .u8 B⟩]) ++ rB 102 R RB) ++ ([])) ⟨[.s true, .s true, .s true, .s true, .s false], 140⟩) (moreP (headOf Tryd.f9 0) ([]) Tryd.f9.ntmps ([(0, vL 100 5 N), (1, vL 102 1 R), (19, vL 100 5 N), (20, vN N), (21, vN (i + 1 : Nat))]) ([]) 9000) =
    (OkL [(decide ((↑i : Int) < (↑N : Int)), true), (decide ((0 : Int) ≤ (↑i : Int) ∧ (↑i : Int) < (↑N : Int)), true), (((0 : Nat) + (↑i : Int).toNat).blt N, true), (((0 : Nat) + (↑i : Int).toNat).blt N, true), (decide ((↑(bl [(0 : Nat) + (↑i : Int).toNat]) : Int) > (400 : Int)), false)] ∧ headOf Tryd.f9 (0 : Nat) = headOf Tryd.f9 (0 : Nat) ∧ (((0 : Nat) = (0 : Nat) ∧ N = N) ∧ ((0 : Nat) = (0 : Nat) ∧ R = R) ∧ ((0 : Nat) = (0 : Nat) ∧ N = N) ∧ (↑N : Int) = (↑N : Int) ∧ (↑(i + (1 : Nat)) : Int) = IntKind.i64.wrap ((↑i : Int) + (1 : Int))) ∧ True) := by kernel_rfl

set_option maxHeartbeats 4000000 in
theorem ebR (t0 t1 t2 : List UInt8) (N : Nat) (K C O : Ix → Int) (bl : Ix → Nat) (CU : Ix → Bool) (B : Ix → Int) (R : Nat) (RB : Ix → Int) (i : Nat) (hi : i < N) (hN : N ≤ 30) (h : bl [i] ≤ 400)  (next : RunsTo Tryd.prog 9 (headOf Tryd.f9 0) (envAt Tryd.f9.ntmps ([(0, vL 100 5 N), (1, vL 102 1 R), (19, vL 100 5 N), (20, vN N), (21, vN (i + 1 : Nat))])) (Sx.look (ebS t0 t1 t2 ++ (([⟨100, false, none, 5, .ta N (.tc (.vi .i64 K) (.tc (.vi .i64 C) (.tc (.vi .i64 O) (.tc (.vl 101 (fun is => is.headD 0) 1 [] bl) (.tc (.vb CU) .t0)))))⟩] ++ [⟨101, false, some (N, fun i => bl [i]), 1, .vi .u8 B⟩]) ++ rB 102 R RB) ++ ([]))) 110 (YES) (Sx.look []) 9000) :
    RunsTo Tryd.prog 9 (headOf Tryd.f9 0) (envAt Tryd.f9.ntmps ([(0, vL 100 5 N), (1, vL 102 1 R), (19, vL 100 5 N), (20, vN N), (21, vN (i : Nat))])) (Sx.look (ebS t0 t1 t2 ++ (([⟨100, false, none, 5, .ta N (.tc (.vi .i64 K) (.tc (.vi .i64 C) (.tc (.vi .i64 O) (.tc (.vl 101 (fun is => is.headD 0) 1 [] bl) (.tc (.vb CU) .t0)))))⟩] ++ [⟨101, false, some (N, fun i => bl [i]), 1, .vi .u8 B⟩]) ++ rB 102 R RB) ++ ([]))) 110 (YES) (Sx.look []) 9000 := by
  have hw : IntKind.i64.wrap ((i : Int) + 1) = ((i + 1 : Nat) : Int) := by rw [wr64 (by omega)]; rfl
  refine runs_more baseLB (More.of (ebR_p0 t0 t1 t2 N K C O bl CU B R RB i) ⟨?oo, rfl, ?rr⟩) (by kernel_rfl) (by kernel_rfl) rfl (gtL (by decide)) (by decide) next
  case oo =>
    clear next
    refine (okc ?_ (okc ?_ (okc ?_ (okc ?_ (okc ?_ okn)))))
    all_goals ((try simp (disch := omega) only [SS, hw]); first | done | omega | assumption | (simp (disch := omega) only [SS, hw] at *; first | done | omega | assumption) | (simp_all; done))
  case rr =>
    clear next
    try simp (disch := omega) only [SS, hw]
    repeat' apply And.intro
    all_goals first | exact True.intro | with_reducible rfl | omega | (intros; first | exact True.intro | with_reducible rfl | omega | (simp_all; done)) | (simp_all; done) | rfl

theorem ebEnd_p0 (t0 t1 t2 : List UInt8) (N : Nat) (K C O : Ix → Int) (bl : Ix → Nat) (CU : Ix → Bool) (B : Ix → Int) (R : Nat) (RB : Ix → Int) (T : List Tk) (i : Nat) :
    isEnd (evTill Tryd.prog sumsLB 700 (99) 900 9 (headOf Tryd.f9 0) (envAt Tryd.f9.ntmps ([(0, vL 100 5 N), (1, vL 102 1 R), (19, vL 100 5 N), (20, vN N), (21, vN (i : Nat))])) (ebS t0 t1 t2 ++ (([⟨100, false, none, 5, .ta N (.tc (.vi .i64 K) (.tc (.vi .i64 C) (.tc (.vi .i64 O) (.tc (.vl 101 (fun is => is.headD 0) 1 [] bl) (.tc (.vb CU) .t0)))))⟩] ++ [⟨101, false, some (N, fun i => bl [i]), 1, .vi .u8 B⟩]) ++ rB 102 R RB) ++ ([])) ⟨[.s false, .s true, .s true, .s true, .t, .s true, .s true], 140⟩) (endP ([]) (YES) ([]) 9000) =
    (OkL [(decide ((↑i : Int) < (↑N : Int)), false), (decide (R ≤ (400000 : Nat)) && (decide (R ≤ R) && bndB RB R), true), (N.beq N, true), (decide (N ≤ (700 : Nat)) && okRow N N (fun is => List.headD is (0 : Nat)) bl (fun i => bl [i]) B, true), ((xaT R RB).length.beq (xaT R RB).length, true), (decide ((xaT R RB).length ≤ (700 : Nat)) && okRow (xaT R RB).length (xaT R RB).length (kM (xaT R RB)) (kL (xaT R RB)) (gL (xaT R RB)) (gB (xaT R RB)), true)] ∧ true = true ∧ True) := by kernel_rfl

set_option maxHeartbeats 4000000 in
theorem ebEnd (t0 t1 t2 : List UInt8) (N : Nat) (K C O : Ix → Int) (bl : Ix → Nat) (CU : Ix → Bool) (B : Ix → Int) (R : Nat) (RB : Ix → Int) (T : List Tk) (i : Nat) (hi : i = N) (hN : N ≤ 30) (hR : R ≤ 600) (hrb : bndB RB R = true) (hT : xaT R RB = T) (hTl : T.length ≤ 700) (h1 : okRow N N (fun is => is.headD 0) bl (fun i => bl [i]) B = true) (h2 : okRow T.length T.length (kM T) (kL T) (gL T) (gB T) = true)  :
    RunsTo Tryd.prog 9 (headOf Tryd.f9 0) (envAt Tryd.f9.ntmps ([(0, vL 100 5 N), (1, vL 102 1 R), (19, vL 100 5 N), (20, vN N), (21, vN (i : Nat))])) (Sx.look (ebS t0 t1 t2 ++ (([⟨100, false, none, 5, .ta N (.tc (.vi .i64 K) (.tc (.vi .i64 C) (.tc (.vi .i64 O) (.tc (.vl 101 (fun is => is.headD 0) 1 [] bl) (.tc (.vb CU) .t0)))))⟩] ++ [⟨101, false, some (N, fun i => bl [i]), 1, .vi .u8 B⟩]) ++ rB 102 R RB) ++ ([]))) 110 (YES) (Sx.look ([])) 9000 := by
  refine runs_last baseLB (Sx.Ends.of (ebEnd_p0 t0 t1 t2 N K C O bl CU B R RB T i) ⟨?oo, ?rr⟩) (by kernel_rfl) rfl (gtL (by decide)) (by decide)
  case oo =>
    refine (okc ?_ (okc ?_ (okc ?_ (okc ?_ (okc ?_ (okc ?_ okn))))))
    all_goals first | omega | exact h1 | exact h2 | exact hrb | exact ⟨hTl, h2⟩ | (simp (disch := omega) only [SS, hT]; first | done | omega | exact ⟨by omega, h1⟩ | exact ⟨by omega, h2⟩ | exact ⟨hTl, h2⟩ | exact h1 | exact h2 | exact ⟨by omega, hrb⟩ | exact ⟨by omega, by omega, hrb⟩ | exact hrb) | (simp_all; done) | (simp_all; omega)
  case rr =>
    try simp (disch := omega) only [SS, hT]
    repeat' apply And.intro
    all_goals first | exact True.intro | with_reducible rfl | omega | (intros; first | exact True.intro | with_reducible rfl | omega | (simp_all; done)) | (simp_all; done) | rfl

end Go.Proofs.YtcphocfnhekdaaaDoor

set_option linter.unusedSimpArgs false
set_option linter.unusedVariables false
set_option maxRecDepth 100000
namespace Go.Proofs.YtcphocfnhekdaaaDoor
open Go.Sx GramR

theorem runC_len : ∀ (bs : List UInt8) (m : Mc), (runC m bs).1.length ≤ bs.length
  | [], m => Nat.le_refl _
  | c :: r, m => by
    unfold runC
    split
    · have := runC_len r (by assumption); simp only [List.length_cons]; omega
    · have := runC_len r (by assumption); simp only [List.length_cons]; omega
theorem feedC_body (m : Mc) (c : UInt8) (h : m.body.length ≤ 256) : (feedC m c).1.body.length ≤ 256 ∧ ∀ t, (feedC m c).2 = some t → t.body.length ≤ 256 := by
  have ha : (addC m c).body.length ≤ 256 := by unfold addC; split <;> simp <;> omega
  have hb : (addC m 255).body.length ≤ 256 := by unfold addC; split <;> simp <;> omega
  unfold feedC
  repeat' split
  all_goals refine ⟨by first | exact ha | exact hb | exact h | simp [Mc0], fun t ht => ?_⟩
  all_goals first | cases ht; done | (injection ht with ht; subst ht; first | exact h | simp)
theorem runC_body : ∀ (bs : List UInt8) (m : Mc), m.body.length ≤ 256 → ∀ t ∈ (runC m bs).1, t.body.length ≤ 256
  | [], m, _, t, ht => by simp [runC] at ht
  | c :: r, m, h, t, ht => by
    have hf := feedC_body m c h
    cases hz : feedC m c with
    | mk m' x =>
      rw [hz] at hf
      cases x with
      | none => rw [runC_n hz] at ht; exact runC_body r m' hf.1 t ht
      | some y =>
        rw [runC_s hz] at ht
        rcases List.mem_cons.1 ht with e | e
        · subst e; exact hf.2 _ rfl
        · exact runC_body r m' hf.1 t e
theorem okRow_toK (T : List Tk) (h : ∀ t ∈ T, t.body.length ≤ 256) : okRow T.length T.length (kM T) (kL T) (gL T) (gB T) = true := List.all_eq_true.2 fun j hj => by
  have hj := List.mem_range.1 hj
  have hb : kL T [j] ≤ 256 := by
    simp only [kL, List.headD]
    rw [List.getD_eq_getElem?_getD, List.getElem?_eq_getElem hj, Option.getD_some]
    exact h _ (List.getElem_mem hj)
  show (decide (kM T [j] < T.length ∧ kL T [j] ≤ gL T (kM T [j]) ∧ kL T [j] ≤ 1000) && bndB (fun js => gB T ([kM T [j]] ++ js)) (kL T [j])) = true
  refine Bool.and_eq_true_iff.2 ⟨decide_eq_true ⟨by simp only [kM]; omega, ?_, by omega⟩, bndB_of fun i hi => u8nat _⟩
  simp only [kL, gL, kM, List.headD]; rw [show T.length - 1 - (T.length - 1 - j) = j by omega]; exact Nat.le_refl _
theorem emitBack_law (t0 t1 t2 : List UInt8) (N : Nat) (K C O : Ix → Int) (bl : Ix → Nat) (CU : Ix → Bool) (B : Ix → Int) (R : Nat) (RB : Ix → Int) (hB : ∀ i, i < N → ∀ j, j < bl [i] → 0 ≤ B [i, j] ∧ B [i, j] < 256) (hR : ∀ i, i < R → 0 ≤ RB [i] ∧ RB [i] < 256) : RunsTo Tryd.prog 9 [.code (bodyOf Tryd.f9)] (envOf [vL 100 5 N, vL 102 1 R] Tryd.f9.ntmps) (Sx.look (ebS t0 t1 t2 ++ (([⟨100, false, none, 5, .ta N (.tc (.vi .i64 K) (.tc (.vi .i64 C) (.tc (.vi .i64 O) (.tc (.vl 101 (fun is => is.headD 0) 1 [] bl) (.tc (.vb CU) .t0)))))⟩] ++ [⟨101, false, some (N, fun i => bl [i]), 1, .vi .u8 B⟩]) ++ rB 102 R RB) ++ ([]))) 110 (YES) (Sx.look []) 9000 := by
  by_cases hN : 30 < N
  · exact ebLong t0 t1 t2 N K C O bl CU B R RB hN
  have hN : N ≤ 30 := by omega
  by_cases hR6 : 600 < R
  · exact ebRaw t0 t1 t2 N K C O bl CU B R RB hN hR6
  have hR6 : R ≤ 600 := by omega
  refine ebStart t0 t1 t2 N K C O bl CU B R RB hN hR6 ?_
  suffices q : ∀ (k i : Nat), i + k = N → (∀ j, j < i → bl [j] ≤ 400) → RunsTo Tryd.prog 9 (headOf Tryd.f9 0) (envAt Tryd.f9.ntmps ([(0, vL 100 5 N), (1, vL 102 1 R), (19, vL 100 5 N), (20, vN N), (21, vN (i : Nat))])) (Sx.look (ebS t0 t1 t2 ++ (([⟨100, false, none, 5, .ta N (.tc (.vi .i64 K) (.tc (.vi .i64 C) (.tc (.vi .i64 O) (.tc (.vl 101 (fun is => is.headD 0) 1 [] bl) (.tc (.vb CU) .t0)))))⟩] ++ [⟨101, false, some (N, fun i => bl [i]), 1, .vi .u8 B⟩]) ++ rB 102 R RB) ++ ([]))) 110 (YES) (Sx.look []) 9000 from q N 0 (by omega) (fun j hj => by omega)
  intro k
  induction k with
  | zero =>
    intro i hi h4
    have e : i = N := by omega
    have hok : okRow N N (fun is => is.headD 0) bl (fun i => bl [i]) B = true := List.all_eq_true.2 fun j hj => by
      have hj := List.mem_range.1 hj
      have h5 := h4 j (by omega)
      show (decide (j < N ∧ bl [j] ≤ bl [j] ∧ bl [j] ≤ 1000) && bndB (fun js => B ([j] ++ js)) (bl [j])) = true
      exact Bool.and_eq_true_iff.2 ⟨decide_eq_true ⟨hj, Nat.le_refl _, by omega⟩, bndB_of fun x hx => hB j hj x hx⟩
    have hlen := runC_len (bytesOf RB [] 0 R) Mc0
    rw [bytesOf_len] at hlen
    exact ebEnd t0 t1 t2 N K C O bl CU B R RB (xaT R RB) i e hN hR6 (bndB_of hR) rfl (Nat.le_trans hlen (by omega)) hok (okRow_toK _ (runC_body _ _ (by simp [Mc0])))
  | succ k ih =>
    intro i hi h4
    by_cases hb : 400 < bl [i]
    · exact ebBody t0 t1 t2 N K C O bl CU B R RB i (by omega) hb
    exact ebR t0 t1 t2 N K C O bl CU B R RB i (by omega) hN (by omega) (ih (i + 1) (by omega) (fun j hj => by
      by_cases q : j = i
      · subst q; omega
      · exact h4 j (by omega)))
theorem tok_bytes {W : World} {v : Value} (h : (Sh.sl (.tc (.ki .i64) (.tc (.ki .i64) (.tc (.ki .i64) (.tc (.sl (.ki .u8)) (.tc .kb .t0)))))).Is W [v]) {g : Rd} {o : Nat} (hg : g [] o = v) :
    ∀ i, i < lenOf v → ∀ j, j < lenOf (rdOf W 5 g o [i] 3) → 0 ≤ Sx.intOf (rdOf W 1 (rdOf W 5 g o) 3 [i, j] 0) ∧ Sx.intOf (rdOf W 1 (rdOf W 5 g o) 3 [i, j] 0) < 256 := by
  obtain ⟨v', hv', _, _, _, _, hrows⟩ := h
  have hv' : v = v' := by simpa using hv'
  subst hv'
  intro i hi j hj
  obtain ⟨_, _, e, _, ⟨a, rfl, _⟩, _, _, rfl, _, ⟨b, rfl, _⟩, _, _, rfl, _, ⟨c, rfl, _⟩, _, r5, rfl, _, hu, _⟩ := hrows i hi
  have hrd : ∀ j, rdOf W 5 g o [i] j = (rowsOf W 5 v i).getD j undef := fun j => by
    have : rdOf W 5 g o [i] j = (rowsOf W 5 (g [] o) i).getD j undef := rfl
    rw [this, hg]
  obtain ⟨u, hu', _, _, _, _, hbytes⟩ := hu
  subst hu'
  have e3 : rowsOf W 5 v i = .int .i64 a :: .int .i64 b :: .int .i64 c :: u :: r5 := e
  have h2 : rdOf W 5 g o [i] 3 = u := by rw [hrd, e3]; rfl
  rw [h2] at hj
  obtain ⟨n, hn, hwf⟩ := hbytes j hj
  have h3 : rdOf W 1 (rdOf W 5 g o) 3 [i, j] 0 = .int .u8 n := by
    have : rdOf W 1 (rdOf W 5 g o) 3 [i, j] 0 = (rowsOf W 1 (rdOf W 5 g o [i] 3) j).getD 0 undef := rfl
    rw [this, h2]
    have e1 : (Sh.ki .u8).size = 1 := rfl
    rw [e1] at hn
    rw [hn]; rfl
  rw [h3]
  exact bnd_u8 hwf
end Go.Proofs.YtcphocfnhekdaaaDoor

set_option maxRecDepth 100000
set_option linter.unusedSimpArgs false
set_option linter.unusedVariables false
namespace Go.Proofs.YtcphocfnhekdaaaDoor
open Go.ChangeShapes Go.WideShapes Go.ChangeAt Go.RowKit
open Go.Sx

theorem emitBack_sh : shsOf Tryd.prog Tryd.f9.params.toList = some [.sl (.tc (.ki .i64) (.tc (.ki .i64) (.tc (.ki .i64) (.tc (.sl (.ki .u8)) (.tc .kb .t0))))), .sl (.ki .u8)] := by kernel_rfl

theorem emitBack_star : "*" ++ "errors.errorString" = "*errors.errorString" := by decide
theorem emitBack_row (u : TypeId) (h : Tryd.prog.typeName? 3 u = some "*errors.errorString") : u = 144 :=
  typeName_ptr_named (nm := "errors.errorString") (by rw [emitBack_star]; kernel_rfl) (by kernel_rfl) (by decide) u (by rw [emitBack_star]; exact h)

theorem emitBack_errTy : ErrTy Tryd.prog "*errors.errorString" 26 144 169 9 := errTy_of (by kernel_rfl) emitBack_row (by kernel_rfl) (by kernel_rfl) (by kernel_rfl) (by kernel_rfl) (by kernel_rfl)

theorem emitBack_own : ownKnob Tryd.prog.godebug = none := by kernel_rfl
theorem emitBack_met (os : Os) (args : Array Value) : laidMetH Tryd.prog Rows.emitBackRow.laid ((World.laidAll Tryd.prog os Rows.emitBackRow.laid).forCall (fun _ _ => 0) ⟨#[], args, []⟩).memory := by
  rw [MakeChecks.laidMetH_plain _ _ _ (by kernel_rfl)]; exact laidMet_laidAll _ (by kernel_rfl) (by kernel_rfl)
theorem emitBack_plain (w : World) : laidMetH Tryd.prog Rows.emitBackRow.laid w = laidMet Tryd.prog Rows.emitBackRow.laid w := MakeChecks.laidMetH_plain _ _ _ (by kernel_rfl)

def emitBack_texts : List (Nat × List UInt8) := [(2, [97, 32, 110, 117, 109, 98, 101, 114, 32, 105, 115, 32, 111, 117, 116, 32, 111, 102, 32, 105, 116, 115, 32, 114, 97, 110, 103, 101]), (3, [116, 104, 101, 114, 101, 32, 105, 115, 32, 109, 111, 114, 101, 32, 116, 104, 97, 110, 32, 109, 97, 121, 32, 98, 101]), (1, [105, 116, 32, 105, 115, 32, 111, 102, 32, 97, 110, 111, 116, 104, 101, 114, 32, 107, 105, 110, 100])]
theorem emitBack_sent : sentOf Tryd.prog "*errors.errorString" Rows.emitBackRow.laid = some emitBack_texts := by kernel_rfl

theorem emitBack_readable : ∀ t ∈ Tryd.f9.params.toList, Tryd.prog.readableRec t = true ∧ t < Tryd.prog.types.size := by
  have h : (Tryd.f9.params.toList.all fun t => Tryd.prog.readableRec t && decide (t < Tryd.prog.types.size)) = true := by kernel_rfl
  intro t ht
  have := List.all_eq_true.1 h t ht
  simpa using this

theorem emitBack_wants : ∀ t ∈ Tryd.f9.params.toList, Tryd.prog.wantsStandIn t = false := by
  have h : (Tryd.f9.params.toList.all fun t => !Tryd.prog.wantsStandIn t) = true := by kernel_rfl
  intro t ht
  have := List.all_eq_true.1 h t ht
  simpa using this

theorem emitBack_lifted (os : Os) (started : os.Started) (H : Type) (enc : TypeId × Value → H) :
    ReturnsInHanded {} Tryd.checked os 9 .any (fun w args => (Rows.emitBackSpec.pre enc Tryd.prog Tryd.f9 [] false w args ∧ laidMetH Tryd.prog Rows.emitBackRow.laid w) ∧ sizedMet enc Tryd.prog Tryd.f9 (OpenSpec.ofChange Rows.emitBackSpec) false w args)
      (Rows.emitBackSpec.post enc Tryd.prog Tryd.f9 false true false false) := by
  refine returnsInHanded_of_change_and (C := Tryd.checked) (X := fun w _ => laidMetH Tryd.prog Rows.emitBackRow.laid w) (fun _ _ _ hh h => h.of_heap hh) emitBack_own started (by kernel_rfl) Tryd.func9
    (ChangeSpec.witness_shaped (enc := enc) (C := Tryd.checked) (os := os) (X := fun w _ => laidMetH Tryd.prog Rows.emitBackRow.laid w) false (World.laidAll Tryd.prog os Rows.emitBackRow.laid) #[.slice none 0 0, .slice none 0 0] 8 (World.laidAll_os _ _ _) (World.shaped_of_ZipB (by kernel_rfl) (by kernel_rfl)) (by kernel_rfl) (by kernel_rfl) (by kernel_rfl) (emitBack_met os _)) ?_
  intro W base args ds gs before hval hW _ _ hL _
  have hW' := hW
  obtain ⟨p, q, hA, hV, rfl, hfz, hnd⟩ := hW
  obtain ⟨rfl, rfl⟩ := trodVars_none hV
  rw [emitBack_plain] at hL
  obtain ⟨s1, s2, s3⟩ := sents_open emitBack_errTy hL emitBack_sent (by kernel_rfl)
  have hG : Tryd.prog.globals.size = 19 := by kernel_rfl
  rw [hG] at s2 s3
  have g3 : ds.length = 2 := (args_open emitBack_sh hA (fun j t v h1 h2 => hval j t v (by rw [← Array.getElem?_toList]; exact h1) (by rw [← Array.getElem?_toList]; exact h2))).2.2.1
  match ds, g3 with
  | [d1, d2], _ =>
    refine (law_calls Tryd.func9 (body := bodyOf Tryd.f9) (by kernel_rfl) emitBack_sh hA hval (lab := 100) (n := 110) (n' := 9000) (L' := Sx.look []) gtopP s1 s2 (fun e he => ?_) (fun cs hcs hIs => ?_)).mono fun e W' ⟨he, hB⟩ => ⟨_, he, law_post (bt := 4) (by kernel_rfl) emitBack_readable rfl (by kernel_rfl) (by kernel_rfl) hW' rfl hB⟩
    · obtain ⟨a1, a2, a3⟩ := s3 e he
      exact ⟨a1, Nat.lt_of_lt_of_le a2 gtopP, fun l hl => Nat.lt_of_lt_of_le (a3 l hl) gtopP⟩
    · clear hcs
      have hB : ∀ i, i < lenOf (Go.Sx.rd0 cs [] 0) → ∀ j, j < lenOf (rdOf W 5 (Go.Sx.rd0 cs) 0 [i] 3) → 0 ≤ Sx.intOf (rdOf W 1 (rdOf W 5 (Go.Sx.rd0 cs) 0) 3 [i, j] 0) ∧ Sx.intOf (rdOf W 1 (rdOf W 5 (Go.Sx.rd0 cs) 0) 3 [i, j] 0) < 256 := by
        obtain ⟨a1, r1, e1, l1, he, hrest⟩ := hIs
        have he2 := he
        obtain ⟨v, e4, _⟩ := he2
        rw [e4] at he
        have e5 : Go.Sx.rd0 cs [] 0 = v := by
          show cs.getD 0 undef = v
          rw [e1, e4]
          rfl
        intro i hi
        rw [e5] at hi
        exact tok_bytes he e5 i hi
      have hRb : ∀ i, i < lenOf (Go.Sx.rd0 cs [] 1) → 0 ≤ Sx.intOf (rdOf W 1 (Go.Sx.rd0 cs) 1 [i] 0) ∧ Sx.intOf (rdOf W 1 (Go.Sx.rd0 cs) 1 [i] 0) < 256 := by
        obtain ⟨a1, r1, e1, l1, he, a2, r2, e2, l2, he3, hrest⟩ := hIs
        obtain ⟨v, e4, _⟩ := he
        have heb := he3
        obtain ⟨u, e5, _⟩ := heb
        rw [e5] at he3
        have e6 : Go.Sx.rd0 cs [] 1 = u := by
          show cs.getD 1 undef = u
          rw [e1, e4, e2, e5]
          rfl
        intro i hi
        rw [e6] at hi
        exact sl_u8 he3 e6 i hi
      refine RunsTo.start (cargs := [.v (.vl 100 (fun _ => 0) 5 [] (fun _ => lenOf (Go.Sx.rd0 cs [] 0))), .v (.vl 102 (fun _ => 0) 1 [] (fun _ => lenOf (Go.Sx.rd0 cs [] 1)))]) ?_ ⟨⟨rfl, rfl⟩, ⟨rfl, rfl⟩, trivial⟩
      exact emitBack_law _ _ _ (lenOf (Go.Sx.rd0 cs [] 0)) (fun is => Sx.intOf (rdOf W 5 (Go.Sx.rd0 cs) 0 is 0)) (fun is => Sx.intOf (rdOf W 5 (Go.Sx.rd0 cs) 0 is 1)) (fun is => Sx.intOf (rdOf W 5 (Go.Sx.rd0 cs) 0 is 2)) (fun is => lenOf (rdOf W 5 (Go.Sx.rd0 cs) 0 is 3)) (fun is => Sx.boolOf (rdOf W 5 (Go.Sx.rd0 cs) 0 is 4)) (fun is => Sx.intOf (rdOf W 1 (rdOf W 5 (Go.Sx.rd0 cs) 0) 3 is 0)) (lenOf (Go.Sx.rd0 cs [] 1)) (fun is => Sx.intOf (rdOf W 1 (Go.Sx.rd0 cs) 1 is 0)) hB hRb

theorem emitBack_holds : Rows.EmitBackSaid :=
  OpenClaim.holds_of_wide 9 Tryd.f9 rfl rfl rfl rfl rfl rfl rfl ⟨rfl, rfl, rfl, rfl, rfl⟩ rfl rfl rfl rfl rfl (by kernel_rfl) Tryd.func9 (by kernel_rfl)
    (of_decide_eq_true (by kernel_rfl)) (by unfold Func.isWrapper; first | (rw [if_pos (by decide +kernel)]; kernel_rfl) | (rw [if_neg (by decide +kernel)]; exact ⟨rfl, rfl⟩))
    (fun os started H enc _ => emitBack_lifted os started H enc)

theorem emitBack_card_holds : Rows.EmitBackCardSaid :=
  Claim7.holds_tied_plain_at .later [] [.data, .sentinel, .sentinel, .sentinel, .pinned] true (true, "f530cd95f545498e1079217162ceacc12c579589fcdd7c478fda70c03005852d") true
    emitBack_holds (fun _ h => by cases h) (by kernel_rfl) (fun _ h => by cases h) emitBack_row_tie rfl ⟨rfl, rfl⟩ (by kernel_rfl) rfl
    (fun f fn hf hfn => by
      obtain rfl : f = 9 := Option.some.inj ((show Tryd.prog.funcNamed "truchman/truchmanlaw06.EmitBack" = some 9 by kernel_rfl).symm.trans hf) |>.symm
      obtain rfl : fn = Tryd.f9 := (Option.some.inj (Tryd.func9.symm.trans hfn)).symm
      exact ⟨by kernel_rfl, fun j t ht => emitBack_wants t (List.mem_of_getElem? (by rw [Array.getElem?_toList]; exact ht))⟩)
    (by kernel_rfl)
end Go.Proofs.YtcphocfnhekdaaaDoor

