/- Cleaning without marks: the law CleanPlain, its steps. -/
import Derived.Test.YtcphocfnhekdaaaDoorUkC
import Derived.Test.YtcphocfnhekdaaaDoorUiC
import Derived.Test.YtcphocfnhekdaaaDoorUhC
import Derived.Test.YtcphocfnhekdaaaDoorSyY
import Derived.Test.YtcphocfnhekdaaaDoorSyPl
import Derived.Lay
import Derived.Test.YtcphocfnhekdaaaDoorTie
import Derived.Test.YtcphocfnhekdaaaDoorCards
set_option linter.unusedSimpArgs false
set_option linter.unusedVariables false
set_option maxRecDepth 100000
namespace Go.Proofs.YtcphocfnhekdaaaDoor
open Go.Sx

open GramR
theorem cavI_p0 (u : Nat) :
    isEnd (evTill Tryd.prog [] 900 (99) 900 32 [.code (bodyOf Tryd.f32)] (envOf [] Tryd.f32.ntmps) ([] ++ ([])) ⟨[.t, .t, .t, .t, .t, .t, .t, .t, .f, .f, .f, .f, .f, .f, .f, .f, .f, .f, .f, .f, .t, .t, .f, .t, .t, .t, .t, .t, .t, .t, .t, .t, .t, .t, .t, .f, .f, .f, .f, .f, .f, .f, .f, .f, .f, .f, .t, .f, .t, .t, .t, .t, .t, .t, .t, .t, .f, .f, .t, .f, .f, .f, .f, .f, .f, .f, .f, .f, .f, .t, .f, .t, .t, .t, .t, .t, .t, .t, .t, .f, .f, .t, .f, .f, .f, .f, .f, .t, .t, .f, .t, .t, .t, .t, .t, .t, .t, .t, .f, .f, .t, .t, .f, .f, .f, .f, .f, .t, .t, .f, .t, .t, .t, .t, .t, .t, .t, .t, .t, .t, .t, .t, .f, .f, .f, .f, .f, .f, .f, .f, .f, .f, .f, .f, .t, .t, .f, .t, .t, .t, .t, .f, .t, .t, .t, .t, .t, .t, .t, .t, .t, .t, .t, .f, .t, .t, .t, .t, .t, .t, .t, .t, .f, .t], 80⟩) (endP ([]) (YES) ([]) 1600) =
    (OkL [] ∧ true = true ∧ True) := by kernel_rfl

set_option maxHeartbeats 4000000 in
theorem cavI (u : Nat)  :
    RunsTo Tryd.prog 32 [.code (bodyOf Tryd.f32)] (envOf [] Tryd.f32.ntmps) (Sx.look ([] ++ ([]))) 80 (YES) (Sx.look ([])) 1600 := by
  refine runs_last baseO (Sx.Ends.of (cavI_p0 u) ⟨?oo, ?rr⟩) (by kernel_rfl) rfl (gtL (by decide)) (by decide)
  case oo =>
    refine okn
    all_goals ((try simp (disch := omega) only [SS]); first | done | omega | assumption | (simp (disch := omega) only [SS] at *; first | done | omega | assumption) | (simp_all; done))
  case rr =>
    try simp (disch := omega) only [SS]
    repeat' apply And.intro
    all_goals first | exact True.intro | with_reducible rfl | omega | (intros; first | exact True.intro | with_reducible rfl | omega | (simp_all; done)) | (simp_all; done) | rfl

def cavP : PC := { args := [], heap := [], gs := [], G := 19, tp := 144, n := 80, n' := 1600, cond := fun e => true, v := fun e => YES, post := fun e => [] }
theorem cavP_pc : PC.Runs Tryd.prog 32 Tryd.f32 (bodyOf Tryd.f32) cavP := ⟨Tryd.func32, by kernel_rfl, (fun g hg => by first | (cases hg; done) | (revert g; show ∀ g ∈ ([] : List Nat), g < 19; decide)), fun e H hc => by
  have hc : (true) = true := hc
  try simp only [Bool.and_eq_true, decide_eq_true_eq, Nat.beq_eq] at hc
  exact cavI 0⟩
def sumsPL : List (FuncId × Summ) := [(32, cavP.summ 38), (33, xaP.summ 38), (34, kaP.summ 38), (36, enPm.summ 38), (23, dtP.summ 38), (37, daP.summ 38)]
theorem basePL : Base0 Tryd.prog sumsPL := ((((((baseO.cons Tryd.func37 (by kernel_rfl) (PC.summ_ok daP_pc gtopG)).cons Tryd.func23 (by kernel_rfl) (PC.summ_ok dtP_pc gtopG)).cons Tryd.func36 (by kernel_rfl) (PC.summ_ok enPm_pc gtopG)).cons Tryd.func34 (by kernel_rfl) (PC.summ_ok kaP_pc gtopG)).cons Tryd.func33 (by kernel_rfl) (PC.summ_ok xaP_pc gtopG)).cons Tryd.func32 (by kernel_rfl) (PC.summ_ok cavP_pc gtopG))
theorem app3' (a d c : List UInt8) (g1 g2 g3 : Ix → Int) (h1 : ∀ j, j < a.length → g1 [j] = ((a.getD j 0).toNat : Int)) (h2 : ∀ j, j < d.length → g2 [j] = ((d.getD j 0).toNat : Int)) (h3 : ∀ j, j < c.length → g3 [j] = ((c.getD j 0).toNat : Int)) :
    ∀ k, k < a.length + d.length + c.length → (((a ++ d ++ c).getD k 0).toNat : Int) = appF (a.length + d.length) 0 (appF a.length 0 g1 g2) g3 [k] := by
  intro k hk
  have := app3 a d c g1 g2 g3 (fun _ => 0) h1 h2 h3 k (by simp only [List.length_append]; exact hk)
  rw [this]
  simp only [appF, Nat.zero_add, Nat.sub_zero]
  split
  · split
    · rw [if_neg (by omega)]
    · rfl
  · rfl
theorem sent_app (o d : List UInt8) (v i : UInt8) : ∀ k, k < o.length + d.length + (1 + 1 + 1) → (((o ++ d ++ [255, v, i]).getD k 0).toNat : Int) = appF (o.length + d.length) 0 (appF o.length 0 (fun is => ((o.getD (List.headD is 0) 0).toNat : Int)) fun js => ((d.getD (List.headD (subIx 0 js) 0) 0).toNat : Int)) (fun js => upd (upd (upd (fun is => 0) [0] 255) [1] (v.toNat : Int)) [2] (i.toNat : Int) (subIx 0 js)) [k] := by
  intro k hk
  refine app3' o d [255, v, i] _ _ _ (fun j hj => rfl) (fun j hj => ?_) (fun j hj => ?_) k (by simp only [List.length_cons, List.length_nil]; omega)
  · show ((d.getD (0 + j) 0).toNat : Int) = _; rw [Nat.zero_add]
  · have : j = 0 ∨ j = 1 ∨ j = 2 := by simp at hj; omega
    rcases this with rfl | rfl | rfl
    · rfl
    · rfl
    · rfl
def cpS (t0 t1 : List UInt8) : List Ent := sentEnts 19 144 [(2, t0), (1, t1)]
theorem cpLong_p0 (t0 t1 : List UInt8) (N : Nat) (B : Ix → Int) (P : Nat) (pl : Ix → Nat) (PB : Ix → Int) (raw : Bool) :
    isEnd (evTill Tryd.prog sumsPL 900 (99) 900 8 [.code (bodyOf Tryd.f8)] (envOf [vL 100 1 N, vL 101 1 P, vB raw] Tryd.f8.ntmps) (cpS t0 t1 ++ (rB 100 N B ++ ([⟨101, false, none, 1, .ta P (.vl 102 (fun is => is.headD 0) 1 [] pl)⟩] ++ [⟨102, false, some (P, fun i => pl [i]), 1, .vi .u8 PB⟩])) ++ ([])) ⟨[.t, .f, .s true], 110⟩) (endP ([]) (YES) ([]) 9000) =
    (OkL [(decide ((↑N : Int) > (300 : Int)), true)] ∧ true = true ∧ True) := by kernel_rfl

set_option maxHeartbeats 4000000 in
theorem cpLong (t0 t1 : List UInt8) (N : Nat) (B : Ix → Int) (P : Nat) (pl : Ix → Nat) (PB : Ix → Int) (raw : Bool) (h : 300 < N)  :
    RunsTo Tryd.prog 8 [.code (bodyOf Tryd.f8)] (envOf [vL 100 1 N, vL 101 1 P, vB raw] Tryd.f8.ntmps) (Sx.look (cpS t0 t1 ++ (rB 100 N B ++ ([⟨101, false, none, 1, .ta P (.vl 102 (fun is => is.headD 0) 1 [] pl)⟩] ++ [⟨102, false, some (P, fun i => pl [i]), 1, .vi .u8 PB⟩])) ++ ([]))) 110 (YES) (Sx.look ([])) 9000 := by
  refine runs_last basePL (Sx.Ends.of (cpLong_p0 t0 t1 N B P pl PB raw) ⟨?oo, ?rr⟩) (by kernel_rfl) rfl (gtL (by decide)) (by decide)
  case oo =>
    refine (okc ?_ okn)
    all_goals ((try simp (disch := omega) only [SS]); first | done | omega | assumption | (simp (disch := omega) only [SS] at *; first | done | omega | assumption) | (simp_all; done))
  case rr =>
    try simp (disch := omega) only [SS]
    repeat' apply And.intro
    all_goals first | exact True.intro | with_reducible rfl | omega | (intros; first | exact True.intro | with_reducible rfl | omega | (simp_all; done)) | (simp_all; done) | rfl

theorem cpMany_p0 (t0 t1 : List UInt8) (N : Nat) (B : Ix → Int) (P : Nat) (pl : Ix → Nat) (PB : Ix → Int) (raw : Bool) :
    isEnd (evTill Tryd.prog sumsPL 900 (99) 900 8 [.code (bodyOf Tryd.f8)] (envOf [vL 100 1 N, vL 101 1 P, vB raw] Tryd.f8.ntmps) (cpS t0 t1 ++ (rB 100 N B ++ ([⟨101, false, none, 1, .ta P (.vl 102 (fun is => is.headD 0) 1 [] pl)⟩] ++ [⟨102, false, some (P, fun i => pl [i]), 1, .vi .u8 PB⟩])) ++ ([])) ⟨[.t, .f, .s false, .s true], 110⟩) (endP ([]) (YES) ([]) 9000) =
    (OkL [(decide ((↑N : Int) > (300 : Int)), false), (decide ((↑P : Int) > (20 : Int)), true)] ∧ true = true ∧ True) := by kernel_rfl

set_option maxHeartbeats 4000000 in
theorem cpMany (t0 t1 : List UInt8) (N : Nat) (B : Ix → Int) (P : Nat) (pl : Ix → Nat) (PB : Ix → Int) (raw : Bool) (hN : N ≤ 300) (h : 20 < P)  :
    RunsTo Tryd.prog 8 [.code (bodyOf Tryd.f8)] (envOf [vL 100 1 N, vL 101 1 P, vB raw] Tryd.f8.ntmps) (Sx.look (cpS t0 t1 ++ (rB 100 N B ++ ([⟨101, false, none, 1, .ta P (.vl 102 (fun is => is.headD 0) 1 [] pl)⟩] ++ [⟨102, false, some (P, fun i => pl [i]), 1, .vi .u8 PB⟩])) ++ ([]))) 110 (YES) (Sx.look ([])) 9000 := by
  refine runs_last basePL (Sx.Ends.of (cpMany_p0 t0 t1 N B P pl PB raw) ⟨?oo, ?rr⟩) (by kernel_rfl) rfl (gtL (by decide)) (by decide)
  case oo =>
    refine (okc ?_ (okc ?_ okn))
    all_goals ((try simp (disch := omega) only [SS]); first | done | omega | assumption | (simp (disch := omega) only [SS] at *; first | done | omega | assumption) | (simp_all; done))
  case rr =>
    try simp (disch := omega) only [SS]
    repeat' apply And.intro
    all_goals first | exact True.intro | with_reducible rfl | omega | (intros; first | exact True.intro | with_reducible rfl | omega | (simp_all; done)) | (simp_all; done) | rfl

theorem cpStart_p0 (t0 t1 : List UInt8) (N : Nat) (B : Ix → Int) (P : Nat) (pl : Ix → Nat) (PB : Ix → Int) (raw : Bool) (T : List Tk) :
    isMore (evTill Tryd.prog sumsPL 900 (behind Tryd.f8 0) 900 8 [.code (bodyOf Tryd.f8)] (envOf [vL 100 1 N, vL 101 1 P, vB raw] Tryd.f8.ntmps) (cpS t0 t1 ++ (rB 100 N B ++ ([⟨101, false, none, 1, .ta P (.vl 102 (fun is => is.headD 0) 1 [] pl)⟩] ++ [⟨102, false, some (P, fun i => pl [i]), 1, .vi .u8 PB⟩])) ++ ([])) ⟨[.t, .f, .s false, .s false, .s true, .s true, .s false], 110⟩) (moreP (headOf Tryd.f8 0) ([((123 : Nat), Rn.to (1872 : Nat)), ((121 : Nat), Rn.to (1652 : Nat)), ((124 : Nat), Rn.to (1873 : Nat)), ((122 : Nat), Rn.to (1653 : Nat))]) Tryd.f8.ntmps ([(1, vL 101 1 P), (2, vB raw), (9, vL 123 5 T.length), (40, vL 121 5 T.length), (41, vN T.length), (42, vN (0 : Nat))]) (toK 121 122 T ++ toK 123 124 T) 9000) =
    (OkL [(decide ((↑N : Int) > (300 : Int)), false), (decide ((↑P : Int) > (20 : Int)), false), (decide (N ≤ (400000 : Nat)) && (decide (N ≤ N) && bndB B N), true), (decide (N ≤ (400000 : Nat)) && (decide (N ≤ N) && bndB B N), true), ((↑(xaT N B).length : Int) != (↑(kaF N B true).length : Int), false)] ∧ headOf Tryd.f8 (0 : Nat) = headOf Tryd.f8 (0 : Nat) ∧ (((0 : Nat) = (0 : Nat) ∧ P = P) ∧ raw = raw ∧ ((0 : Nat) = (0 : Nat) ∧ T.length = (kaF N B true).length) ∧ ((0 : Nat) = (0 : Nat) ∧ T.length = (xaT N B).length) ∧ (↑T.length : Int) = (↑(xaT N B).length : Int) ∧ (↑(0 : Nat) : Int) = (0 : Int)) ∧ (T.length = (xaT N B).length ∧ (∀ (i : Nat), i < T.length → kK T [i] = kK (xaT N B) [i]) ∧ (∀ (i : Nat), i < T.length → kC T [i] = kC (xaT N B) [i]) ∧ (∀ (i : Nat), i < T.length → kO T [i] = kO (xaT N B) [i]) ∧ ((∀ (i : Nat), i < T.length → kM T [i] = kM (xaT N B) [i]) ∧ ∀ (i : Nat), i < T.length → kL T [i] = kL (xaT N B) [i]) ∧ ∀ (i : Nat), i < T.length → kU T [i] = kU (xaT N B) [i]) ∧ (T.length = (xaT N B).length ∧ ∀ (m : Nat), m < T.length → gL T m = gL (xaT N B) m ∧ ∀ (i : Nat), i < gL T m → gB T [m, i] = gB (xaT N B) [m, i]) ∧ (T.length = (kaF N B true).length ∧ (∀ (i : Nat), i < T.length → kK T [i] = kK (kaF N B true) [i]) ∧ (∀ (i : Nat), i < T.length → kC T [i] = kC (kaF N B true) [i]) ∧ (∀ (i : Nat), i < T.length → kO T [i] = kO (kaF N B true) [i]) ∧ ((∀ (i : Nat), i < T.length → kM T [i] = kM (kaF N B true) [i]) ∧ ∀ (i : Nat), i < T.length → kL T [i] = kL (kaF N B true) [i]) ∧ ∀ (i : Nat), i < T.length → kU T [i] = kU (kaF N B true) [i]) ∧ T.length = (kaF N B true).length ∧ ∀ (m : Nat), m < T.length → gL T m = gL (kaF N B true) m ∧ ∀ (i : Nat), i < gL T m → gB T [m, i] = gB (kaF N B true) [m, i]) := by kernel_rfl

set_option maxHeartbeats 4000000 in
theorem cpStart (t0 t1 : List UInt8) (N : Nat) (B : Ix → Int) (P : Nat) (pl : Ix → Nat) (PB : Ix → Int) (raw : Bool) (T : List Tk) (hN : N ≤ 300) (hP : P ≤ 20) (hB : bndB B N = true) (h1 : xaT N B = T) (h2 : kaF N B true = T)  (next : RunsTo Tryd.prog 8 (headOf Tryd.f8 0) (envAt Tryd.f8.ntmps ([(1, vL 101 1 P), (2, vB raw), (9, vL 123 5 T.length), (40, vL 121 5 T.length), (41, vN T.length), (42, vN (0 : Nat))])) (Sx.look (cpS t0 t1 ++ (rB 100 N B ++ ([⟨101, false, none, 1, .ta P (.vl 102 (fun is => is.headD 0) 1 [] pl)⟩] ++ [⟨102, false, some (P, fun i => pl [i]), 1, .vi .u8 PB⟩])) ++ (toK 121 122 T ++ toK 123 124 T))) 110 (YES) (Sx.look []) 9000) :
    RunsTo Tryd.prog 8 [.code (bodyOf Tryd.f8)] (envOf [vL 100 1 N, vL 101 1 P, vB raw] Tryd.f8.ntmps) (Sx.look (cpS t0 t1 ++ (rB 100 N B ++ ([⟨101, false, none, 1, .ta P (.vl 102 (fun is => is.headD 0) 1 [] pl)⟩] ++ [⟨102, false, some (P, fun i => pl [i]), 1, .vi .u8 PB⟩])) ++ ([]))) 110 (YES) (Sx.look []) 9000 := by
  refine runs_more basePL (More.of (cpStart_p0 t0 t1 N B P pl PB raw T) ⟨?oo, rfl, ?rr⟩) (by kernel_rfl) (by kernel_rfl) rfl (gtL (by decide)) (by decide) next
  case oo =>
    clear next
    refine (okc ?_ (okc ?_ (okc ?_ (okc ?_ (okc ?_ okn)))))
    all_goals first | omega | (simp (disch := omega) only [SS, h1, h2]; first | done | omega | exact ⟨by omega, hB⟩ | exact ⟨by omega, by omega, hB⟩ | exact hB) | (simp_all; done) | (simp_all; omega)
  case rr =>
    clear next
    try simp (disch := omega) only [SS, h1, h2]
    repeat' apply And.intro
    all_goals first | exact True.intro | with_reducible rfl | omega | (intros; first | exact True.intro | with_reducible rfl | omega | (simp_all; done)) | (simp_all; done) | rfl

theorem cpR_p0 (t0 t1 : List UInt8) (N : Nat) (B : Ix → Int) (P : Nat) (pl : Ix → Nat) (PB : Ix → Int) (raw : Bool) (T : List Tk) (i : Nat) :
    isMore (evTill Tryd.prog sumsPL 900 (behind Tryd.f8 0) 900 8 (headOf Tryd.f8 0) (envAt Tryd.f8.ntmps ([(1, vL 101 1 P), (2, vB raw), (9, vL 123 5 T.length), (40, vL 121 5 T.length), (41, vN T.length), (42, vN (i : Nat))])) (cpS t0 t1 ++ (rB 100 N B ++ ([⟨101, false, none, 1, .ta P (.vl 102 (fun is => is.headD 0) 1 [] pl)⟩] ++ [⟨102, false, some (P, fun i => pl [i]), 1, .vi .u8 PB⟩])) ++ (toK 121 122 T ++ toK 123 124 T)) ⟨[.s true, .s true, .s true, .s true, .s true, .s true, .s true, .s true, .s true, .s true, .s true, .s true, .s true, .s true, .s true, .s false], 140⟩) (moreP (headOf Tryd.f8 0) ([]) Tryd.f8.ntmps ([(1, vL 101 1 P), (2, vB raw), (9, vL 123 5 T.length), (40, vL 121 5 T.length), (41, vN T.length), (42, vN (i + 1 : Nat))]) (toK 121 122 T ++ toK 123 124 T) 9000) =
    (OkL [(decide ((↑i : Int) < (↑T.length : Int)), true), (decide ((0 : Int) ≤ (↑i : Int) ∧ (↑i : Int) < (↑T.length : Int)), true), (((0 : Nat) + (↑i : Int).toNat).blt T.length, true), (((0 : Nat) + (↑i : Int).toNat).blt T.length, true), (decide ((0 : Int) ≤ (↑i : Int) ∧ (↑i : Int) < (↑T.length : Int)), true), (((0 : Nat) + (↑i : Int).toNat).blt T.length, true), (((0 : Nat) + (↑i : Int).toNat).blt T.length, true), (kK T [(0 : Nat) + (↑i : Int).toNat] == kK T [(0 : Nat) + (↑i : Int).toNat], true), (kC T [(0 : Nat) + (↑i : Int).toNat] == kC T [(0 : Nat) + (↑i : Int).toNat], true), (kO T [(0 : Nat) + (↑i : Int).toNat] == kO T [(0 : Nat) + (↑i : Int).toNat], true), (kU T [(0 : Nat) + (↑i : Int).toNat] == kU T [(0 : Nat) + (↑i : Int).toNat], true), ((kM T [(0 : Nat) + (↑i : Int).toNat]).blt T.length, true), (((0 : Nat) + kL T [(0 : Nat) + (↑i : Int).toNat]).ble (gL T (kM T [(0 : Nat) + (↑i : Int).toNat])), true), ((kM T [(0 : Nat) + (↑i : Int).toNat]).blt T.length, true), (((0 : Nat) + kL T [(0 : Nat) + (↑i : Int).toNat]).ble (gL T (kM T [(0 : Nat) + (↑i : Int).toNat])), true), (!bytesOf (gB T) [kM T [(0 : Nat) + (↑i : Int).toNat]] (0 : Nat) (kL T [(0 : Nat) + (↑i : Int).toNat]) == bytesOf (gB T) [kM T [(0 : Nat) + (↑i : Int).toNat]] (0 : Nat) (kL T [(0 : Nat) + (↑i : Int).toNat]), false)] ∧ headOf Tryd.f8 (0 : Nat) = headOf Tryd.f8 (0 : Nat) ∧ (((0 : Nat) = (0 : Nat) ∧ P = P) ∧ raw = raw ∧ ((0 : Nat) = (0 : Nat) ∧ T.length = T.length) ∧ ((0 : Nat) = (0 : Nat) ∧ T.length = T.length) ∧ (↑T.length : Int) = (↑T.length : Int) ∧ (↑(i + (1 : Nat)) : Int) = IntKind.i64.wrap ((↑i : Int) + (1 : Int))) ∧ (T.length = T.length ∧ (∀ (i : Nat), i < T.length → kK T [i] = kK T [i]) ∧ (∀ (i : Nat), i < T.length → kC T [i] = kC T [i]) ∧ (∀ (i : Nat), i < T.length → kO T [i] = kO T [i]) ∧ ((∀ (i : Nat), i < T.length → kM T [i] = kM T [i]) ∧ ∀ (i : Nat), i < T.length → kL T [i] = kL T [i]) ∧ ∀ (i : Nat), i < T.length → kU T [i] = kU T [i]) ∧ (T.length = T.length ∧ ∀ (m : Nat), m < T.length → gL T m = gL T m ∧ ∀ (i : Nat), i < gL T m → gB T [m, i] = gB T [m, i]) ∧ (T.length = T.length ∧ (∀ (i : Nat), i < T.length → kK T [i] = kK T [i]) ∧ (∀ (i : Nat), i < T.length → kC T [i] = kC T [i]) ∧ (∀ (i : Nat), i < T.length → kO T [i] = kO T [i]) ∧ ((∀ (i : Nat), i < T.length → kM T [i] = kM T [i]) ∧ ∀ (i : Nat), i < T.length → kL T [i] = kL T [i]) ∧ ∀ (i : Nat), i < T.length → kU T [i] = kU T [i]) ∧ T.length = T.length ∧ ∀ (m : Nat), m < T.length → gL T m = gL T m ∧ ∀ (i : Nat), i < gL T m → gB T [m, i] = gB T [m, i]) := by kernel_rfl

set_option maxHeartbeats 4000000 in
theorem cpR (t0 t1 : List UInt8) (N : Nat) (B : Ix → Int) (P : Nat) (pl : Ix → Nat) (PB : Ix → Int) (raw : Bool) (T : List Tk) (i : Nat) (hi : i < T.length) (hT : T.length ≤ 400000)  (next : RunsTo Tryd.prog 8 (headOf Tryd.f8 0) (envAt Tryd.f8.ntmps ([(1, vL 101 1 P), (2, vB raw), (9, vL 123 5 T.length), (40, vL 121 5 T.length), (41, vN T.length), (42, vN (i + 1 : Nat))])) (Sx.look (cpS t0 t1 ++ (rB 100 N B ++ ([⟨101, false, none, 1, .ta P (.vl 102 (fun is => is.headD 0) 1 [] pl)⟩] ++ [⟨102, false, some (P, fun i => pl [i]), 1, .vi .u8 PB⟩])) ++ (toK 121 122 T ++ toK 123 124 T))) 110 (YES) (Sx.look []) 9000) :
    RunsTo Tryd.prog 8 (headOf Tryd.f8 0) (envAt Tryd.f8.ntmps ([(1, vL 101 1 P), (2, vB raw), (9, vL 123 5 T.length), (40, vL 121 5 T.length), (41, vN T.length), (42, vN (i : Nat))])) (Sx.look (cpS t0 t1 ++ (rB 100 N B ++ ([⟨101, false, none, 1, .ta P (.vl 102 (fun is => is.headD 0) 1 [] pl)⟩] ++ [⟨102, false, some (P, fun i => pl [i]), 1, .vi .u8 PB⟩])) ++ (toK 121 122 T ++ toK 123 124 T))) 110 (YES) (Sx.look []) 9000 := by
  have hw : IntKind.i64.wrap ((i : Int) + 1) = ((i + 1 : Nat) : Int) := by rw [wr64 (by omega)]; rfl
  have hmk' : kM T [i] < T.length := by simp only [kM]; omega
  have hgl : kL T [i] ≤ gL T (kM T [i]) := by simp only [kL, gL, kM, List.headD]; rw [show T.length - 1 - (T.length - 1 - i) = i by omega]; exact Nat.le_refl _
  refine runs_more basePL (More.of (cpR_p0 t0 t1 N B P pl PB raw T i) ⟨?oo, rfl, ?rr⟩) (by kernel_rfl) (by kernel_rfl) rfl (gtL (by decide)) (by decide) next
  case oo =>
    clear next
    refine (okc ?_ (okc ?_ (okc ?_ (okc ?_ (okc ?_ (okc ?_ (okc ?_ (okc ?_ (okc ?_ (okc ?_ (okc ?_ (okc ?_ (okc ?_ (okc ?_ (okc ?_ (okc ?_ okn))))))))))))))))
    all_goals ((try simp (disch := omega) only [SS, hw]); first | done | omega | assumption | (simp (disch := omega) only [SS, hw] at *; first | done | omega | assumption) | (simp_all; done))
  case rr =>
    clear next
    try simp (disch := omega) only [SS, hw]
    repeat' apply And.intro
    all_goals first | exact True.intro | with_reducible rfl | omega | (intros; first | exact True.intro | with_reducible rfl | omega | (simp_all; done)) | (simp_all; done) | rfl

theorem cpMid_p0 (t0 t1 : List UInt8) (N : Nat) (B : Ix → Int) (P : Nat) (pl : Ix → Nat) (PB : Ix → Int) (raw : Bool) (T : List Tk) (i : Nat) :
    isMore (evTill Tryd.prog sumsPL 900 (behind Tryd.f8 1) 900 8 (headOf Tryd.f8 0) (envAt Tryd.f8.ntmps ([(1, vL 101 1 P), (2, vB raw), (9, vL 123 5 T.length), (40, vL 121 5 T.length), (41, vN T.length), (42, vN (i : Nat))])) (cpS t0 t1 ++ (rB 100 N B ++ ([⟨101, false, none, 1, .ta P (.vl 102 (fun is => is.headD 0) 1 [] pl)⟩] ++ [⟨102, false, some (P, fun i => pl [i]), 1, .vi .u8 PB⟩])) ++ (toK 121 122 T ++ toK 123 124 T)) ⟨[.s false], 140⟩) (moreP (headOf Tryd.f8 1) ([((131 : Nat), Rn.to (140 : Nat))]) Tryd.f8.ntmps ([(2, vB raw), (12, vS (([] : List UInt8))), (13, vL 131 1 (([] : List UInt8)).length), (56, vL 101 1 P), (57, vN P), (58, vN (0 : Nat))]) (bW 131 (([] : List UInt8))) 9000) =
    (OkL [(decide ((↑i : Int) < (↑T.length : Int)), false)] ∧ headOf Tryd.f8 (1 : Nat) = headOf Tryd.f8 (1 : Nat) ∧ (raw = raw ∧ ([] : List UInt8) = [] ∧ ((0 : Nat) = (0 : Nat) ∧ (0 : Nat) = (0 : Nat)) ∧ ((0 : Nat) = (0 : Nat) ∧ P = P) ∧ (↑P : Int) = (↑P : Int) ∧ (↑(0 : Nat) : Int) = (0 : Int)) ∧ (0 : Nat) = (0 : Nat) ∧ ∀ (i : Nat), i < (0 : Nat) → (↑([].getD i (0 : UInt8)).toNat : Int) = (0 : Int)) := by kernel_rfl

set_option maxHeartbeats 4000000 in
theorem cpMid (t0 t1 : List UInt8) (N : Nat) (B : Ix → Int) (P : Nat) (pl : Ix → Nat) (PB : Ix → Int) (raw : Bool) (T : List Tk) (i : Nat) (hi : i = T.length)  (next : RunsTo Tryd.prog 8 (headOf Tryd.f8 1) (envAt Tryd.f8.ntmps ([(2, vB raw), (12, vS (([] : List UInt8))), (13, vL 131 1 (([] : List UInt8)).length), (56, vL 101 1 P), (57, vN P), (58, vN (0 : Nat))])) (Sx.look (cpS t0 t1 ++ (rB 100 N B ++ ([⟨101, false, none, 1, .ta P (.vl 102 (fun is => is.headD 0) 1 [] pl)⟩] ++ [⟨102, false, some (P, fun i => pl [i]), 1, .vi .u8 PB⟩])) ++ (bW 131 (([] : List UInt8))))) 110 (YES) (Sx.look []) 9000) :
    RunsTo Tryd.prog 8 (headOf Tryd.f8 0) (envAt Tryd.f8.ntmps ([(1, vL 101 1 P), (2, vB raw), (9, vL 123 5 T.length), (40, vL 121 5 T.length), (41, vN T.length), (42, vN (i : Nat))])) (Sx.look (cpS t0 t1 ++ (rB 100 N B ++ ([⟨101, false, none, 1, .ta P (.vl 102 (fun is => is.headD 0) 1 [] pl)⟩] ++ [⟨102, false, some (P, fun i => pl [i]), 1, .vi .u8 PB⟩])) ++ (toK 121 122 T ++ toK 123 124 T))) 110 (YES) (Sx.look []) 9000 := by
  refine runs_more basePL (More.of (cpMid_p0 t0 t1 N B P pl PB raw T i) ⟨?oo, rfl, ?rr⟩) (by kernel_rfl) (by kernel_rfl) rfl (gtL (by decide)) (by decide) next
  case oo =>
    clear next
    refine (okc ?_ okn)
    all_goals ((try simp (disch := omega) only [SS]); first | done | omega | assumption | (simp (disch := omega) only [SS] at *; first | done | omega | assumption) | (simp_all; done))
  case rr =>
    clear next
    try simp (disch := omega) only [SS]
    repeat' apply And.intro
    all_goals first | exact True.intro | with_reducible rfl | omega | (intros; first | exact True.intro | with_reducible rfl | omega | (simp_all; done)) | (simp_all; done) | rfl

theorem cpPart_p0 (t0 t1 : List UInt8) (N : Nat) (B : Ix → Int) (P : Nat) (pl : Ix → Nat) (PB : Ix → Int) (raw : Bool) (al o : List UInt8) (i : Nat) :
    isEnd (evTill Tryd.prog sumsPL 900 (99) 900 8 (headOf Tryd.f8 1) (envAt Tryd.f8.ntmps ([(2, vB raw), (12, vS (al)), (13, vL 131 1 (o).length), (56, vL 101 1 P), (57, vN P), (58, vN (i : Nat))])) (cpS t0 t1 ++ (rB 100 N B ++ ([⟨101, false, none, 1, .ta P (.vl 102 (fun is => is.headD 0) 1 [] pl)⟩] ++ [⟨102, false, some (P, fun i => pl [i]), 1, .vi .u8 PB⟩])) ++ (bW 131 (o))) ⟨[.s true, .s true, .s true, .s true, .s true], 140⟩) (endP ([]) (YES) ([]) 9000) =
    (OkL [(decide ((↑i : Int) < (↑P : Int)), true), (decide ((0 : Int) ≤ (↑i : Int) ∧ (↑i : Int) < (↑P : Int)), true), (((0 : Nat) + (↑i : Int).toNat).blt P, true), (((0 : Nat) + (↑i : Int).toNat).blt P, true), (decide ((↑(pl [(0 : Nat) + (↑i : Int).toNat]) : Int) > (50 : Int)), true)] ∧ true = true ∧ True) := by kernel_rfl

set_option maxHeartbeats 4000000 in
theorem cpPart (t0 t1 : List UInt8) (N : Nat) (B : Ix → Int) (P : Nat) (pl : Ix → Nat) (PB : Ix → Int) (raw : Bool) (al o : List UInt8) (i : Nat) (hi : i < P) (h : 50 < pl [i])  :
    RunsTo Tryd.prog 8 (headOf Tryd.f8 1) (envAt Tryd.f8.ntmps ([(2, vB raw), (12, vS (al)), (13, vL 131 1 (o).length), (56, vL 101 1 P), (57, vN P), (58, vN (i : Nat))])) (Sx.look (cpS t0 t1 ++ (rB 100 N B ++ ([⟨101, false, none, 1, .ta P (.vl 102 (fun is => is.headD 0) 1 [] pl)⟩] ++ [⟨102, false, some (P, fun i => pl [i]), 1, .vi .u8 PB⟩])) ++ (bW 131 (o)))) 110 (YES) (Sx.look ([])) 9000 := by
  refine runs_last basePL (Sx.Ends.of (cpPart_p0 t0 t1 N B P pl PB raw al o i) ⟨?oo, ?rr⟩) (by kernel_rfl) rfl (gtL (by decide)) (by decide)
  case oo =>
    refine (okc ?_ (okc ?_ (okc ?_ (okc ?_ (okc ?_ okn)))))
    all_goals ((try simp (disch := omega) only [SS]); first | done | omega | assumption | (simp (disch := omega) only [SS] at *; first | done | omega | assumption) | (simp_all; done))
  case rr =>
    try simp (disch := omega) only [SS]
    repeat' apply And.intro
    all_goals first | exact True.intro | with_reducible rfl | omega | (intros; first | exact True.intro | with_reducible rfl | omega | (simp_all; done)) | (simp_all; done) | rfl

theorem cpP_p0 (t0 t1 : List UInt8) (N : Nat) (B : Ix → Int) (P : Nat) (pl : Ix → Nat) (PB : Ix → Int) (raw : Bool) (al o p e d : List UInt8) (i : Nat) :
    isMore (evTill Tryd.prog sumsPL 900 (behind Tryd.f8 1) 900 8 (headOf Tryd.f8 1) (envAt Tryd.f8.ntmps ([(2, vB raw), (12, vS (al)), (13, vL 131 1 (o).length), (56, vL 101 1 P), (57, vN P), (58, vN (i : Nat))])) (cpS t0 t1 ++ (rB 100 N B ++ ([⟨101, false, none, 1, .ta P (.vl 102 (fun is => is.headD 0) 1 [] pl)⟩] ++ [⟨102, false, some (P, fun i => pl [i]), 1, .vi .u8 PB⟩])) ++ (bW 131 (o))) ⟨[.s true, .s true, .s true, .s true, .s false, .s true, .s true, .s true, .s true, .s true, .s true, .s true, .s true, .s true, .t, .s true, .s false, .t, .s false, .f, .t, .s true, .s true], 140⟩) (moreP (headOf Tryd.f8 1) ([((131 : Nat), Rn.to (442 : Nat))]) Tryd.f8.ntmps ([(2, vB raw), (12, vS (al ++ p)), (13, vL 131 1 (o ++ d ++ [255, UInt8.ofNat (251 + i % 4), UInt8.ofNat i]).length), (56, vL 101 1 P), (57, vN P), (58, vN (i + 1 : Nat))]) (bW 131 (o ++ d ++ [255, UInt8.ofNat (251 + i % 4), UInt8.ofNat i])) 9000) =
    (OkL [(decide ((↑i : Int) < (↑P : Int)), true), (decide ((0 : Int) ≤ (↑i : Int) ∧ (↑i : Int) < (↑P : Int)), true), (((0 : Nat) + (↑i : Int).toNat).blt P, true), (((0 : Nat) + (↑i : Int).toNat).blt P, true), (decide ((↑(pl [(0 : Nat) + (↑i : Int).toNat]) : Int) > (50 : Int)), false), (((0 : Nat) + (↑i : Int).toNat).blt P, true), (((0 : Nat) + pl [(0 : Nat) + (↑i : Int).toNat]).ble (pl [(0 : Nat) + (↑i : Int).toNat]), true), (decide (al.length + (bytesOf PB [(0 : Nat) + (↑i : Int).toNat] (0 : Nat) (pl [(0 : Nat) + (↑i : Int).toNat])).length ≤ (9223372036854775807 : Nat)), true), (((0 : Nat) + (↑i : Int).toNat + (1 : Nat) + (P - ((0 : Nat) + (↑i : Int).toNat + (1 : Nat)))).beq P, true), (decide (pl [(0 : Nat) + (↑i : Int).toNat] ≤ (1000 : Nat)) && (decide (pl [(0 : Nat) + (↑i : Int).toNat] ≤ pl [(0 : Nat) + (↑i : Int).toNat]) && bndB (fun js => PB (((0 : Nat) + (↑i : Int).toNat) :: js)) (pl [(0 : Nat) + (↑i : Int).toNat])), true), (decide ((enB (pl [(0 : Nat) + (↑i : Int).toNat]) (fun js => PB (((0 : Nat) + (↑i : Int).toNat) :: js)) raw).length ≤ (100000 : Nat)) && (decide ((enB (pl [(0 : Nat) + (↑i : Int).toNat]) (fun js => PB (((0 : Nat) + (↑i : Int).toNat) :: js)) raw).length ≤ (enB (pl [(0 : Nat) + (↑i : Int).toNat]) (fun js => PB (((0 : Nat) + (↑i : Int).toNat) :: js)) raw).length) && bndB (fun is => (↑((enB (pl [(0 : Nat) + (↑i : Int).toNat]) (fun js => PB (((0 : Nat) + (↑i : Int).toNat) :: js)) raw).getD (List.headD is (0 : Nat)) (0 : UInt8)).toNat : Int)) (enB (pl [(0 : Nat) + (↑i : Int).toNat]) (fun js => PB (((0 : Nat) + (↑i : Int).toNat) :: js)) raw).length), true), (((0 : Nat) + (dbs (enB (pl [(0 : Nat) + (↑i : Int).toNat]) (fun js => PB (((0 : Nat) + (↑i : Int).toNat) :: js)) raw).length fun is => (↑((enB (pl [(0 : Nat) + (↑i : Int).toNat]) (fun js => PB (((0 : Nat) + (↑i : Int).toNat) :: js)) raw).getD (List.headD is (0 : Nat)) (0 : UInt8)).toNat : Int)).length).ble (dbs (enB (pl [(0 : Nat) + (↑i : Int).toNat]) (fun js => PB (((0 : Nat) + (↑i : Int).toNat) :: js)) raw).length fun is => (↑((enB (pl [(0 : Nat) + (↑i : Int).toNat]) (fun js => PB (((0 : Nat) + (↑i : Int).toNat) :: js)) raw).getD (List.headD is (0 : Nat)) (0 : UInt8)).toNat : Int)).length, true), (((0 : Nat) + o.length).ble o.length, true), (decide (((2 : Nat) * (o.length + (dbs (enB (pl [(0 : Nat) + (↑i : Int).toNat]) (fun js => PB (((0 : Nat) + (↑i : Int).toNat) :: js)) raw).length fun is => (↑((enB (pl [(0 : Nat) + (↑i : Int).toNat]) (fun js => PB (((0 : Nat) + (↑i : Int).toNat) :: js)) raw).getD (List.headD is (0 : Nat)) (0 : UInt8)).toNat : Int)).length) + (192 : Nat)) * (1 : Nat) ≤ (281474976710656 : Nat)), true), (decide (IntKind.i64.wrap ((251 : Int) + (↑i : Int).tmod (4 : Int)) ≥ (251 : Int)), true), (!decide (IntKind.i64.wrap ((251 : Int) + (↑i : Int).tmod (4 : Int)) ≤ (254 : Int)), false), (!decide ((↑i : Int) ≤ (255 : Int)), false), (((0 : Nat) + (o.length + (dbs (enB (pl [(0 : Nat) + (↑i : Int).toNat]) (fun js => PB (((0 : Nat) + (↑i : Int).toNat) :: js)) raw).length fun is => (↑((enB (pl [(0 : Nat) + (↑i : Int).toNat]) (fun js => PB (((0 : Nat) + (↑i : Int).toNat) :: js)) raw).getD (List.headD is (0 : Nat)) (0 : UInt8)).toNat : Int)).length)).ble (o.length + (dbs (enB (pl [(0 : Nat) + (↑i : Int).toNat]) (fun js => PB (((0 : Nat) + (↑i : Int).toNat) :: js)) raw).length fun is => (↑((enB (pl [(0 : Nat) + (↑i : Int).toNat]) (fun js => PB (((0 : Nat) + (↑i : Int).toNat) :: js)) raw).getD (List.headD is (0 : Nat)) (0 : UInt8)).toNat : Int)).length), true), (decide (((2 : Nat) * (o.length + (dbs (enB (pl [(0 : Nat) + (↑i : Int).toNat]) (fun js => PB (((0 : Nat) + (↑i : Int).toNat) :: js)) raw).length fun is => (↑((enB (pl [(0 : Nat) + (↑i : Int).toNat]) (fun js => PB (((0 : Nat) + (↑i : Int).toNat) :: js)) raw).getD (List.headD is (0 : Nat)) (0 : UInt8)).toNat : Int)).length + (3 : Nat)) + (192 : Nat)) * (1 : Nat) ≤ (281474976710656 : Nat)), true)] ∧ headOf Tryd.f8 (1 : Nat) = headOf Tryd.f8 (1 : Nat) ∧ (raw = raw ∧ al ++ p = al ++ bytesOf PB [(0 : Nat) + (↑i : Int).toNat] (0 : Nat) (pl [(0 : Nat) + (↑i : Int).toNat]) ∧ ((0 : Nat) = (0 : Nat) ∧ (o ++ d ++ [(255 : UInt8), UInt8.ofNat ((251 : Nat) + i % (4 : Nat)), UInt8.ofNat i]).length = o.length + (dbs (enB (pl [(0 : Nat) + (↑i : Int).toNat]) (fun js => PB (((0 : Nat) + (↑i : Int).toNat) :: js)) raw).length fun is => (↑((enB (pl [(0 : Nat) + (↑i : Int).toNat]) (fun js => PB (((0 : Nat) + (↑i : Int).toNat) :: js)) raw).getD (List.headD is (0 : Nat)) (0 : UInt8)).toNat : Int)).length + (3 : Nat)) ∧ ((0 : Nat) = (0 : Nat) ∧ P = P) ∧ (↑P : Int) = (↑P : Int) ∧ (↑(i + (1 : Nat)) : Int) = IntKind.i64.wrap ((↑i : Int) + (1 : Int))) ∧ (o ++ d ++ [(255 : UInt8), UInt8.ofNat ((251 : Nat) + i % (4 : Nat)), UInt8.ofNat i]).length = o.length + (dbs (enB (pl [(0 : Nat) + (↑i : Int).toNat]) (fun js => PB (((0 : Nat) + (↑i : Int).toNat) :: js)) raw).length fun is => (↑((enB (pl [(0 : Nat) + (↑i : Int).toNat]) (fun js => PB (((0 : Nat) + (↑i : Int).toNat) :: js)) raw).getD (List.headD is (0 : Nat)) (0 : UInt8)).toNat : Int)).length + (3 : Nat) ∧ ∀ (i_1 : Nat), i_1 < (o ++ d ++ [(255 : UInt8), UInt8.ofNat ((251 : Nat) + i % (4 : Nat)), UInt8.ofNat i]).length → (↑((o ++ d ++ [(255 : UInt8), UInt8.ofNat ((251 : Nat) + i % (4 : Nat)), UInt8.ofNat i]).getD i_1 (0 : UInt8)).toNat : Int) = appF (o.length + (dbs (enB (pl [(0 : Nat) + (↑i : Int).toNat]) (fun js => PB (((0 : Nat) + (↑i : Int).toNat) :: js)) raw).length fun is => (↑((enB (pl [(0 : Nat) + (↑i : Int).toNat]) (fun js => PB (((0 : Nat) + (↑i : Int).toNat) :: js)) raw).getD (List.headD is (0 : Nat)) (0 : UInt8)).toNat : Int)).length) (0 : Nat) (appF o.length (0 : Nat) (fun is => (↑(o.getD (List.headD is (0 : Nat)) (0 : UInt8)).toNat : Int)) fun js => (↑((dbs (enB (pl [(0 : Nat) + (↑i : Int).toNat]) (fun js => PB (((0 : Nat) + (↑i : Int).toNat) :: js)) raw).length fun is => (↑((enB (pl [(0 : Nat) + (↑i : Int).toNat]) (fun js => PB (((0 : Nat) + (↑i : Int).toNat) :: js)) raw).getD (List.headD is (0 : Nat)) (0 : UInt8)).toNat : Int)).getD (List.headD (subIx (0 : Nat) js) (0 : Nat)) (0 : UInt8)).toNat : Int)) (fun js => upd (upd (upd (fun is => (0 : Int)) [(0 : Nat)] (255 : Int)) [(1 : Nat)] (IntKind.u8.wrap (IntKind.i64.wrap ((251 : Int) + (↑i : Int).tmod (4 : Int))))) [(2 : Nat)] (IntKind.u8.wrap (↑i : Int)) (subIx (0 : Nat) js)) [i_1]) := by kernel_rfl

set_option maxHeartbeats 4000000 in
theorem cpP (t0 t1 : List UInt8) (N : Nat) (B : Ix → Int) (P : Nat) (pl : Ix → Nat) (PB : Ix → Int) (raw : Bool) (al o p e d : List UInt8) (i : Nat) (hi : i < P) (hP : P ≤ 20) (h : pl [i] ≤ 50) (hB : bndB (fun js => PB (i :: js)) (pl [i]) = true) (hp : bytesOf PB [i] 0 (pl [i]) = p) (hal : al.length ≤ 50 * i) (ho : o.length ≤ 1000 * i) (he : enB (pl [i]) (fun js => PB (i :: js)) raw = e) (hel : e.length ≤ 100) (heb : bndB (fun is => ((e.getD (is.headD 0) 0).toNat : Int)) e.length = true) (hd : dbs e.length (fun is => ((e.getD (is.headD 0) 0).toNat : Int)) = d) (hdl : d.length ≤ 200) (hpl : p.length ≤ 50)  (next : RunsTo Tryd.prog 8 (headOf Tryd.f8 1) (envAt Tryd.f8.ntmps ([(2, vB raw), (12, vS (al ++ p)), (13, vL 131 1 (o ++ d ++ [255, UInt8.ofNat (251 + i % 4), UInt8.ofNat i]).length), (56, vL 101 1 P), (57, vN P), (58, vN (i + 1 : Nat))])) (Sx.look (cpS t0 t1 ++ (rB 100 N B ++ ([⟨101, false, none, 1, .ta P (.vl 102 (fun is => is.headD 0) 1 [] pl)⟩] ++ [⟨102, false, some (P, fun i => pl [i]), 1, .vi .u8 PB⟩])) ++ (bW 131 (o ++ d ++ [255, UInt8.ofNat (251 + i % 4), UInt8.ofNat i])))) 110 (YES) (Sx.look []) 9000) :
    RunsTo Tryd.prog 8 (headOf Tryd.f8 1) (envAt Tryd.f8.ntmps ([(2, vB raw), (12, vS (al)), (13, vL 131 1 (o).length), (56, vL 101 1 P), (57, vN P), (58, vN (i : Nat))])) (Sx.look (cpS t0 t1 ++ (rB 100 N B ++ ([⟨101, false, none, 1, .ta P (.vl 102 (fun is => is.headD 0) 1 [] pl)⟩] ++ [⟨102, false, some (P, fun i => pl [i]), 1, .vi .u8 PB⟩])) ++ (bW 131 (o)))) 110 (YES) (Sx.look []) 9000 := by
  have hw : IntKind.i64.wrap ((i : Int) + 1) = ((i + 1 : Nat) : Int) := by rw [wr64 (by omega)]; rfl
  have hm4 : i % 4 < 4 := Nat.mod_lt _ (by decide)
  have ht : Int.tmod (i : Int) 4 = ((i % 4 : Nat) : Int) := rfl
  have hv : IntKind.i64.wrap (251 + ((i % 4 : Nat) : Int)) = ((251 + i % 4 : Nat) : Int) := by rw [wr64 (by omega)]; rfl
  have hv8 : IntKind.u8.wrap ((251 + i % 4 : Nat) : Int) = ((UInt8.ofNat (251 + i % 4)).toNat : Int) := u8wA _
  have hi8 : IntKind.u8.wrap (i : Int) = ((UInt8.ofNat i).toNat : Int) := u8wA _
  refine runs_more basePL (More.of (cpP_p0 t0 t1 N B P pl PB raw al o p e d i) ⟨?oo, rfl, ?rr⟩) (by kernel_rfl) (by kernel_rfl) rfl (gtL (by decide)) (by decide) next
  case oo =>
    clear next
    refine (okc ?_ (okc ?_ (okc ?_ (okc ?_ (okc ?_ (okc ?_ (okc ?_ (okc ?_ (okc ?_ (okc ?_ (okc ?_ (okc ?_ (okc ?_ (okc ?_ (okc ?_ (okc ?_ (okc ?_ (okc ?_ (okc ?_ okn)))))))))))))))))))
    all_goals first | omega | (simp (disch := omega) only [SS, hw, hp, he, hd, ht, hv, hv8, hi8]; first | done | omega | exact ⟨by omega, hB⟩ | exact ⟨by omega, by omega, hB⟩ | exact ⟨by omega, heb⟩ | exact ⟨by omega, by omega, heb⟩ | exact ⟨by omega, hob⟩ | exact ⟨by omega, by omega, hob⟩ | exact hB | exact heb | exact hob) | (simp_all; done) | (simp_all; omega)
  case rr =>
    clear next
    simp (disch := omega) only [SS, hw, hp, he, hd, ht, hv, hv8, hi8, Go.Sx.sum, Nat.zero_add, List.length_append, List.length_cons, List.length_nil]
    repeat' apply And.intro
    all_goals first | exact True.intro | with_reducible rfl | omega | exact sent_app o d _ _ | (simp_all; done)

theorem cpEnd_p0 (t0 t1 : List UInt8) (N : Nat) (B : Ix → Int) (P : Nat) (pl : Ix → Nat) (PB : Ix → Int) (raw : Bool) (al o : List UInt8) (i : Nat) :
    isEnd (evTill Tryd.prog sumsPL 900 (99) 900 8 (headOf Tryd.f8 1) (envAt Tryd.f8.ntmps ([(2, vB raw), (12, vS (al)), (13, vL 131 1 (o).length), (56, vL 101 1 P), (57, vN P), (58, vN (i : Nat))])) (cpS t0 t1 ++ (rB 100 N B ++ ([⟨101, false, none, 1, .ta P (.vl 102 (fun is => is.headD 0) 1 [] pl)⟩] ++ [⟨102, false, some (P, fun i => pl [i]), 1, .vi .u8 PB⟩])) ++ (bW 131 (o))) ⟨[.s false, .s true, .s true], 140⟩) (endP ([]) (YES) ([]) 9000) =
    (OkL [(decide ((↑i : Int) < (↑P : Int)), false), (decide (o.length ≤ (400000 : Nat)) && (decide (o.length ≤ o.length) && bndB (fun is => (↑(o.getD (List.headD is (0 : Nat)) (0 : UInt8)).toNat : Int)) o.length), true), (((0 : Nat) + (daB o.length (fun is => (↑(o.getD (List.headD is (0 : Nat)) (0 : UInt8)).toNat : Int)) raw).length).ble (daB o.length (fun is => (↑(o.getD (List.headD is (0 : Nat)) (0 : UInt8)).toNat : Int)) raw).length, true)] ∧ true = (bytesOf (fun is => (↑((daB o.length (fun is => (↑(o.getD (List.headD is (0 : Nat)) (0 : UInt8)).toNat : Int)) raw).getD (List.headD is (0 : Nat)) (0 : UInt8)).toNat : Int)) [] (0 : Nat) (daB o.length (fun is => (↑(o.getD (List.headD is (0 : Nat)) (0 : UInt8)).toNat : Int)) raw).length == al) ∧ True) := by kernel_rfl

set_option maxHeartbeats 4000000 in
theorem cpEnd (t0 t1 : List UInt8) (N : Nat) (B : Ix → Int) (P : Nat) (pl : Ix → Nat) (PB : Ix → Int) (raw : Bool) (al o : List UInt8) (i : Nat) (hi : i = P) (ho : o.length ≤ 400000) (hob : bndB (fun is => ((o.getD (is.headD 0) 0).toNat : Int)) o.length = true) (hz : daB o.length (fun is => ((o.getD (is.headD 0) 0).toNat : Int)) raw = al)  :
    RunsTo Tryd.prog 8 (headOf Tryd.f8 1) (envAt Tryd.f8.ntmps ([(2, vB raw), (12, vS (al)), (13, vL 131 1 (o).length), (56, vL 101 1 P), (57, vN P), (58, vN (i : Nat))])) (Sx.look (cpS t0 t1 ++ (rB 100 N B ++ ([⟨101, false, none, 1, .ta P (.vl 102 (fun is => is.headD 0) 1 [] pl)⟩] ++ [⟨102, false, some (P, fun i => pl [i]), 1, .vi .u8 PB⟩])) ++ (bW 131 (o)))) 110 (YES) (Sx.look ([])) 9000 := by
  have hby := bytesOf_full al
  refine runs_last basePL (Sx.Ends.of (cpEnd_p0 t0 t1 N B P pl PB raw al o i) ⟨?oo, ?rr⟩) (by kernel_rfl) rfl (gtL (by decide)) (by decide)
  case oo =>
    refine (okc ?_ (okc ?_ (okc ?_ okn)))
    all_goals first | omega | (simp (disch := omega) only [SS, hz, hby]; first | done | omega | exact ⟨by omega, hB⟩ | exact ⟨by omega, by omega, hB⟩ | exact ⟨by omega, heb⟩ | exact ⟨by omega, by omega, heb⟩ | exact ⟨by omega, hob⟩ | exact ⟨by omega, by omega, hob⟩ | exact hB | exact heb | exact hob) | (simp_all; done) | (simp_all; omega)
  case rr =>
    try simp (disch := omega) only [SS, hz, hby]
    repeat' apply And.intro
    all_goals first | exact True.intro | with_reducible rfl | omega | (intros; first | exact True.intro | with_reducible rfl | omega | (simp_all; done)) | (simp_all; done) | rfl

end Go.Proofs.YtcphocfnhekdaaaDoor

set_option linter.unusedSimpArgs false
set_option linter.unusedVariables false
set_option maxRecDepth 100000
namespace Go.Proofs.YtcphocfnhekdaaaDoor
open Go.Sx GramR

theorem encL_len (raw : Bool) : ∀ l : List UInt8, (encL raw l).length ≤ 2 * l.length
  | [] => Nat.le_refl _
  | c :: r => by
    have := encL_len raw r
    rw [encL]
    split <;> simp only [List.length_cons] <;> omega
theorem cleanPlain_law (t0 t1 : List UInt8) (N : Nat) (B : Ix → Int) (P : Nat) (pl : Ix → Nat) (PB : Ix → Int) (raw : Bool) (hB : ∀ i, i < N → 0 ≤ B [i] ∧ B [i] < 256) (hPB : ∀ i, i < P → ∀ j, j < pl [i] → 0 ≤ PB [i, j] ∧ PB [i, j] < 256) : RunsTo Tryd.prog 8 [.code (bodyOf Tryd.f8)] (envOf [vL 100 1 N, vL 101 1 P, vB raw] Tryd.f8.ntmps) (Sx.look (cpS t0 t1 ++ (rB 100 N B ++ ([⟨101, false, none, 1, .ta P (.vl 102 (fun is => is.headD 0) 1 [] pl)⟩] ++ [⟨102, false, some (P, fun i => pl [i]), 1, .vi .u8 PB⟩])) ++ ([]))) 110 (YES) (Sx.look []) 9000 := by
  by_cases hN : 300 < N
  · exact cpLong t0 t1 N B P pl PB raw hN
  have hN : N ≤ 300 := by omega
  by_cases hP : 20 < P
  · exact cpMany t0 t1 N B P pl PB raw hN hP
  have hP : P ≤ 20 := by omega
  have h2 : kaF N B true = xaT N B := clean_raw _ _ _
  have hTl : (xaT N B).length ≤ 300 := by
    have := cleanK_len true (bytesOf B [] 0 N) Mc0 false
    rw [bytesOf_len] at this
    rw [← h2]; exact Nat.le_trans this hN
  generalize hT : xaT N B = T at h2 hTl
  refine cpStart t0 t1 N B P pl PB raw T hN hP (bndB_of hB) hT h2 ?_
  suffices q : ∀ (k i : Nat), i + k = T.length → RunsTo Tryd.prog 8 (headOf Tryd.f8 0) (envAt Tryd.f8.ntmps ([(1, vL 101 1 P), (2, vB raw), (9, vL 123 5 T.length), (40, vL 121 5 T.length), (41, vN T.length), (42, vN (i : Nat))])) (Sx.look (cpS t0 t1 ++ (rB 100 N B ++ ([⟨101, false, none, 1, .ta P (.vl 102 (fun is => is.headD 0) 1 [] pl)⟩] ++ [⟨102, false, some (P, fun i => pl [i]), 1, .vi .u8 PB⟩])) ++ (toK 121 122 T ++ toK 123 124 T))) 110 (YES) (Sx.look []) 9000 from q T.length 0 (by omega)
  intro k
  induction k with
  | succ k ih => intro i hi; exact cpR t0 t1 N B P pl PB raw T i (by omega) (by omega) (ih (i + 1) (by omega))
  | zero =>
    intro i hi
    refine cpMid t0 t1 N B P pl PB raw T i (by omega) ?_
    suffices q : ∀ (k i : Nat), i + k = P → (allP (fun j => bytesOf PB [j] 0 (pl [j])) i).length ≤ 50 * i → (sentP raw (fun j => bytesOf PB [j] 0 (pl [j])) i).length ≤ 1000 * i → RunsTo Tryd.prog 8 (headOf Tryd.f8 1) (envAt Tryd.f8.ntmps ([(2, vB raw), (12, vS (allP (fun j => bytesOf PB [j] 0 (pl [j])) i)), (13, vL 131 1 (sentP raw (fun j => bytesOf PB [j] 0 (pl [j])) i).length), (56, vL 101 1 P), (57, vN P), (58, vN (i : Nat))])) (Sx.look (cpS t0 t1 ++ (rB 100 N B ++ ([⟨101, false, none, 1, .ta P (.vl 102 (fun is => is.headD 0) 1 [] pl)⟩] ++ [⟨102, false, some (P, fun i => pl [i]), 1, .vi .u8 PB⟩])) ++ (bW 131 (sentP raw (fun j => bytesOf PB [j] 0 (pl [j])) i)))) 110 (YES) (Sx.look []) 9000 from q P 0 (by omega) (by simp [allP]) (by simp [sentP])
    intro k
    induction k with
    | zero =>
      intro i hi ha ho
      refine cpEnd t0 t1 N B P pl PB raw _ _ i (by omega) (by omega) (bndB_of fun i hi => u8nat _) ?_
      unfold daB kaF
      rw [bytesOf_full]
      exact clean_plain raw _ i
    | succ k ih =>
      intro i hi ha ho
      by_cases hl : 50 < pl [i]
      · exact cpPart t0 t1 N B P pl PB raw _ _ i (by omega) hl
      have hl : pl [i] ≤ 50 := by omega
      have hp : (bytesOf PB [i] 0 (pl [i])).length = pl [i] := bytesOf_len _ _ _ _
      have he := encL_len raw (bytesOf PB [i] 0 (pl [i]))
      have hd := dbl_len (encL raw (bytesOf PB [i] 0 (pl [i])))
      have hd2 := cnt5_le (encL raw (bytesOf PB [i] 0 (pl [i])))
      have q := ih (i + 1) (by omega) (by rw [allP, List.length_append, hp]; omega) (by rw [sentP]; simp only [List.length_append, List.length_cons, List.length_nil]; omega)
      rw [allP, sentP] at q
      exact cpP t0 t1 N B P pl PB raw _ _ (bytesOf PB [i] 0 (pl [i])) (encL raw (bytesOf PB [i] 0 (pl [i]))) (dbl (encL raw (bytesOf PB [i] 0 (pl [i])))) i (by omega) hP hl (bndB_of fun j hj => hPB i (by omega) j hj) rfl ha ho rfl (by omega) (bndB_of fun j hj => u8nat _) (by unfold dbs; rw [bytesOf_full]) (by omega) (by omega) q
/-- Of a row of rows of bytes: the bytes. -/
theorem rows_bytes {W : World} {v : Value} (h : (Sh.sl (.sl (.ki .u8))).Is W [v]) {g : Rd} {o : Nat} (hg : g [] o = v) :
    ∀ i, i < lenOf v → ∀ j, j < lenOf (rdOf W 1 g o [i] 0) → 0 ≤ Sx.intOf (rdOf W 1 (rdOf W 1 g o) 0 [i, j] 0) ∧ Sx.intOf (rdOf W 1 (rdOf W 1 g o) 0 [i, j] 0) < 256 := by
  obtain ⟨v', hv', _, _, _, _, hrows⟩ := h
  have hv' : v = v' := by simpa using hv'
  subst hv'
  intro i hi j hj
  have hu := hrows i hi
  obtain ⟨u, hu', _, _, _, _, hbytes⟩ := hu
  have e3 : rowsOf W 1 v i = [u] := hu'
  have h2 : rdOf W 1 g o [i] 0 = u := by
    have : rdOf W 1 g o [i] 0 = (rowsOf W 1 (g [] o) i).getD 0 undef := rfl
    rw [this, hg, e3]; rfl
  rw [h2] at hj
  obtain ⟨n, hn, hwf⟩ := hbytes j hj
  have h3 : rdOf W 1 (rdOf W 1 g o) 0 [i, j] 0 = .int .u8 n := by
    have : rdOf W 1 (rdOf W 1 g o) 0 [i, j] 0 = (rowsOf W 1 (rdOf W 1 g o [i] 0) j).getD 0 undef := rfl
    rw [this, h2]
    have e1 : (Sh.ki .u8).size = 1 := rfl
    rw [e1] at hn
    rw [hn]; rfl
  rw [h3]
  exact bnd_u8 hwf
end Go.Proofs.YtcphocfnhekdaaaDoor

set_option maxRecDepth 100000
set_option linter.unusedSimpArgs false
set_option linter.unusedVariables false
namespace Go.Proofs.YtcphocfnhekdaaaDoor
open Go.ChangeShapes Go.WideShapes Go.ChangeAt Go.RowKit
open Go.Sx

theorem cleanPlain_sh : shsOf Tryd.prog Tryd.f8.params.toList = some [.sl (.ki .u8), .sl (.sl (.ki .u8)), .kb] := by kernel_rfl

theorem cleanPlain_star : "*" ++ "errors.errorString" = "*errors.errorString" := by decide
theorem cleanPlain_row (u : TypeId) (h : Tryd.prog.typeName? 3 u = some "*errors.errorString") : u = 144 :=
  typeName_ptr_named (nm := "errors.errorString") (by rw [cleanPlain_star]; kernel_rfl) (by kernel_rfl) (by decide) u (by rw [cleanPlain_star]; exact h)

theorem cleanPlain_errTy : ErrTy Tryd.prog "*errors.errorString" 26 144 169 9 := errTy_of (by kernel_rfl) cleanPlain_row (by kernel_rfl) (by kernel_rfl) (by kernel_rfl) (by kernel_rfl) (by kernel_rfl)

theorem cleanPlain_own : ownKnob Tryd.prog.godebug = none := by kernel_rfl
theorem cleanPlain_met (os : Os) (args : Array Value) : laidMetH Tryd.prog Rows.cleanPlainRow.laid ((World.laidAll Tryd.prog os Rows.cleanPlainRow.laid).forCall (fun _ _ => 0) ⟨#[], args, []⟩).memory := by
  rw [MakeChecks.laidMetH_plain _ _ _ (by kernel_rfl)]; exact laidMet_laidAll _ (by kernel_rfl) (by kernel_rfl)
theorem cleanPlain_plain (w : World) : laidMetH Tryd.prog Rows.cleanPlainRow.laid w = laidMet Tryd.prog Rows.cleanPlainRow.laid w := MakeChecks.laidMetH_plain _ _ _ (by kernel_rfl)

def cleanPlain_texts : List (Nat × List UInt8) := [(2, [97, 32, 110, 117, 109, 98, 101, 114, 32, 105, 115, 32, 111, 117, 116, 32, 111, 102, 32, 105, 116, 115, 32, 114, 97, 110, 103, 101]), (1, [105, 116, 32, 105, 115, 32, 111, 102, 32, 97, 110, 111, 116, 104, 101, 114, 32, 107, 105, 110, 100])]
theorem cleanPlain_sent : sentOf Tryd.prog "*errors.errorString" Rows.cleanPlainRow.laid = some cleanPlain_texts := by kernel_rfl

theorem cleanPlain_readable : ∀ t ∈ Tryd.f8.params.toList, Tryd.prog.readableRec t = true ∧ t < Tryd.prog.types.size := by
  have h : (Tryd.f8.params.toList.all fun t => Tryd.prog.readableRec t && decide (t < Tryd.prog.types.size)) = true := by kernel_rfl
  intro t ht
  have := List.all_eq_true.1 h t ht
  simpa using this

theorem cleanPlain_wants : ∀ t ∈ Tryd.f8.params.toList, Tryd.prog.wantsStandIn t = false := by
  have h : (Tryd.f8.params.toList.all fun t => !Tryd.prog.wantsStandIn t) = true := by kernel_rfl
  intro t ht
  have := List.all_eq_true.1 h t ht
  simpa using this

theorem cleanPlain_lifted (os : Os) (started : os.Started) (H : Type) (enc : TypeId × Value → H) :
    ReturnsInHanded {} Tryd.checked os 8 .any (fun w args => (Rows.cleanPlainSpec.pre enc Tryd.prog Tryd.f8 [] false w args ∧ laidMetH Tryd.prog Rows.cleanPlainRow.laid w) ∧ sizedMet enc Tryd.prog Tryd.f8 (OpenSpec.ofChange Rows.cleanPlainSpec) false w args)
      (Rows.cleanPlainSpec.post enc Tryd.prog Tryd.f8 false true false false) := by
  refine returnsInHanded_of_change_and (C := Tryd.checked) (X := fun w _ => laidMetH Tryd.prog Rows.cleanPlainRow.laid w) (fun _ _ _ hh h => h.of_heap hh) cleanPlain_own started (by kernel_rfl) Tryd.func8
    (ChangeSpec.witness_shaped (enc := enc) (C := Tryd.checked) (os := os) (X := fun w _ => laidMetH Tryd.prog Rows.cleanPlainRow.laid w) false (World.laidAll Tryd.prog os Rows.cleanPlainRow.laid) #[.slice none 0 0, .slice none 0 0, .bool false] 8 (World.laidAll_os _ _ _) (World.shaped_of_ZipB (by kernel_rfl) (by kernel_rfl)) (by kernel_rfl) (by kernel_rfl) (by kernel_rfl) (cleanPlain_met os _)) ?_
  intro W base args ds gs before hval hW _ _ hL _
  have hW' := hW
  obtain ⟨p, q, hA, hV, rfl, hfz, hnd⟩ := hW
  obtain ⟨rfl, rfl⟩ := trodVars_none hV
  rw [cleanPlain_plain] at hL
  obtain ⟨s1, s2, s3⟩ := sents_open cleanPlain_errTy hL cleanPlain_sent (by kernel_rfl)
  have hG : Tryd.prog.globals.size = 19 := by kernel_rfl
  rw [hG] at s2 s3
  have g3 : ds.length = 3 := (args_open cleanPlain_sh hA (fun j t v h1 h2 => hval j t v (by rw [← Array.getElem?_toList]; exact h1) (by rw [← Array.getElem?_toList]; exact h2))).2.2.1
  match ds, g3 with
  | [d1, d2, d3], _ =>
    refine (law_calls Tryd.func8 (body := bodyOf Tryd.f8) (by kernel_rfl) cleanPlain_sh hA hval (lab := 100) (n := 110) (n' := 9000) (L' := Sx.look []) gtopP s1 s2 (fun e he => ?_) (fun cs hcs hIs => ?_)).mono fun e W' ⟨he, hB⟩ => ⟨_, he, law_post (bt := 4) (by kernel_rfl) cleanPlain_readable rfl (by kernel_rfl) (by kernel_rfl) hW' rfl hB⟩
    · obtain ⟨a1, a2, a3⟩ := s3 e he
      exact ⟨a1, Nat.lt_of_lt_of_le a2 gtopP, fun l hl => Nat.lt_of_lt_of_le (a3 l hl) gtopP⟩
    · clear hcs
      have hB : ∀ i, i < lenOf (Go.Sx.rd0 cs [] 0) → 0 ≤ Sx.intOf (rdOf W 1 (Go.Sx.rd0 cs) 0 [i] 0) ∧ Sx.intOf (rdOf W 1 (Go.Sx.rd0 cs) 0 [i] 0) < 256 := by
        obtain ⟨a1, r1, e1, l1, he, hrest⟩ := hIs
        have hea := he
        obtain ⟨v, e4, _⟩ := hea
        rw [e4] at he
        have e5 : Go.Sx.rd0 cs [] 0 = v := by
          show cs.getD 0 undef = v
          rw [e1, e4]
          rfl
        intro i hi
        rw [e5] at hi
        exact sl_u8 he e5 i hi
      have hPB : ∀ i, i < lenOf (Go.Sx.rd0 cs [] 1) → ∀ j, j < lenOf (rdOf W 1 (Go.Sx.rd0 cs) 1 [i] 0) → 0 ≤ Sx.intOf (rdOf W 1 (rdOf W 1 (Go.Sx.rd0 cs) 1) 0 [i, j] 0) ∧ Sx.intOf (rdOf W 1 (rdOf W 1 (Go.Sx.rd0 cs) 1) 0 [i, j] 0) < 256 := by
        obtain ⟨a1, r1, e1, l1, he, a2, r2, e2, l2, he3, hrest⟩ := hIs
        obtain ⟨v, e4, _⟩ := he
        have heb := he3
        obtain ⟨u, e5, _⟩ := heb
        rw [e5] at he3
        have e6 : Go.Sx.rd0 cs [] 1 = u := by
          show cs.getD 1 undef = u
          rw [e1, e4, e2, e5]
          rfl
        intro i hi
        rw [e6] at hi
        exact rows_bytes he3 e6 i hi
      refine RunsTo.start (cargs := [.v (.vl 100 (fun _ => 0) 1 [] (fun _ => lenOf (Go.Sx.rd0 cs [] 0))), .v (.vl 101 (fun _ => 0) 1 [] (fun _ => lenOf (Go.Sx.rd0 cs [] 1))), .v (.vb fun _ => (Sx.boolOf (Go.Sx.rd0 cs [] 2)))]) ?_ ⟨⟨rfl, rfl⟩, ⟨rfl, rfl⟩, rfl, trivial⟩
      exact cleanPlain_law _ _ (lenOf (Go.Sx.rd0 cs [] 0)) (fun is => Sx.intOf (rdOf W 1 (Go.Sx.rd0 cs) 0 is 0)) (lenOf (Go.Sx.rd0 cs [] 1)) (fun is => lenOf (rdOf W 1 (Go.Sx.rd0 cs) 1 is 0)) (fun is => Sx.intOf (rdOf W 1 (rdOf W 1 (Go.Sx.rd0 cs) 1) 0 is 0)) (Sx.boolOf (Go.Sx.rd0 cs [] 2)) hB hPB

theorem cleanPlain_holds : Rows.CleanPlainSaid :=
  OpenClaim.holds_of_wide 8 Tryd.f8 rfl rfl rfl rfl rfl rfl rfl ⟨rfl, rfl, rfl, rfl, rfl⟩ rfl rfl rfl rfl rfl (by kernel_rfl) Tryd.func8 (by kernel_rfl)
    (of_decide_eq_true (by kernel_rfl)) (by unfold Func.isWrapper; first | (rw [if_pos (by decide +kernel)]; kernel_rfl) | (rw [if_neg (by decide +kernel)]; exact ⟨rfl, rfl⟩))
    (fun os started H enc _ => cleanPlain_lifted os started H enc)

theorem cleanPlain_card_holds : Rows.CleanPlainCardSaid :=
  Claim7.holds_tied_plain_at .later [] [.data, .sentinel, .sentinel, .pinned] true (true, "f530cd95f545498e1079217162ceacc12c579589fcdd7c478fda70c03005852d") true
    cleanPlain_holds (fun _ h => by cases h) (by kernel_rfl) (fun _ h => by cases h) cleanPlain_row_tie rfl ⟨rfl, rfl⟩ (by kernel_rfl) rfl
    (fun f fn hf hfn => by
      obtain rfl : f = 8 := Option.some.inj ((show Tryd.prog.funcNamed "truchman/truchmanlaw09.CleanPlain" = some 8 by kernel_rfl).symm.trans hf) |>.symm
      obtain rfl : fn = Tryd.f8 := (Option.some.inj (Tryd.func8.symm.trans hfn)).symm
      exact ⟨by kernel_rfl, fun j t ht => cleanPlain_wants t (List.mem_of_getElem? (by rw [Array.getElem?_toList]; exact ht))⟩)
    (by kernel_rfl)
end Go.Proofs.YtcphocfnhekdaaaDoor

