/- Words: what stands behind a backslash. -/
import Derived.Test.YtaleenklamognaaDoorJaC
set_option linter.unusedSimpArgs false
set_option linter.unusedVariables false
set_option maxRecDepth 100000
namespace Go.Proofs.YtaleenklamognaaDoor
open Go.Sx

open WordR
theorem dig_tab : (List.range 256).all (fun n => (decide (65 ≤ n ∧ n ≤ 70) && (idxB [48, 49, 50, 51, 52, 53, 54, 55, 56, 57, 97, 98, 99, 100, 101, 102] (IntKind.u8.wrap ((n : Int) + 32)) == hexI n)) || (!decide (65 ≤ n ∧ n ≤ 70) && (idxB [48, 49, 50, 51, 52, 53, 54, 55, 56, 57, 97, 98, 99, 100, 101, 102] (n : Int) == hexI n))) = true := by decide +kernel
theorem dig_a {x : Int} (h0 : 65 ≤ x ∧ x ≤ 70) : idxB [48, 49, 50, 51, 52, 53, 54, 55, 56, 57, 97, 98, 99, 100, 101, 102] (IntKind.u8.wrap (x + 32)) = hexI x := by
  have := List.all_eq_true.1 dig_tab x.toNat (List.mem_range.2 (by omega))
  have e : ((x.toNat : Nat) : Int) = x := Int.toNat_of_nonneg (by omega)
  rw [e] at this
  have q : decide (65 ≤ x.toNat ∧ x.toNat ≤ 70) = true := decide_eq_true (by omega)
  rw [q] at this
  simpa using this
theorem dig_b {x : Int} (h0 : 0 ≤ x ∧ x < 256) (h : ¬ (65 ≤ x ∧ x ≤ 70)) : idxB [48, 49, 50, 51, 52, 53, 54, 55, 56, 57, 97, 98, 99, 100, 101, 102] x = hexI x := by
  have := List.all_eq_true.1 dig_tab x.toNat (List.mem_range.2 (by omega))
  have e : ((x.toNat : Nat) : Int) = x := Int.toNat_of_nonneg (by omega)
  rw [e] at this
  have q : decide (65 ≤ x.toNat ∧ x.toNat ≤ 70) = false := decide_eq_false (by omega)
  rw [q] at this
  simpa using this
theorem dgT_p0 (x : Int) :
    isEnd (evTill Tryd.prog [] 300 (99) 900 171 [.code (bodyOf Tryd.f171)] (envOf [vU x] Tryd.f171.ntmps) ([] ++ ([])) ⟨[.s false], 80⟩) (endP ([]) (vN (hexI x)) ([]) 90) =
    (OkL [(decide (x ≥ (65 : Int)), false)] ∧ hexI x = idxB [(48 : UInt8), (49 : UInt8), (50 : UInt8), (51 : UInt8), (52 : UInt8), (53 : UInt8), (54 : UInt8), (55 : UInt8), (56 : UInt8), (57 : UInt8), (97 : UInt8), (98 : UInt8), (99 : UInt8), (100 : UInt8), (101 : UInt8), (102 : UInt8)] x ∧ True) := by kernel_rfl
theorem dgT_p1 (x : Int) :
    isEnd (evTill Tryd.prog [] 300 (99) 900 171 [.code (bodyOf Tryd.f171)] (envOf [vU x] Tryd.f171.ntmps) ([] ++ ([])) ⟨[.s true, .s false], 80⟩) (endP ([]) (vN (hexI x)) ([]) 90) =
    (OkL [(decide (x ≥ (65 : Int)), true), (decide (x ≤ (70 : Int)), false)] ∧ hexI x = idxB [(48 : UInt8), (49 : UInt8), (50 : UInt8), (51 : UInt8), (52 : UInt8), (53 : UInt8), (54 : UInt8), (55 : UInt8), (56 : UInt8), (57 : UInt8), (97 : UInt8), (98 : UInt8), (99 : UInt8), (100 : UInt8), (101 : UInt8), (102 : UInt8)] x ∧ True) := by kernel_rfl
theorem dgT_p2 (x : Int) :
    isEnd (evTill Tryd.prog [] 300 (99) 900 171 [.code (bodyOf Tryd.f171)] (envOf [vU x] Tryd.f171.ntmps) ([] ++ ([])) ⟨[.s true, .s true], 80⟩) (endP ([]) (vN (hexI x)) ([]) 90) =
    (OkL [(decide (x ≥ (65 : Int)), true), (decide (x ≤ (70 : Int)), true)] ∧ hexI x = idxB [(48 : UInt8), (49 : UInt8), (50 : UInt8), (51 : UInt8), (52 : UInt8), (53 : UInt8), (54 : UInt8), (55 : UInt8), (56 : UInt8), (57 : UInt8), (97 : UInt8), (98 : UInt8), (99 : UInt8), (100 : UInt8), (101 : UInt8), (102 : UInt8)] (IntKind.u8.wrap (x + 32)) ∧ True) := by kernel_rfl

set_option maxHeartbeats 4000000 in
theorem dgT (x : Int) (h0 : 0 ≤ x ∧ x < 256)  :
    RunsTo Tryd.prog 171 [.code (bodyOf Tryd.f171)] (envOf [vU x] Tryd.f171.ntmps) (Sx.look ([] ++ ([]))) 80 (vN (hexI x)) (Sx.look ([])) 90 := by
  refine bcase (c := (decide (x ≥ (65 : Int)))) (fun gg0 => (runs_last baseO (Sx.Ends.of (dgT_p0 x) ⟨(okc gg0 okn), ?_⟩) (by kernel_rfl) rfl (gtL (by decide)) (by decide))) (fun gg0 => bcase (c := (decide (x ≤ (70 : Int)))) (fun gg1 => (runs_last baseO (Sx.Ends.of (dgT_p1 x) ⟨(okc gg0 (okc gg1 okn)), ?_⟩) (by kernel_rfl) rfl (gtL (by decide)) (by decide))) (fun gg1 => (runs_last baseO (Sx.Ends.of (dgT_p2 x) ⟨(okc gg0 (okc gg1 okn)), ?_⟩) (by kernel_rfl) rfl (gtL (by decide)) (by decide))))
  all_goals first | (refine And.intro ?_ ?_ <;> ((try simp only [SS]); (repeat' apply And.intro); (all_goals first | exact True.intro | with_reducible rfl | (simp only [decide_eq_true_eq, decide_eq_false_iff_not] at *; first | exact (dig_a (by omega)).symm | exact dig_a (by omega) | exact (dig_b h0 (by omega)).symm | exact dig_b h0 (by omega))))) | (((try simp (disch := omega) only [SS]); first | done | omega | assumption | (simp (disch := omega) only [SS] at *; first | done | omega | assumption) | (simp_all; done)))

def dgP : PC := { args := [.v (.vi .u8 0)], heap := [], gs := [], G := 23, tp := 213, n := 80, n' := 90, cond := fun e => decide (0 ≤ eI e 0 [] ∧ eI e 0 [] < 256), v := fun e => vN (hexI (eI e 0 [])), post := fun e => [] }
theorem dgP_pc : PC.Runs Tryd.prog 171 Tryd.f171 (bodyOf Tryd.f171) dgP := ⟨Tryd.func171, by kernel_rfl, (fun g hg => by first | (cases hg; done) | (revert g; show ∀ g ∈ ([] : List Nat), g < 23; decide)), fun e H hc => by
  have hc : (decide (0 ≤ eI e 0 [] ∧ eI e 0 [] < 256)) = true := hc
  try simp only [Bool.and_eq_true, decide_eq_true_eq, Nat.beq_eq] at hc
  exact dgT (eI e 0 []) hc⟩
def sumsES : List (FuncId × Summ) := [(171, dgP.summ 46)]
theorem baseES : Base0 Tryd.prog sumsES := (baseO.cons Tryd.func171 (by kernel_rfl) (PC.summ_ok dgP_pc gtopG))
theorem esN_p0 (t0 t1 : List UInt8) (s : List UInt8) (a : Nat) :
    isEnd (evTill Tryd.prog sumsES 300 (99) 900 140 [.code (bodyOf Tryd.f140)] (envOf [vP 63] Tryd.f140.ntmps) (sentEnts 23 213 [(5, t0), (6, t1)] ++ (rdW 63 s (a : Nat))) ⟨[.s false, .s true, .s true], 80⟩) (endP ([]) (.tup [(false, .vi .u8 fun _ => (10 : Int)), (false, .ve0)]) (rdW 63 s (a + 1 : Nat)) 300) =
    (OkL [(decide ((a : Int) ≥ (↑s.length : Int)), false), (decide ((0 : Int) ≤ (a : Int) ∧ (a : Int) < (↑s.length : Int)), true), ((↑(s.getD (a : Int).toNat (0 : UInt8)).toNat : Int) == 110, true)] ∧ ((10 : Int) = (10 : Int) ∧ True ∧ True) ∧ s = s ∧ (↑(a + (1 : Nat)) : Int) = IntKind.i64.wrap ((a : Int) + 1)) := by kernel_rfl

set_option maxHeartbeats 4000000 in
theorem esN (t0 t1 : List UInt8) (s : List UInt8) (a : Nat) (ha : a < s.length) (hs : s.length ≤ 100000) (h : (s.getD a 0).toNat = 110)  :
    RunsTo Tryd.prog 140 [.code (bodyOf Tryd.f140)] (envOf [vP 63] Tryd.f140.ntmps) (Sx.look (sentEnts 23 213 [(5, t0), (6, t1)] ++ (rdW 63 s (a : Nat)))) 80 (.tup [(false, .vi .u8 fun _ => (10 : Int)), (false, .ve0)]) (Sx.look (rdW 63 s (a + 1 : Nat))) 300 := by
  have hw1 : IntKind.i64.wrap ((a : Int) + 1) = ((a + 1 : Nat) : Int) := by rw [wr64 (by omega)]; rfl
  have hw2 : IntKind.i64.wrap (((a + 1 : Nat) : Int) + 1) = ((a + 2 : Nat) : Int) := by rw [wr64 (by omega)]; omega
  have hw3 : IntKind.i64.wrap (((a + 2 : Nat) : Int) + 1) = ((a + 3 : Nat) : Int) := by rw [wr64 (by omega)]; omega
  have hb0 := u8nat (s.getD a 0)
  have hb1 := u8nat (s.getD (a + 1) 0)
  have hb2 := u8nat (s.getD (a + 2) 0)
  refine runs_last baseES (Sx.Ends.of (esN_p0 t0 t1 s a) ⟨(okc ?_ (okc ?_ (okc ?_ okn))), ?_⟩) (by kernel_rfl) rfl (gtL (by decide)) (by decide)
  all_goals first | (refine And.intro ?_ ?_ <;> ((try simp (disch := omega) only [SS, hw1, hw2, hw3]); (repeat' apply And.intro); (all_goals first | exact True.intro | with_reducible rfl | omega | (intros; first | exact True.intro | with_reducible rfl | omega | (simp_all; done)) | (simp_all; done) | rfl))) | (first | omega | (simp (disch := omega) only [SS, hw1, hw2, hw3]; first | done | omega) | (simp_all; done) | (simp_all; omega))

theorem esR_p0 (t0 t1 : List UInt8) (s : List UInt8) (a : Nat) :
    isEnd (evTill Tryd.prog sumsES 300 (99) 900 140 [.code (bodyOf Tryd.f140)] (envOf [vP 63] Tryd.f140.ntmps) (sentEnts 23 213 [(5, t0), (6, t1)] ++ (rdW 63 s (a : Nat))) ⟨[.s false, .s true, .s false, .s true], 80⟩) (endP ([]) (.tup [(false, .vi .u8 fun _ => (13 : Int)), (false, .ve0)]) (rdW 63 s (a + 1 : Nat)) 300) =
    (OkL [(decide ((a : Int) ≥ (↑s.length : Int)), false), (decide ((0 : Int) ≤ (a : Int) ∧ (a : Int) < (↑s.length : Int)), true), ((↑(s.getD (a : Int).toNat (0 : UInt8)).toNat : Int) == 110, false), ((↑(s.getD (a : Int).toNat (0 : UInt8)).toNat : Int) == 114, true)] ∧ ((13 : Int) = (13 : Int) ∧ True ∧ True) ∧ s = s ∧ (↑(a + (1 : Nat)) : Int) = IntKind.i64.wrap ((a : Int) + 1)) := by kernel_rfl

set_option maxHeartbeats 4000000 in
theorem esR (t0 t1 : List UInt8) (s : List UInt8) (a : Nat) (ha : a < s.length) (hs : s.length ≤ 100000) (h : (s.getD a 0).toNat = 114)  :
    RunsTo Tryd.prog 140 [.code (bodyOf Tryd.f140)] (envOf [vP 63] Tryd.f140.ntmps) (Sx.look (sentEnts 23 213 [(5, t0), (6, t1)] ++ (rdW 63 s (a : Nat)))) 80 (.tup [(false, .vi .u8 fun _ => (13 : Int)), (false, .ve0)]) (Sx.look (rdW 63 s (a + 1 : Nat))) 300 := by
  have hw1 : IntKind.i64.wrap ((a : Int) + 1) = ((a + 1 : Nat) : Int) := by rw [wr64 (by omega)]; rfl
  have hw2 : IntKind.i64.wrap (((a + 1 : Nat) : Int) + 1) = ((a + 2 : Nat) : Int) := by rw [wr64 (by omega)]; omega
  have hw3 : IntKind.i64.wrap (((a + 2 : Nat) : Int) + 1) = ((a + 3 : Nat) : Int) := by rw [wr64 (by omega)]; omega
  have hb0 := u8nat (s.getD a 0)
  have hb1 := u8nat (s.getD (a + 1) 0)
  have hb2 := u8nat (s.getD (a + 2) 0)
  refine runs_last baseES (Sx.Ends.of (esR_p0 t0 t1 s a) ⟨(okc ?_ (okc ?_ (okc ?_ (okc ?_ okn)))), ?_⟩) (by kernel_rfl) rfl (gtL (by decide)) (by decide)
  all_goals first | (refine And.intro ?_ ?_ <;> ((try simp (disch := omega) only [SS, hw1, hw2, hw3]); (repeat' apply And.intro); (all_goals first | exact True.intro | with_reducible rfl | omega | (intros; first | exact True.intro | with_reducible rfl | omega | (simp_all; done)) | (simp_all; done) | rfl))) | (first | omega | (simp (disch := omega) only [SS, hw1, hw2, hw3]; first | done | omega) | (simp_all; done) | (simp_all; omega))

theorem esTb_p0 (t0 t1 : List UInt8) (s : List UInt8) (a : Nat) :
    isEnd (evTill Tryd.prog sumsES 300 (99) 900 140 [.code (bodyOf Tryd.f140)] (envOf [vP 63] Tryd.f140.ntmps) (sentEnts 23 213 [(5, t0), (6, t1)] ++ (rdW 63 s (a : Nat))) ⟨[.s false, .s true, .s false, .s false, .s true], 80⟩) (endP ([]) (.tup [(false, .vi .u8 fun _ => (9 : Int)), (false, .ve0)]) (rdW 63 s (a + 1 : Nat)) 300) =
    (OkL [(decide ((a : Int) ≥ (↑s.length : Int)), false), (decide ((0 : Int) ≤ (a : Int) ∧ (a : Int) < (↑s.length : Int)), true), ((↑(s.getD (a : Int).toNat (0 : UInt8)).toNat : Int) == 110, false), ((↑(s.getD (a : Int).toNat (0 : UInt8)).toNat : Int) == 114, false), ((↑(s.getD (a : Int).toNat (0 : UInt8)).toNat : Int) == 116, true)] ∧ ((9 : Int) = (9 : Int) ∧ True ∧ True) ∧ s = s ∧ (↑(a + (1 : Nat)) : Int) = IntKind.i64.wrap ((a : Int) + 1)) := by kernel_rfl

set_option maxHeartbeats 4000000 in
theorem esTb (t0 t1 : List UInt8) (s : List UInt8) (a : Nat) (ha : a < s.length) (hs : s.length ≤ 100000) (h : (s.getD a 0).toNat = 116)  :
    RunsTo Tryd.prog 140 [.code (bodyOf Tryd.f140)] (envOf [vP 63] Tryd.f140.ntmps) (Sx.look (sentEnts 23 213 [(5, t0), (6, t1)] ++ (rdW 63 s (a : Nat)))) 80 (.tup [(false, .vi .u8 fun _ => (9 : Int)), (false, .ve0)]) (Sx.look (rdW 63 s (a + 1 : Nat))) 300 := by
  have hw1 : IntKind.i64.wrap ((a : Int) + 1) = ((a + 1 : Nat) : Int) := by rw [wr64 (by omega)]; rfl
  have hw2 : IntKind.i64.wrap (((a + 1 : Nat) : Int) + 1) = ((a + 2 : Nat) : Int) := by rw [wr64 (by omega)]; omega
  have hw3 : IntKind.i64.wrap (((a + 2 : Nat) : Int) + 1) = ((a + 3 : Nat) : Int) := by rw [wr64 (by omega)]; omega
  have hb0 := u8nat (s.getD a 0)
  have hb1 := u8nat (s.getD (a + 1) 0)
  have hb2 := u8nat (s.getD (a + 2) 0)
  refine runs_last baseES (Sx.Ends.of (esTb_p0 t0 t1 s a) ⟨(okc ?_ (okc ?_ (okc ?_ (okc ?_ (okc ?_ okn))))), ?_⟩) (by kernel_rfl) rfl (gtL (by decide)) (by decide)
  all_goals first | (refine And.intro ?_ ?_ <;> ((try simp (disch := omega) only [SS, hw1, hw2, hw3]); (repeat' apply And.intro); (all_goals first | exact True.intro | with_reducible rfl | omega | (intros; first | exact True.intro | with_reducible rfl | omega | (simp_all; done)) | (simp_all; done) | rfl))) | (first | omega | (simp (disch := omega) only [SS, hw1, hw2, hw3]; first | done | omega) | (simp_all; done) | (simp_all; omega))

theorem esB_p0 (t0 t1 : List UInt8) (s : List UInt8) (a : Nat) :
    isEnd (evTill Tryd.prog sumsES 300 (99) 900 140 [.code (bodyOf Tryd.f140)] (envOf [vP 63] Tryd.f140.ntmps) (sentEnts 23 213 [(5, t0), (6, t1)] ++ (rdW 63 s (a : Nat))) ⟨[.s false, .s true, .s false, .s false, .s false, .s false, .s false, .s false, .s true], 80⟩) (endP ([]) (.tup [(false, .vi .u8 fun _ => (((s.getD a 0).toNat : Nat) : Int)), (false, .ve0)]) (rdW 63 s (a + 1 : Nat)) 300) =
    (OkL [(decide ((a : Int) ≥ (↑s.length : Int)), false), (decide ((0 : Int) ≤ (a : Int) ∧ (a : Int) < (↑s.length : Int)), true), ((↑(s.getD (a : Int).toNat (0 : UInt8)).toNat : Int) == 110, false), ((↑(s.getD (a : Int).toNat (0 : UInt8)).toNat : Int) == 114, false), ((↑(s.getD (a : Int).toNat (0 : UInt8)).toNat : Int) == 116, false), ((↑(s.getD (a : Int).toNat (0 : UInt8)).toNat : Int) == 120, false), ((↑(s.getD (a : Int).toNat (0 : UInt8)).toNat : Int) == 92, false), ((↑(s.getD (a : Int).toNat (0 : UInt8)).toNat : Int) == 34, false), ((↑(s.getD (a : Int).toNat (0 : UInt8)).toNat : Int) == 36, true)] ∧ ((↑(s.getD a (0 : UInt8)).toNat : Int) = (↑(s.getD (a : Int).toNat (0 : UInt8)).toNat : Int) ∧ True ∧ True) ∧ s = s ∧ (↑(a + (1 : Nat)) : Int) = IntKind.i64.wrap ((a : Int) + 1)) := by kernel_rfl
theorem esB_p1 (t0 t1 : List UInt8) (s : List UInt8) (a : Nat) :
    isEnd (evTill Tryd.prog sumsES 300 (99) 900 140 [.code (bodyOf Tryd.f140)] (envOf [vP 63] Tryd.f140.ntmps) (sentEnts 23 213 [(5, t0), (6, t1)] ++ (rdW 63 s (a : Nat))) ⟨[.s false, .s true, .s false, .s false, .s false, .s false, .s false, .s true, .s true], 80⟩) (endP ([]) (.tup [(false, .vi .u8 fun _ => (((s.getD a 0).toNat : Nat) : Int)), (false, .ve0)]) (rdW 63 s (a + 1 : Nat)) 300) =
    (OkL [(decide ((a : Int) ≥ (↑s.length : Int)), false), (decide ((0 : Int) ≤ (a : Int) ∧ (a : Int) < (↑s.length : Int)), true), ((↑(s.getD (a : Int).toNat (0 : UInt8)).toNat : Int) == 110, false), ((↑(s.getD (a : Int).toNat (0 : UInt8)).toNat : Int) == 114, false), ((↑(s.getD (a : Int).toNat (0 : UInt8)).toNat : Int) == 116, false), ((↑(s.getD (a : Int).toNat (0 : UInt8)).toNat : Int) == 120, false), ((↑(s.getD (a : Int).toNat (0 : UInt8)).toNat : Int) == 92, false), ((↑(s.getD (a : Int).toNat (0 : UInt8)).toNat : Int) == 34, true), ((↑(s.getD (a : Int).toNat (0 : UInt8)).toNat : Int) == 34, true)] ∧ ((↑(s.getD a (0 : UInt8)).toNat : Int) = (↑(s.getD (a : Int).toNat (0 : UInt8)).toNat : Int) ∧ True ∧ True) ∧ s = s ∧ (↑(a + (1 : Nat)) : Int) = IntKind.i64.wrap ((a : Int) + 1)) := by kernel_rfl
theorem esB_p2 (t0 t1 : List UInt8) (s : List UInt8) (a : Nat) :
    isEnd (evTill Tryd.prog sumsES 300 (99) 900 140 [.code (bodyOf Tryd.f140)] (envOf [vP 63] Tryd.f140.ntmps) (sentEnts 23 213 [(5, t0), (6, t1)] ++ (rdW 63 s (a : Nat))) ⟨[.s false, .s true, .s false, .s false, .s false, .s false, .s true, .s true], 80⟩) (endP ([]) (.tup [(false, .vi .u8 fun _ => (((s.getD a 0).toNat : Nat) : Int)), (false, .ve0)]) (rdW 63 s (a + 1 : Nat)) 300) =
    (OkL [(decide ((a : Int) ≥ (↑s.length : Int)), false), (decide ((0 : Int) ≤ (a : Int) ∧ (a : Int) < (↑s.length : Int)), true), ((↑(s.getD (a : Int).toNat (0 : UInt8)).toNat : Int) == 110, false), ((↑(s.getD (a : Int).toNat (0 : UInt8)).toNat : Int) == 114, false), ((↑(s.getD (a : Int).toNat (0 : UInt8)).toNat : Int) == 116, false), ((↑(s.getD (a : Int).toNat (0 : UInt8)).toNat : Int) == 120, false), ((↑(s.getD (a : Int).toNat (0 : UInt8)).toNat : Int) == 92, true), ((↑(s.getD (a : Int).toNat (0 : UInt8)).toNat : Int) == 92, true)] ∧ ((↑(s.getD a (0 : UInt8)).toNat : Int) = (↑(s.getD (a : Int).toNat (0 : UInt8)).toNat : Int) ∧ True ∧ True) ∧ s = s ∧ (↑(a + (1 : Nat)) : Int) = IntKind.i64.wrap ((a : Int) + 1)) := by kernel_rfl

set_option maxHeartbeats 4000000 in
theorem esB (t0 t1 : List UInt8) (s : List UInt8) (a : Nat) (ha : a < s.length) (hs : s.length ≤ 100000) (h : (s.getD a 0).toNat = 92 ∨ (s.getD a 0).toNat = 34 ∨ (s.getD a 0).toNat = 36)  :
    RunsTo Tryd.prog 140 [.code (bodyOf Tryd.f140)] (envOf [vP 63] Tryd.f140.ntmps) (Sx.look (sentEnts 23 213 [(5, t0), (6, t1)] ++ (rdW 63 s (a : Nat)))) 80 (.tup [(false, .vi .u8 fun _ => (((s.getD a 0).toNat : Nat) : Int)), (false, .ve0)]) (Sx.look (rdW 63 s (a + 1 : Nat))) 300 := by
  have hw1 : IntKind.i64.wrap ((a : Int) + 1) = ((a + 1 : Nat) : Int) := by rw [wr64 (by omega)]; rfl
  have hw2 : IntKind.i64.wrap (((a + 1 : Nat) : Int) + 1) = ((a + 2 : Nat) : Int) := by rw [wr64 (by omega)]; omega
  have hw3 : IntKind.i64.wrap (((a + 2 : Nat) : Int) + 1) = ((a + 3 : Nat) : Int) := by rw [wr64 (by omega)]; omega
  have hb0 := u8nat (s.getD a 0)
  have hb1 := u8nat (s.getD (a + 1) 0)
  have hb2 := u8nat (s.getD (a + 2) 0)
  refine bcase (c := ((↑(s.getD (↑a : Int).toNat (0 : UInt8)).toNat : Int) == (92 : Int))) (fun gg0 => bcase (c := ((↑(s.getD (↑a : Int).toNat (0 : UInt8)).toNat : Int) == (34 : Int))) (fun gg1 => (runs_last baseES (Sx.Ends.of (esB_p0 t0 t1 s a) ⟨(okc ?_ (okc ?_ (okc ?_ (okc ?_ (okc ?_ (okc ?_ (okc gg0 (okc gg1 (okc ?_ okn))))))))), ?_⟩) (by kernel_rfl) rfl (gtL (by decide)) (by decide))) (fun gg1 => (runs_last baseES (Sx.Ends.of (esB_p1 t0 t1 s a) ⟨(okc ?_ (okc ?_ (okc ?_ (okc ?_ (okc ?_ (okc ?_ (okc gg0 (okc gg1 (okc gg1 okn))))))))), ?_⟩) (by kernel_rfl) rfl (gtL (by decide)) (by decide)))) (fun gg0 => (runs_last baseES (Sx.Ends.of (esB_p2 t0 t1 s a) ⟨(okc ?_ (okc ?_ (okc ?_ (okc ?_ (okc ?_ (okc ?_ (okc gg0 (okc gg0 okn)))))))), ?_⟩) (by kernel_rfl) rfl (gtL (by decide)) (by decide)))
  all_goals first | (refine And.intro ?_ ?_ <;> ((try simp (disch := omega) only [SS, hw1, hw2, hw3]); (repeat' apply And.intro); (all_goals first | exact True.intro | with_reducible rfl | omega | (intros; first | exact True.intro | with_reducible rfl | omega | (simp_all; done)) | (simp_all; done) | rfl))) | (first | omega | (simp (disch := omega) only [SS, hw1, hw2, hw3]; first | done | omega) | (simp_all; done) | (simp_all; omega))

theorem hex_tab : (List.range 16).all (fun x => (List.range 16).all fun y => decide (IntKind.u8.wrap (ior .i64 (ishl .i64 (ior .i64 (ishl .i64 0 4) (x : Int)) 4) (y : Int)) = 16 * (x : Int) + (y : Int))) = true := by decide +kernel
theorem hex2 {x y : Int} (hx : 0 ≤ x ∧ x < 16) (hy : 0 ≤ y ∧ y < 16) : IntKind.u8.wrap (ior .i64 (ishl .i64 (ior .i64 (ishl .i64 0 4) x) 4) y) = 16 * x + y := by
  have h := List.all_eq_true.1 (List.all_eq_true.1 hex_tab x.toNat (List.mem_range.2 (by omega))) y.toNat (List.mem_range.2 (by omega))
  have e1 : ((x.toNat : Nat) : Int) = x := Int.toNat_of_nonneg (by omega)
  have e2 : ((y.toNat : Nat) : Int) = y := Int.toNat_of_nonneg (by omega)
  rw [e1, e2] at h
  exact of_decide_eq_true h
theorem hexI_lt (x : Int) : hexI x < 16 := by unfold hexI; repeat' split <;> omega
theorem esX_p0 (t0 t1 : List UInt8) (s : List UInt8) (a : Nat) :
    isEnd (evTill Tryd.prog sumsES 300 (99) 900 140 [.code (bodyOf Tryd.f140)] (envOf [vP 63] Tryd.f140.ntmps) (sentEnts 23 213 [(5, t0), (6, t1)] ++ (rdW 63 s (a : Nat))) ⟨[.s false, .s true, .s false, .s false, .s false, .s true, .t, .s false, .s true, .s true, .s false, .t, .t, .s false, .s true, .s true, .s false, .t, .f], 80⟩) (endP ([]) (.tup [(false, .vi .u8 fun _ => (16 * hexI ((s.getD (a + 1) 0).toNat : Int) + hexI ((s.getD (a + 2) 0).toNat : Int) : Int)), (false, .ve0)]) (rdW 63 s (a + 3 : Nat)) 300) =
    (OkL [(decide ((a : Int) ≥ (↑s.length : Int)), false), (decide ((0 : Int) ≤ (a : Int) ∧ (a : Int) < (↑s.length : Int)), true), ((↑(s.getD (a : Int).toNat (0 : UInt8)).toNat : Int) == 110, false), ((↑(s.getD (a : Int).toNat (0 : UInt8)).toNat : Int) == 114, false), ((↑(s.getD (a : Int).toNat (0 : UInt8)).toNat : Int) == 116, false), ((↑(s.getD (a : Int).toNat (0 : UInt8)).toNat : Int) == 120, true), (decide (IntKind.i64.wrap ((a : Int) + 1) ≥ (↑s.length : Int)), false), (decide ((0 : Int) ≤ IntKind.i64.wrap ((a : Int) + 1) ∧ IntKind.i64.wrap ((a : Int) + 1) < (↑s.length : Int)), true), (decide ((0 : Int) ≤ (↑(s.getD (IntKind.i64.wrap ((a : Int) + 1)).toNat (0 : UInt8)).toNat : Int) ∧ (↑(s.getD (IntKind.i64.wrap ((a : Int) + 1)).toNat (0 : UInt8)).toNat : Int) < 256), true), (decide (hexI (↑(s.getD (IntKind.i64.wrap ((a : Int) + 1)).toNat (0 : UInt8)).toNat : Int) < 0), false), (decide (IntKind.i64.wrap (IntKind.i64.wrap ((a : Int) + 1) + 1) ≥ (↑s.length : Int)), false), (decide ((0 : Int) ≤ IntKind.i64.wrap (IntKind.i64.wrap ((a : Int) + 1) + 1) ∧ IntKind.i64.wrap (IntKind.i64.wrap ((a : Int) + 1) + 1) < (↑s.length : Int)), true), (decide ((0 : Int) ≤ (↑(s.getD (IntKind.i64.wrap (IntKind.i64.wrap ((a : Int) + 1) + 1)).toNat (0 : UInt8)).toNat : Int) ∧ (↑(s.getD (IntKind.i64.wrap (IntKind.i64.wrap ((a : Int) + 1) + 1)).toNat (0 : UInt8)).toNat : Int) < 256), true), (decide (hexI (↑(s.getD (IntKind.i64.wrap (IntKind.i64.wrap ((a : Int) + 1) + 1)).toNat (0 : UInt8)).toNat : Int) < 0), false)] ∧ ((16 : Int) * hexI (↑(s.getD (a + (1 : Nat)) (0 : UInt8)).toNat : Int) + hexI (↑(s.getD (a + (2 : Nat)) (0 : UInt8)).toNat : Int) = IntKind.u8.wrap (ior IntKind.i64 (ishl IntKind.i64 (ior IntKind.i64 (ishl IntKind.i64 (0 : Int) (4 : Int)) (hexI (↑(s.getD (IntKind.i64.wrap ((a : Int) + 1)).toNat (0 : UInt8)).toNat : Int))) (4 : Int)) (hexI (↑(s.getD (IntKind.i64.wrap (IntKind.i64.wrap ((a : Int) + 1) + 1)).toNat (0 : UInt8)).toNat : Int))) ∧ True ∧ True) ∧ s = s ∧ (↑(a + (3 : Nat)) : Int) = IntKind.i64.wrap (IntKind.i64.wrap (IntKind.i64.wrap ((a : Int) + 1) + 1) + 1)) := by kernel_rfl

set_option maxHeartbeats 4000000 in
theorem esX (t0 t1 : List UInt8) (s : List UInt8) (a : Nat) (ha : a < s.length) (hs : s.length ≤ 100000) (h : (s.getD a 0).toNat = 120) (h3 : a + 2 < s.length) (x1 : 0 ≤ hexI ((s.getD (a + 1) 0).toNat : Int)) (x2 : 0 ≤ hexI ((s.getD (a + 2) 0).toNat : Int))  :
    RunsTo Tryd.prog 140 [.code (bodyOf Tryd.f140)] (envOf [vP 63] Tryd.f140.ntmps) (Sx.look (sentEnts 23 213 [(5, t0), (6, t1)] ++ (rdW 63 s (a : Nat)))) 80 (.tup [(false, .vi .u8 fun _ => (16 * hexI ((s.getD (a + 1) 0).toNat : Int) + hexI ((s.getD (a + 2) 0).toNat : Int) : Int)), (false, .ve0)]) (Sx.look (rdW 63 s (a + 3 : Nat))) 300 := by
  have hw1 : IntKind.i64.wrap ((a : Int) + 1) = ((a + 1 : Nat) : Int) := by rw [wr64 (by omega)]; rfl
  have hw2 : IntKind.i64.wrap (((a + 1 : Nat) : Int) + 1) = ((a + 2 : Nat) : Int) := by rw [wr64 (by omega)]; omega
  have hw3 : IntKind.i64.wrap (((a + 2 : Nat) : Int) + 1) = ((a + 3 : Nat) : Int) := by rw [wr64 (by omega)]; omega
  have hb0 := u8nat (s.getD a 0)
  have hb1 := u8nat (s.getD (a + 1) 0)
  have hb2 := u8nat (s.getD (a + 2) 0)
  refine runs_last baseES (Sx.Ends.of (esX_p0 t0 t1 s a) ⟨(okc ?_ (okc ?_ (okc ?_ (okc ?_ (okc ?_ (okc ?_ (okc ?_ (okc ?_ (okc ?_ (okc ?_ (okc ?_ (okc ?_ (okc ?_ (okc ?_ okn)))))))))))))), ?_⟩) (by kernel_rfl) rfl (gtL (by decide)) (by decide)
  all_goals first | (refine And.intro ?_ ?_ <;> ((try simp (disch := omega) only [SS, hw1, hw2, hw3]); (repeat' apply And.intro); (all_goals first | exact True.intro | with_reducible rfl | omega | exact (hex2 ⟨x1, hexI_lt _⟩ ⟨x2, hexI_lt _⟩).symm | exact hex2 ⟨x1, hexI_lt _⟩ ⟨x2, hexI_lt _⟩ | (simp_all; done)))) | (first | omega | (simp (disch := omega) only [SS, hw1, hw2, hw3]; first | done | omega) | (simp_all; done) | (simp_all; omega))

theorem esE_p0 (t0 t1 : List UInt8) (s : List UInt8) (a : Nat) :
    isEnd (evTill Tryd.prog sumsES 300 (99) 900 140 [.code (bodyOf Tryd.f140)] (envOf [vP 63] Tryd.f140.ntmps) (sentEnts 23 213 [(5, t0), (6, t1)] ++ (rdW 63 s (a : Nat))) ⟨[.s true], 80⟩) (endP ([]) (.tup [(false, .vi .u8 fun _ => (0 : Int)), (false, vErr 5)]) ([]) 300) =
    (OkL [(decide ((a : Int) ≥ (↑s.length : Int)), true)] ∧ ((0 : Int) = (0 : Int) ∧ 0 = 0 ∧ True) ∧ True) := by kernel_rfl

set_option maxHeartbeats 4000000 in
theorem esE (t0 t1 : List UInt8) (s : List UInt8) (a : Nat) (ha : a = s.length) (hs : s.length ≤ 100000)  :
    RunsTo Tryd.prog 140 [.code (bodyOf Tryd.f140)] (envOf [vP 63] Tryd.f140.ntmps) (Sx.look (sentEnts 23 213 [(5, t0), (6, t1)] ++ (rdW 63 s (a : Nat)))) 80 (.tup [(false, .vi .u8 fun _ => (0 : Int)), (false, vErr 5)]) (Sx.look ([])) 300 := by
  have hw1 : IntKind.i64.wrap ((a : Int) + 1) = ((a + 1 : Nat) : Int) := by rw [wr64 (by omega)]; rfl
  have hw2 : IntKind.i64.wrap (((a + 1 : Nat) : Int) + 1) = ((a + 2 : Nat) : Int) := by rw [wr64 (by omega)]; omega
  have hw3 : IntKind.i64.wrap (((a + 2 : Nat) : Int) + 1) = ((a + 3 : Nat) : Int) := by rw [wr64 (by omega)]; omega
  have hb0 := u8nat (s.getD a 0)
  have hb1 := u8nat (s.getD (a + 1) 0)
  have hb2 := u8nat (s.getD (a + 2) 0)
  refine runs_last baseES (Sx.Ends.of (esE_p0 t0 t1 s a) ⟨(okc ?_ okn), ?_⟩) (by kernel_rfl) rfl (gtL (by decide)) (by decide)
  all_goals first | (refine And.intro ?_ ?_ <;> ((try simp (disch := omega) only [SS, hw1, hw2, hw3]); (repeat' apply And.intro); (all_goals first | exact True.intro | with_reducible rfl | omega | (intros; first | exact True.intro | with_reducible rfl | omega | (simp_all; done)) | (simp_all; done) | rfl))) | (first | omega | (simp (disch := omega) only [SS, hw1, hw2, hw3]; first | done | omega) | (simp_all; done) | (simp_all; omega))

theorem esE1_p0 (t0 t1 : List UInt8) (s : List UInt8) (a : Nat) :
    isEnd (evTill Tryd.prog sumsES 300 (99) 900 140 [.code (bodyOf Tryd.f140)] (envOf [vP 63] Tryd.f140.ntmps) (sentEnts 23 213 [(5, t0), (6, t1)] ++ (rdW 63 s (a : Nat))) ⟨[.s false, .s true, .s false, .s false, .s false, .s true, .t, .s true], 80⟩) (endP ([]) (.tup [(false, .vi .u8 fun _ => (0 : Int)), (false, vErr 5)]) ([]) 300) =
    (OkL [(decide ((a : Int) ≥ (↑s.length : Int)), false), (decide ((0 : Int) ≤ (a : Int) ∧ (a : Int) < (↑s.length : Int)), true), ((↑(s.getD (a : Int).toNat (0 : UInt8)).toNat : Int) == 110, false), ((↑(s.getD (a : Int).toNat (0 : UInt8)).toNat : Int) == 114, false), ((↑(s.getD (a : Int).toNat (0 : UInt8)).toNat : Int) == 116, false), ((↑(s.getD (a : Int).toNat (0 : UInt8)).toNat : Int) == 120, true), (decide (IntKind.i64.wrap ((a : Int) + 1) ≥ (↑s.length : Int)), true)] ∧ ((0 : Int) = (0 : Int) ∧ 0 = 0 ∧ True) ∧ True) := by kernel_rfl

set_option maxHeartbeats 4000000 in
theorem esE1 (t0 t1 : List UInt8) (s : List UInt8) (a : Nat) (ha : a < s.length) (hs : s.length ≤ 100000) (h : (s.getD a 0).toNat = 120) (h3 : a + 1 = s.length)  :
    RunsTo Tryd.prog 140 [.code (bodyOf Tryd.f140)] (envOf [vP 63] Tryd.f140.ntmps) (Sx.look (sentEnts 23 213 [(5, t0), (6, t1)] ++ (rdW 63 s (a : Nat)))) 80 (.tup [(false, .vi .u8 fun _ => (0 : Int)), (false, vErr 5)]) (Sx.look ([])) 300 := by
  have hw1 : IntKind.i64.wrap ((a : Int) + 1) = ((a + 1 : Nat) : Int) := by rw [wr64 (by omega)]; rfl
  have hw2 : IntKind.i64.wrap (((a + 1 : Nat) : Int) + 1) = ((a + 2 : Nat) : Int) := by rw [wr64 (by omega)]; omega
  have hw3 : IntKind.i64.wrap (((a + 2 : Nat) : Int) + 1) = ((a + 3 : Nat) : Int) := by rw [wr64 (by omega)]; omega
  have hb0 := u8nat (s.getD a 0)
  have hb1 := u8nat (s.getD (a + 1) 0)
  have hb2 := u8nat (s.getD (a + 2) 0)
  refine runs_last baseES (Sx.Ends.of (esE1_p0 t0 t1 s a) ⟨(okc ?_ (okc ?_ (okc ?_ (okc ?_ (okc ?_ (okc ?_ (okc ?_ okn))))))), ?_⟩) (by kernel_rfl) rfl (gtL (by decide)) (by decide)
  all_goals first | (refine And.intro ?_ ?_ <;> ((try simp (disch := omega) only [SS, hw1, hw2, hw3]); (repeat' apply And.intro); (all_goals first | exact True.intro | with_reducible rfl | omega | (intros; first | exact True.intro | with_reducible rfl | omega | (simp_all; done)) | (simp_all; done) | rfl))) | (first | omega | (simp (disch := omega) only [SS, hw1, hw2, hw3]; first | done | omega) | (simp_all; done) | (simp_all; omega))

theorem esE2_p0 (t0 t1 : List UInt8) (s : List UInt8) (a : Nat) :
    isEnd (evTill Tryd.prog sumsES 300 (99) 900 140 [.code (bodyOf Tryd.f140)] (envOf [vP 63] Tryd.f140.ntmps) (sentEnts 23 213 [(5, t0), (6, t1)] ++ (rdW 63 s (a : Nat))) ⟨[.s false, .s true, .s false, .s false, .s false, .s true, .t, .s false, .s true, .s true, .s false, .t, .t, .s true], 80⟩) (endP ([]) (.tup [(false, .vi .u8 fun _ => (0 : Int)), (false, vErr 5)]) ([]) 300) =
    (OkL [(decide ((a : Int) ≥ (↑s.length : Int)), false), (decide ((0 : Int) ≤ (a : Int) ∧ (a : Int) < (↑s.length : Int)), true), ((↑(s.getD (a : Int).toNat (0 : UInt8)).toNat : Int) == 110, false), ((↑(s.getD (a : Int).toNat (0 : UInt8)).toNat : Int) == 114, false), ((↑(s.getD (a : Int).toNat (0 : UInt8)).toNat : Int) == 116, false), ((↑(s.getD (a : Int).toNat (0 : UInt8)).toNat : Int) == 120, true), (decide (IntKind.i64.wrap ((a : Int) + 1) ≥ (↑s.length : Int)), false), (decide ((0 : Int) ≤ IntKind.i64.wrap ((a : Int) + 1) ∧ IntKind.i64.wrap ((a : Int) + 1) < (↑s.length : Int)), true), (decide ((0 : Int) ≤ (↑(s.getD (IntKind.i64.wrap ((a : Int) + 1)).toNat (0 : UInt8)).toNat : Int) ∧ (↑(s.getD (IntKind.i64.wrap ((a : Int) + 1)).toNat (0 : UInt8)).toNat : Int) < 256), true), (decide (hexI (↑(s.getD (IntKind.i64.wrap ((a : Int) + 1)).toNat (0 : UInt8)).toNat : Int) < 0), false), (decide (IntKind.i64.wrap (IntKind.i64.wrap ((a : Int) + 1) + 1) ≥ (↑s.length : Int)), true)] ∧ ((0 : Int) = (0 : Int) ∧ 0 = 0 ∧ True) ∧ True) := by kernel_rfl

set_option maxHeartbeats 4000000 in
theorem esE2 (t0 t1 : List UInt8) (s : List UInt8) (a : Nat) (ha : a < s.length) (hs : s.length ≤ 100000) (h : (s.getD a 0).toNat = 120) (h3 : a + 2 = s.length) (x1 : 0 ≤ hexI ((s.getD (a + 1) 0).toNat : Int))  :
    RunsTo Tryd.prog 140 [.code (bodyOf Tryd.f140)] (envOf [vP 63] Tryd.f140.ntmps) (Sx.look (sentEnts 23 213 [(5, t0), (6, t1)] ++ (rdW 63 s (a : Nat)))) 80 (.tup [(false, .vi .u8 fun _ => (0 : Int)), (false, vErr 5)]) (Sx.look ([])) 300 := by
  have hw1 : IntKind.i64.wrap ((a : Int) + 1) = ((a + 1 : Nat) : Int) := by rw [wr64 (by omega)]; rfl
  have hw2 : IntKind.i64.wrap (((a + 1 : Nat) : Int) + 1) = ((a + 2 : Nat) : Int) := by rw [wr64 (by omega)]; omega
  have hw3 : IntKind.i64.wrap (((a + 2 : Nat) : Int) + 1) = ((a + 3 : Nat) : Int) := by rw [wr64 (by omega)]; omega
  have hb0 := u8nat (s.getD a 0)
  have hb1 := u8nat (s.getD (a + 1) 0)
  have hb2 := u8nat (s.getD (a + 2) 0)
  refine runs_last baseES (Sx.Ends.of (esE2_p0 t0 t1 s a) ⟨(okc ?_ (okc ?_ (okc ?_ (okc ?_ (okc ?_ (okc ?_ (okc ?_ (okc ?_ (okc ?_ (okc ?_ (okc ?_ okn))))))))))), ?_⟩) (by kernel_rfl) rfl (gtL (by decide)) (by decide)
  all_goals first | (refine And.intro ?_ ?_ <;> ((try simp (disch := omega) only [SS, hw1, hw2, hw3]); (repeat' apply And.intro); (all_goals first | exact True.intro | with_reducible rfl | omega | (intros; first | exact True.intro | with_reducible rfl | omega | (simp_all; done)) | (simp_all; done) | rfl))) | (first | omega | (simp (disch := omega) only [SS, hw1, hw2, hw3]; first | done | omega) | (simp_all; done) | (simp_all; omega))

theorem esF1_p0 (t0 t1 : List UInt8) (s : List UInt8) (a : Nat) :
    isEnd (evTill Tryd.prog sumsES 300 (99) 900 140 [.code (bodyOf Tryd.f140)] (envOf [vP 63] Tryd.f140.ntmps) (sentEnts 23 213 [(5, t0), (6, t1)] ++ (rdW 63 s (a : Nat))) ⟨[.s false, .s true, .s false, .s false, .s false, .s true, .t, .s false, .s true, .s true, .s true], 80⟩) (endP ([]) (.tup [(false, .vi .u8 fun _ => (0 : Int)), (false, vErr 6)]) ([]) 300) =
    (OkL [(decide ((a : Int) ≥ (↑s.length : Int)), false), (decide ((0 : Int) ≤ (a : Int) ∧ (a : Int) < (↑s.length : Int)), true), ((↑(s.getD (a : Int).toNat (0 : UInt8)).toNat : Int) == 110, false), ((↑(s.getD (a : Int).toNat (0 : UInt8)).toNat : Int) == 114, false), ((↑(s.getD (a : Int).toNat (0 : UInt8)).toNat : Int) == 116, false), ((↑(s.getD (a : Int).toNat (0 : UInt8)).toNat : Int) == 120, true), (decide (IntKind.i64.wrap ((a : Int) + 1) ≥ (↑s.length : Int)), false), (decide ((0 : Int) ≤ IntKind.i64.wrap ((a : Int) + 1) ∧ IntKind.i64.wrap ((a : Int) + 1) < (↑s.length : Int)), true), (decide ((0 : Int) ≤ (↑(s.getD (IntKind.i64.wrap ((a : Int) + 1)).toNat (0 : UInt8)).toNat : Int) ∧ (↑(s.getD (IntKind.i64.wrap ((a : Int) + 1)).toNat (0 : UInt8)).toNat : Int) < 256), true), (decide (hexI (↑(s.getD (IntKind.i64.wrap ((a : Int) + 1)).toNat (0 : UInt8)).toNat : Int) < 0), true)] ∧ ((0 : Int) = (0 : Int) ∧ 0 = 0 ∧ True) ∧ True) := by kernel_rfl

set_option maxHeartbeats 4000000 in
theorem esF1 (t0 t1 : List UInt8) (s : List UInt8) (a : Nat) (ha : a < s.length) (hs : s.length ≤ 100000) (h : (s.getD a 0).toNat = 120) (h3 : a + 1 < s.length) (x1 : hexI ((s.getD (a + 1) 0).toNat : Int) < 0)  :
    RunsTo Tryd.prog 140 [.code (bodyOf Tryd.f140)] (envOf [vP 63] Tryd.f140.ntmps) (Sx.look (sentEnts 23 213 [(5, t0), (6, t1)] ++ (rdW 63 s (a : Nat)))) 80 (.tup [(false, .vi .u8 fun _ => (0 : Int)), (false, vErr 6)]) (Sx.look ([])) 300 := by
  have hw1 : IntKind.i64.wrap ((a : Int) + 1) = ((a + 1 : Nat) : Int) := by rw [wr64 (by omega)]; rfl
  have hw2 : IntKind.i64.wrap (((a + 1 : Nat) : Int) + 1) = ((a + 2 : Nat) : Int) := by rw [wr64 (by omega)]; omega
  have hw3 : IntKind.i64.wrap (((a + 2 : Nat) : Int) + 1) = ((a + 3 : Nat) : Int) := by rw [wr64 (by omega)]; omega
  have hb0 := u8nat (s.getD a 0)
  have hb1 := u8nat (s.getD (a + 1) 0)
  have hb2 := u8nat (s.getD (a + 2) 0)
  refine runs_last baseES (Sx.Ends.of (esF1_p0 t0 t1 s a) ⟨(okc ?_ (okc ?_ (okc ?_ (okc ?_ (okc ?_ (okc ?_ (okc ?_ (okc ?_ (okc ?_ (okc ?_ okn)))))))))), ?_⟩) (by kernel_rfl) rfl (gtL (by decide)) (by decide)
  all_goals first | (refine And.intro ?_ ?_ <;> ((try simp (disch := omega) only [SS, hw1, hw2, hw3]); (repeat' apply And.intro); (all_goals first | exact True.intro | with_reducible rfl | omega | (intros; first | exact True.intro | with_reducible rfl | omega | (simp_all; done)) | (simp_all; done) | rfl))) | (first | omega | (simp (disch := omega) only [SS, hw1, hw2, hw3]; first | done | omega) | (simp_all; done) | (simp_all; omega))

theorem esF2_p0 (t0 t1 : List UInt8) (s : List UInt8) (a : Nat) :
    isEnd (evTill Tryd.prog sumsES 300 (99) 900 140 [.code (bodyOf Tryd.f140)] (envOf [vP 63] Tryd.f140.ntmps) (sentEnts 23 213 [(5, t0), (6, t1)] ++ (rdW 63 s (a : Nat))) ⟨[.s false, .s true, .s false, .s false, .s false, .s true, .t, .s false, .s true, .s true, .s false, .t, .t, .s false, .s true, .s true, .s true], 80⟩) (endP ([]) (.tup [(false, .vi .u8 fun _ => (0 : Int)), (false, vErr 6)]) ([]) 300) =
    (OkL [(decide ((a : Int) ≥ (↑s.length : Int)), false), (decide ((0 : Int) ≤ (a : Int) ∧ (a : Int) < (↑s.length : Int)), true), ((↑(s.getD (a : Int).toNat (0 : UInt8)).toNat : Int) == 110, false), ((↑(s.getD (a : Int).toNat (0 : UInt8)).toNat : Int) == 114, false), ((↑(s.getD (a : Int).toNat (0 : UInt8)).toNat : Int) == 116, false), ((↑(s.getD (a : Int).toNat (0 : UInt8)).toNat : Int) == 120, true), (decide (IntKind.i64.wrap ((a : Int) + 1) ≥ (↑s.length : Int)), false), (decide ((0 : Int) ≤ IntKind.i64.wrap ((a : Int) + 1) ∧ IntKind.i64.wrap ((a : Int) + 1) < (↑s.length : Int)), true), (decide ((0 : Int) ≤ (↑(s.getD (IntKind.i64.wrap ((a : Int) + 1)).toNat (0 : UInt8)).toNat : Int) ∧ (↑(s.getD (IntKind.i64.wrap ((a : Int) + 1)).toNat (0 : UInt8)).toNat : Int) < 256), true), (decide (hexI (↑(s.getD (IntKind.i64.wrap ((a : Int) + 1)).toNat (0 : UInt8)).toNat : Int) < 0), false), (decide (IntKind.i64.wrap (IntKind.i64.wrap ((a : Int) + 1) + 1) ≥ (↑s.length : Int)), false), (decide ((0 : Int) ≤ IntKind.i64.wrap (IntKind.i64.wrap ((a : Int) + 1) + 1) ∧ IntKind.i64.wrap (IntKind.i64.wrap ((a : Int) + 1) + 1) < (↑s.length : Int)), true), (decide ((0 : Int) ≤ (↑(s.getD (IntKind.i64.wrap (IntKind.i64.wrap ((a : Int) + 1) + 1)).toNat (0 : UInt8)).toNat : Int) ∧ (↑(s.getD (IntKind.i64.wrap (IntKind.i64.wrap ((a : Int) + 1) + 1)).toNat (0 : UInt8)).toNat : Int) < 256), true), (decide (hexI (↑(s.getD (IntKind.i64.wrap (IntKind.i64.wrap ((a : Int) + 1) + 1)).toNat (0 : UInt8)).toNat : Int) < 0), true)] ∧ ((0 : Int) = (0 : Int) ∧ 0 = 0 ∧ True) ∧ True) := by kernel_rfl

set_option maxHeartbeats 4000000 in
theorem esF2 (t0 t1 : List UInt8) (s : List UInt8) (a : Nat) (ha : a < s.length) (hs : s.length ≤ 100000) (h : (s.getD a 0).toNat = 120) (h3 : a + 2 < s.length) (x1 : 0 ≤ hexI ((s.getD (a + 1) 0).toNat : Int)) (x2 : hexI ((s.getD (a + 2) 0).toNat : Int) < 0)  :
    RunsTo Tryd.prog 140 [.code (bodyOf Tryd.f140)] (envOf [vP 63] Tryd.f140.ntmps) (Sx.look (sentEnts 23 213 [(5, t0), (6, t1)] ++ (rdW 63 s (a : Nat)))) 80 (.tup [(false, .vi .u8 fun _ => (0 : Int)), (false, vErr 6)]) (Sx.look ([])) 300 := by
  have hw1 : IntKind.i64.wrap ((a : Int) + 1) = ((a + 1 : Nat) : Int) := by rw [wr64 (by omega)]; rfl
  have hw2 : IntKind.i64.wrap (((a + 1 : Nat) : Int) + 1) = ((a + 2 : Nat) : Int) := by rw [wr64 (by omega)]; omega
  have hw3 : IntKind.i64.wrap (((a + 2 : Nat) : Int) + 1) = ((a + 3 : Nat) : Int) := by rw [wr64 (by omega)]; omega
  have hb0 := u8nat (s.getD a 0)
  have hb1 := u8nat (s.getD (a + 1) 0)
  have hb2 := u8nat (s.getD (a + 2) 0)
  refine runs_last baseES (Sx.Ends.of (esF2_p0 t0 t1 s a) ⟨(okc ?_ (okc ?_ (okc ?_ (okc ?_ (okc ?_ (okc ?_ (okc ?_ (okc ?_ (okc ?_ (okc ?_ (okc ?_ (okc ?_ (okc ?_ (okc ?_ okn)))))))))))))), ?_⟩) (by kernel_rfl) rfl (gtL (by decide)) (by decide)
  all_goals first | (refine And.intro ?_ ?_ <;> ((try simp (disch := omega) only [SS, hw1, hw2, hw3]); (repeat' apply And.intro); (all_goals first | exact True.intro | with_reducible rfl | omega | (intros; first | exact True.intro | with_reducible rfl | omega | (simp_all; done)) | (simp_all; done) | rfl))) | (first | omega | (simp (disch := omega) only [SS, hw1, hw2, hw3]; first | done | omega) | (simp_all; done) | (simp_all; omega))

theorem esF_p0 (t0 t1 : List UInt8) (s : List UInt8) (a : Nat) :
    isEnd (evTill Tryd.prog sumsES 300 (99) 900 140 [.code (bodyOf Tryd.f140)] (envOf [vP 63] Tryd.f140.ntmps) (sentEnts 23 213 [(5, t0), (6, t1)] ++ (rdW 63 s (a : Nat))) ⟨[.s false, .s true, .s false, .s false, .s false, .s false, .s false, .s false, .s false], 80⟩) (endP ([]) (.tup [(false, .vi .u8 fun _ => (0 : Int)), (false, vErr 6)]) ([]) 300) =
    (OkL [(decide ((a : Int) ≥ (↑s.length : Int)), false), (decide ((0 : Int) ≤ (a : Int) ∧ (a : Int) < (↑s.length : Int)), true), ((↑(s.getD (a : Int).toNat (0 : UInt8)).toNat : Int) == 110, false), ((↑(s.getD (a : Int).toNat (0 : UInt8)).toNat : Int) == 114, false), ((↑(s.getD (a : Int).toNat (0 : UInt8)).toNat : Int) == 116, false), ((↑(s.getD (a : Int).toNat (0 : UInt8)).toNat : Int) == 120, false), ((↑(s.getD (a : Int).toNat (0 : UInt8)).toNat : Int) == 92, false), ((↑(s.getD (a : Int).toNat (0 : UInt8)).toNat : Int) == 34, false), ((↑(s.getD (a : Int).toNat (0 : UInt8)).toNat : Int) == 36, false)] ∧ ((0 : Int) = (0 : Int) ∧ 0 = 0 ∧ True) ∧ True) := by kernel_rfl

set_option maxHeartbeats 4000000 in
theorem esF (t0 t1 : List UInt8) (s : List UInt8) (a : Nat) (ha : a < s.length) (hs : s.length ≤ 100000) (d1 : (s.getD a 0).toNat ≠ 110) (d2 : (s.getD a 0).toNat ≠ 114) (d3 : (s.getD a 0).toNat ≠ 116) (d4 : (s.getD a 0).toNat ≠ 120) (d5 : (s.getD a 0).toNat ≠ 92) (d6 : (s.getD a 0).toNat ≠ 34) (d7 : (s.getD a 0).toNat ≠ 36)  :
    RunsTo Tryd.prog 140 [.code (bodyOf Tryd.f140)] (envOf [vP 63] Tryd.f140.ntmps) (Sx.look (sentEnts 23 213 [(5, t0), (6, t1)] ++ (rdW 63 s (a : Nat)))) 80 (.tup [(false, .vi .u8 fun _ => (0 : Int)), (false, vErr 6)]) (Sx.look ([])) 300 := by
  have hw1 : IntKind.i64.wrap ((a : Int) + 1) = ((a + 1 : Nat) : Int) := by rw [wr64 (by omega)]; rfl
  have hw2 : IntKind.i64.wrap (((a + 1 : Nat) : Int) + 1) = ((a + 2 : Nat) : Int) := by rw [wr64 (by omega)]; omega
  have hw3 : IntKind.i64.wrap (((a + 2 : Nat) : Int) + 1) = ((a + 3 : Nat) : Int) := by rw [wr64 (by omega)]; omega
  have hb0 := u8nat (s.getD a 0)
  have hb1 := u8nat (s.getD (a + 1) 0)
  have hb2 := u8nat (s.getD (a + 2) 0)
  refine runs_last baseES (Sx.Ends.of (esF_p0 t0 t1 s a) ⟨(okc ?_ (okc ?_ (okc ?_ (okc ?_ (okc ?_ (okc ?_ (okc ?_ (okc ?_ (okc ?_ okn))))))))), ?_⟩) (by kernel_rfl) rfl (gtL (by decide)) (by decide)
  all_goals first | (refine And.intro ?_ ?_ <;> ((try simp (disch := omega) only [SS, hw1, hw2, hw3]); (repeat' apply And.intro); (all_goals first | exact True.intro | with_reducible rfl | omega | (intros; first | exact True.intro | with_reducible rfl | omega | (simp_all; done)) | (simp_all; done) | rfl))) | (first | omega | (simp (disch := omega) only [SS, hw1, hw2, hw3]; first | done | omega) | (simp_all; done) | (simp_all; omega))

end Go.Proofs.YtaleenklamognaaDoor

set_option linter.unusedSimpArgs false
set_option linter.unusedVariables false
set_option maxRecDepth 100000
namespace Go.Proofs.YtaleenklamognaaDoor
open Go.Sx

open WordR
theorem nat_ne {c k : UInt8} (h : c ≠ k) : c.toNat ≠ k.toNat := fun e => h (UInt8.toNat_inj.1 e)
theorem u8nat' (c : UInt8) : UInt8.ofNat c.toNat = c := by simp
theorem esT (t0 t1 s : List UInt8) (a : Nat) (ha : a ≤ s.length) (hs : s.length ≤ 100000) : match escR (s.drop a) with
    | .byte c n => RunsTo Tryd.prog 140 [.code (bodyOf Tryd.f140)] (envOf [vP 63] Tryd.f140.ntmps) (Sx.look (sentEnts 23 213 [(5, t0), (6, t1)] ++ (rdW 63 s (a : Nat)))) 80 (.tup [(false, .vi .u8 fun _ => (c.toNat : Int)), (false, .ve0)]) (Sx.look (rdW 63 s (a + (n - 1) : Nat))) 300
    | .var _ _ => False
    | .err e => (e = 3 ∧ RunsTo Tryd.prog 140 [.code (bodyOf Tryd.f140)] (envOf [vP 63] Tryd.f140.ntmps) (Sx.look (sentEnts 23 213 [(5, t0), (6, t1)] ++ (rdW 63 s (a : Nat)))) 80 (.tup [(false, .vi .u8 fun _ => (0 : Int)), (false, vErr 5)]) (Sx.look ([])) 300) ∨ (e = 5 ∧ RunsTo Tryd.prog 140 [.code (bodyOf Tryd.f140)] (envOf [vP 63] Tryd.f140.ntmps) (Sx.look (sentEnts 23 213 [(5, t0), (6, t1)] ++ (rdW 63 s (a : Nat)))) 80 (.tup [(false, .vi .u8 fun _ => (0 : Int)), (false, vErr 6)]) (Sx.look ([])) 300) := by
  by_cases hl : s.length ≤ a
  · rw [List.drop_eq_nil_of_le hl]
    exact .inl ⟨rfl, esE t0 t1 s a (by omega) hs⟩
  have hl : a < s.length := by omega
  rw [drop_at s hl, escR]
  by_cases d1 : s.getD a 0 = 110
  · rw [if_pos d1]; exact esN t0 t1 s a hl hs (by rw [d1]; rfl)
  rw [if_neg d1]
  by_cases d2 : s.getD a 0 = 114
  · rw [if_pos d2]; exact esR t0 t1 s a hl hs (by rw [d2]; rfl)
  rw [if_neg d2]
  by_cases d3 : s.getD a 0 = 116
  · rw [if_pos d3]; exact esTb t0 t1 s a hl hs (by rw [d3]; rfl)
  rw [if_neg d3]
  by_cases d4 : s.getD a 0 = 120
  · rw [if_pos d4]
    have d4 : (s.getD a 0).toNat = 120 := by rw [d4]; rfl
    by_cases h1 : s.length ≤ a + 1
    · rw [List.drop_eq_nil_of_le h1]
      exact .inl ⟨rfl, esE1 t0 t1 s a hl hs d4 (by omega)⟩
    have h1 : a + 1 < s.length := by omega
    rw [drop_at s h1]
    by_cases h2 : s.length ≤ a + 2
    · rw [List.drop_eq_nil_of_le h2, hexR]
      by_cases x1 : hexI (nat (s.getD (a + 1) 0)) < 0
      · rw [if_pos x1]; exact .inr ⟨rfl, esF1 t0 t1 s a hl hs d4 h1 x1⟩
      · rw [if_neg x1]; exact .inl ⟨rfl, esE2 t0 t1 s a hl hs d4 (by omega) (by unfold nat at x1; omega)⟩
    have h2 : a + 2 < s.length := by omega
    rw [drop_at s h2, hexR]
    by_cases x1 : hexI (nat (s.getD (a + 1) 0)) < 0
    · rw [if_pos x1]; exact .inr ⟨rfl, esF1 t0 t1 s a hl hs d4 h1 x1⟩
    rw [if_neg x1]
    by_cases x2 : hexI (nat (s.getD (a + 2) 0)) < 0
    · rw [if_pos x2]; exact .inr ⟨rfl, esF2 t0 t1 s a hl hs d4 h2 (by unfold nat at x1; omega) x2⟩
    rw [if_neg x2]
    unfold nat at x1 x2
    have q := esX t0 t1 s a hl hs d4 h2 (by omega) (by omega)
    have l1 := hexI_lt ((s.getD (a + 1) 0).toNat : Int)
    have l2 := hexI_lt ((s.getD (a + 2) 0).toNat : Int)
    have e : (((UInt8.ofNat (16 * hexI (nat (s.getD (a + 1) 0)) + hexI (nat (s.getD (a + 2) 0))).toNat).toNat : Nat) : Int) = 16 * hexI ((s.getD (a + 1) 0).toNat : Int) + hexI ((s.getD (a + 2) 0).toNat : Int) := u8of (by unfold nat; omega)
    simp only [e]
    exact q
  rw [if_neg d4]
  by_cases d5 : s.getD a 0 = 92 ∨ s.getD a 0 = 34 ∨ s.getD a 0 = 36
  · rw [if_pos d5]
    exact esB t0 t1 s a hl hs (by rcases d5 with e | e | e <;> rw [e] <;> decide)
  rw [if_neg d5]
  exact .inr ⟨rfl, esF t0 t1 s a hl hs (nat_ne d1) (nat_ne d2) (nat_ne d3) (nat_ne d4) (nat_ne fun e => d5 (.inl e)) (nat_ne fun e => d5 (.inr (.inl e))) (nat_ne fun e => d5 (.inr (.inr e)))⟩
theorem esOkT (t0 t1 : List UInt8) (s : List UInt8) (a : Nat) (ha : a ≤ s.length) (hs : s.length ≤ 100000) (h : isBy (escR (s.drop a)) = true) : RunsTo Tryd.prog 140 [.code (bodyOf Tryd.f140)] (envOf [vP 63] Tryd.f140.ntmps) (Sx.look (sentEnts 23 213 [(5, t0), (6, t1)] ++ (rdW 63 s (a : Nat)))) 80 (.tup [(false, .vi .u8 fun _ => ((byC (escR (s.drop a))).toNat : Int)), (false, .ve0)]) (Sx.look (rdW 63 s (a + (o1N (escR (s.drop a)) - 1) : Nat))) 300 := by
  have q := esT t0 t1 s a ha hs
  cases hz : escR (s.drop a) with
  | byte c n => rw [hz] at q; exact q
  | var x n =>
    rw [hz] at h; cases h
  | err e =>
    rw [hz] at h; cases h
theorem esShT (t0 t1 : List UInt8) (s : List UInt8) (a : Nat) (ha : a ≤ s.length) (hs : s.length ≤ 100000) (h : isEr 3 (escR (s.drop a)) = true) : RunsTo Tryd.prog 140 [.code (bodyOf Tryd.f140)] (envOf [vP 63] Tryd.f140.ntmps) (Sx.look (sentEnts 23 213 [(5, t0), (6, t1)] ++ (rdW 63 s (a : Nat)))) 80 (.tup [(false, .vi .u8 fun _ => (0 : Int)), (false, vErr 5)]) (Sx.look ([])) 300 := by
  have q := esT t0 t1 s a ha hs
  cases hz : escR (s.drop a) with
  | byte c n =>
    rw [hz] at h; cases h
  | var x n =>
    rw [hz] at h; cases h
  | err e =>
    rw [hz] at h q
    have he : e = 3 := by simpa [isEr] using h
    subst he
    simpa using q
theorem esFoT (t0 t1 : List UInt8) (s : List UInt8) (a : Nat) (ha : a ≤ s.length) (hs : s.length ≤ 100000) (h : isEr 5 (escR (s.drop a)) = true) : RunsTo Tryd.prog 140 [.code (bodyOf Tryd.f140)] (envOf [vP 63] Tryd.f140.ntmps) (Sx.look (sentEnts 23 213 [(5, t0), (6, t1)] ++ (rdW 63 s (a : Nat)))) 80 (.tup [(false, .vi .u8 fun _ => (0 : Int)), (false, vErr 6)]) (Sx.look ([])) 300 := by
  have q := esT t0 t1 s a ha hs
  cases hz : escR (s.drop a) with
  | byte c n =>
    rw [hz] at h; cases h
  | var x n =>
    rw [hz] at h; cases h
  | err e =>
    rw [hz] at h q
    have he : e = 5 := by simpa [isEr] using h
    subst he
    simpa using q
def esOkP : PC := { args := [.v (.vp 63)], heap := [⟨63, true, 2, .tc (.vs 0) (.tc (.vi .i64 1) .t0)⟩], gs := [5, 6], G := 23, tp := 213, n := 80, n' := 300, cond := fun e => decide (0 ≤ eI e 1 []) && (decide ((eI e 1 []).toNat ≤ (eS e 0 []).length) && (decide ((eS e 0 []).length ≤ 100000) && isBy (escR ((eS e 0 []).drop (eI e 1 []).toNat)))), v := fun e => .tup [(false, .vi .u8 fun _ => ((byC (escR ((eS e 0 []).drop (eI e 1 []).toNat))).toNat : Int)), (false, .ve0)], post := fun e => rdW 63 (eS e 0 []) ((eI e 1 []).toNat + (o1N (escR ((eS e 0 []).drop (eI e 1 []).toNat)) - 1) : Nat) }
theorem esOkP_pc : PC.Runs Tryd.prog 140 Tryd.f140 (bodyOf Tryd.f140) esOkP := ⟨Tryd.func140, by kernel_rfl, (fun g hg => by first | (cases hg; done) | (revert g; show ∀ g ∈ ([5, 6] : List Nat), g < 23; decide)), fun e H hc => by
  have hc : (decide (0 ≤ eI e 1 []) && (decide ((eI e 1 []).toNat ≤ (eS e 0 []).length) && (decide ((eS e 0 []).length ≤ 100000) && isBy (escR ((eS e 0 []).drop (eI e 1 []).toNat))))) = true := hc
  try simp only [Bool.and_eq_true, decide_eq_true_eq, Nat.beq_eq] at hc
  exact by obtain ⟨h1, h2, h3, h4⟩ := hc; have hj : ((eI e 1 []).toNat : Int) = eI e 1 [] := Int.toNat_of_nonneg h1; have q := esOkT (textAt H 28) (textAt H 29) (eS e 0 []) (eI e 1 []).toNat h2 h3 h4; rw [hj] at q; exact q⟩
def esShP : PC := { args := [.v (.vp 63)], heap := [⟨63, true, 2, .tc (.vs 0) (.tc (.vi .i64 1) .t0)⟩], gs := [5, 6], G := 23, tp := 213, n := 80, n' := 300, cond := fun e => decide (0 ≤ eI e 1 []) && (decide ((eI e 1 []).toNat ≤ (eS e 0 []).length) && (decide ((eS e 0 []).length ≤ 100000) && isEr 3 (escR ((eS e 0 []).drop (eI e 1 []).toNat)))), v := fun e => .tup [(false, .vi .u8 fun _ => (0 : Int)), (false, vErr 5)], post := fun e => [] }
theorem esShP_pc : PC.Runs Tryd.prog 140 Tryd.f140 (bodyOf Tryd.f140) esShP := ⟨Tryd.func140, by kernel_rfl, (fun g hg => by first | (cases hg; done) | (revert g; show ∀ g ∈ ([5, 6] : List Nat), g < 23; decide)), fun e H hc => by
  have hc : (decide (0 ≤ eI e 1 []) && (decide ((eI e 1 []).toNat ≤ (eS e 0 []).length) && (decide ((eS e 0 []).length ≤ 100000) && isEr 3 (escR ((eS e 0 []).drop (eI e 1 []).toNat))))) = true := hc
  try simp only [Bool.and_eq_true, decide_eq_true_eq, Nat.beq_eq] at hc
  exact by obtain ⟨h1, h2, h3, h4⟩ := hc; have hj : ((eI e 1 []).toNat : Int) = eI e 1 [] := Int.toNat_of_nonneg h1; have q := esShT (textAt H 28) (textAt H 29) (eS e 0 []) (eI e 1 []).toNat h2 h3 h4; rw [hj] at q; exact q⟩
def esFoP : PC := { args := [.v (.vp 63)], heap := [⟨63, true, 2, .tc (.vs 0) (.tc (.vi .i64 1) .t0)⟩], gs := [5, 6], G := 23, tp := 213, n := 80, n' := 300, cond := fun e => decide (0 ≤ eI e 1 []) && (decide ((eI e 1 []).toNat ≤ (eS e 0 []).length) && (decide ((eS e 0 []).length ≤ 100000) && isEr 5 (escR ((eS e 0 []).drop (eI e 1 []).toNat)))), v := fun e => .tup [(false, .vi .u8 fun _ => (0 : Int)), (false, vErr 6)], post := fun e => [] }
theorem esFoP_pc : PC.Runs Tryd.prog 140 Tryd.f140 (bodyOf Tryd.f140) esFoP := ⟨Tryd.func140, by kernel_rfl, (fun g hg => by first | (cases hg; done) | (revert g; show ∀ g ∈ ([5, 6] : List Nat), g < 23; decide)), fun e H hc => by
  have hc : (decide (0 ≤ eI e 1 []) && (decide ((eI e 1 []).toNat ≤ (eS e 0 []).length) && (decide ((eS e 0 []).length ≤ 100000) && isEr 5 (escR ((eS e 0 []).drop (eI e 1 []).toNat))))) = true := hc
  try simp only [Bool.and_eq_true, decide_eq_true_eq, Nat.beq_eq] at hc
  exact by obtain ⟨h1, h2, h3, h4⟩ := hc; have hj : ((eI e 1 []).toNat : Int) = eI e 1 [] := Int.toNat_of_nonneg h1; have q := esFoT (textAt H 28) (textAt H 29) (eS e 0 []) (eI e 1 []).toNat h2 h3 h4; rw [hj] at q; exact q⟩
def sumsVO : List (FuncId × Summ) := [(90, nmOkP.summ 46), (66, bgP.summ 46), (91, fgP.summ 46)]
theorem baseVO : Base0 Tryd.prog sumsVO := (((baseO.cons Tryd.func91 (by kernel_rfl) (PC.summ_ok fgP_pc gtopG)).cons Tryd.func66 (by kernel_rfl) (PC.summ_ok bgP_pc gtopG)).cons Tryd.func90 (by kernel_rfl) (PC.summ_ok nmOkP_pc gtopG))
def sumsVL : List (FuncId × Summ) := [(90, nmLoP.summ 46), (66, bgP.summ 46), (91, fgP.summ 46)]
theorem baseVL : Base0 Tryd.prog sumsVL := (((baseO.cons Tryd.func91 (by kernel_rfl) (PC.summ_ok fgP_pc gtopG)).cons Tryd.func66 (by kernel_rfl) (PC.summ_ok bgP_pc gtopG)).cons Tryd.func90 (by kernel_rfl) (PC.summ_ok nmLoP_pc gtopG))
theorem vrE_p0 (t0 t1 t2 : List UInt8) (s : List UInt8) (a : Nat) :
    isEnd (evTill Tryd.prog sumsVO 300 (99) 900 139 [.code (bodyOf Tryd.f139)] (envOf [vP 63] Tryd.f139.ntmps) (sentEnts 23 213 [(5, t0), (6, t1), (0, t2)] ++ (rdW 63 s (a : Nat))) ⟨[.s true, .s true], 80⟩) (endP ([]) (.tup [(true, .tc (.vs fun _ => []) (.tc (.vs fun _ => []) .t0)), (false, vErr 5)]) ([]) 700) =
    (OkL [(decide (IntKind.i64.wrap ((a : Int) + 0) ≥ (↑s.length : Int)), true), (decide ((a : Int) ≥ (↑s.length : Int)), true)] ∧ ((([] : List UInt8) = [] ∧ ([] : List UInt8) = []) ∧ 0 = 0 ∧ True) ∧ True) := by kernel_rfl

set_option maxHeartbeats 4000000 in
theorem vrE (t0 t1 t2 : List UInt8) (s : List UInt8) (a : Nat) (ha : a = s.length) (hs : s.length ≤ 100000)  :
    RunsTo Tryd.prog 139 [.code (bodyOf Tryd.f139)] (envOf [vP 63] Tryd.f139.ntmps) (Sx.look (sentEnts 23 213 [(5, t0), (6, t1), (0, t2)] ++ (rdW 63 s (a : Nat)))) 80 (.tup [(true, .tc (.vs fun _ => []) (.tc (.vs fun _ => []) .t0)), (false, vErr 5)]) (Sx.look ([])) 700 := by
  have hw1 : IntKind.i64.wrap ((a : Int) + 1) = ((a + 1 : Nat) : Int) := by rw [wr64 (by omega)]; rfl
  have hw2 : IntKind.i64.wrap (((a + 1 : Nat) : Int) + 1) = ((a + 2 : Nat) : Int) := by rw [wr64 (by omega)]; omega
  have hw3 : IntKind.i64.wrap (((a + 2 : Nat) : Int) + 1) = ((a + 3 : Nat) : Int) := by rw [wr64 (by omega)]; omega
  have hb0 := u8nat (s.getD a 0)
  have hb1 := u8nat (s.getD (a + 1) 0)
  have hb2 := u8nat (s.getD (a + 2) 0)
  have hl := span_le' goI s (show a ≤ s.length by omega)
  have htl : (txt s a (spanR goI (s.drop a))).length = spanR goI (s.drop a) := by simp only [txt, List.length_drop, List.length_take]; omega
  have hz : IntKind.i64.wrap ((a : Int) + 0) = (a : Int) := by rw [wr64 (by omega)]; omega
  refine runs_last baseVO (Sx.Ends.of (vrE_p0 t0 t1 t2 s a) ⟨(okc ?_ (okc ?_ okn)), ?_⟩) (by kernel_rfl) rfl (gtL (by decide)) (by decide)
  all_goals first | (refine And.intro ?_ ?_ <;> ((try simp (disch := omega) only [SS, hw1, hw2, hw3, htl, hz]); (repeat' apply And.intro); (all_goals first | exact True.intro | with_reducible rfl | omega | (intros; first | exact True.intro | with_reducible rfl | omega | (simp_all; done)) | (simp_all; done) | rfl))) | (first | omega | (simp (disch := omega) only [SS, hw1, hw2, hw3, htl, hz]; first | done | omega) | (simp_all; done) | (simp_all; omega))

theorem vrD_p0 (t0 t1 t2 : List UInt8) (s : List UInt8) (a : Nat) :
    isEnd (evTill Tryd.prog sumsVO 300 (99) 900 139 [.code (bodyOf Tryd.f139)] (envOf [vP 63] Tryd.f139.ntmps) (sentEnts 23 213 [(5, t0), (6, t1), (0, t2)] ++ (rdW 63 s (a : Nat))) ⟨[.s false, .s true, .s false, .t, .s true, .t], 80⟩) (endP ([]) (.tup [(true, .tc (.vs fun _ => [s.getD a 0]) (.tc (.vs fun _ => []) .t0)), (false, .ve0)]) (rdW 63 s (a + 1 : Nat)) 700) =
    (OkL [(decide (IntKind.i64.wrap ((a : Int) + 0) ≥ (↑s.length : Int)), false), (decide ((0 : Int) ≤ IntKind.i64.wrap ((a : Int) + 0) ∧ IntKind.i64.wrap ((a : Int) + 0) < (↑s.length : Int)), true), (decide ((a : Int) ≥ (↑s.length : Int)), false), (figI (↑(s.getD (IntKind.i64.wrap ((a : Int) + 0)).toNat (0 : UInt8)).toNat : Int), true)] ∧ (([s.getD a (0 : UInt8)] = bytesOf (fun is => (↑(s.getD (IntKind.i64.wrap ((a : Int) + 0)).toNat (0 : UInt8)).toNat : Int)) [] (0 : Nat) (1 : Nat) ∧ ([] : List UInt8) = []) ∧ True ∧ True) ∧ s = s ∧ (↑(a + (1 : Nat)) : Int) = IntKind.i64.wrap ((a : Int) + 1)) := by kernel_rfl

set_option maxHeartbeats 4000000 in
theorem vrD (t0 t1 t2 : List UInt8) (s : List UInt8) (a : Nat) (ha : a < s.length) (hs : s.length ≤ 100000) (h : figI ((s.getD a 0).toNat : Int) = true)  :
    RunsTo Tryd.prog 139 [.code (bodyOf Tryd.f139)] (envOf [vP 63] Tryd.f139.ntmps) (Sx.look (sentEnts 23 213 [(5, t0), (6, t1), (0, t2)] ++ (rdW 63 s (a : Nat)))) 80 (.tup [(true, .tc (.vs fun _ => [s.getD a 0]) (.tc (.vs fun _ => []) .t0)), (false, .ve0)]) (Sx.look (rdW 63 s (a + 1 : Nat))) 700 := by
  have hw1 : IntKind.i64.wrap ((a : Int) + 1) = ((a + 1 : Nat) : Int) := by rw [wr64 (by omega)]; rfl
  have hw2 : IntKind.i64.wrap (((a + 1 : Nat) : Int) + 1) = ((a + 2 : Nat) : Int) := by rw [wr64 (by omega)]; omega
  have hw3 : IntKind.i64.wrap (((a + 2 : Nat) : Int) + 1) = ((a + 3 : Nat) : Int) := by rw [wr64 (by omega)]; omega
  have hb0 := u8nat (s.getD a 0)
  have hb1 := u8nat (s.getD (a + 1) 0)
  have hb2 := u8nat (s.getD (a + 2) 0)
  have hl := span_le' goI s (show a ≤ s.length by omega)
  have htl : (txt s a (spanR goI (s.drop a))).length = spanR goI (s.drop a) := by simp only [txt, List.length_drop, List.length_take]; omega
  have hz : IntKind.i64.wrap ((a : Int) + 0) = (a : Int) := by rw [wr64 (by omega)]; omega
  refine runs_last baseVO (Sx.Ends.of (vrD_p0 t0 t1 t2 s a) ⟨(okc ?_ (okc ?_ (okc ?_ (okc ?_ okn)))), ?_⟩) (by kernel_rfl) rfl (gtL (by decide)) (by decide)
  all_goals first | (refine And.intro ?_ ?_ <;> ((try simp (disch := omega) only [SS, hw1, hz]); (repeat' apply And.intro); (all_goals first | exact True.intro | with_reducible rfl | omega | (simp [bytesOf, upd]; done) | (simp_all [bytesOf, upd]; done)))) | (first | omega | (simp (disch := omega) only [SS, hw1, hw2, hw3, htl, hz]; first | done | omega) | (simp_all; done) | (simp_all; omega))

theorem vrF_p0 (t0 t1 t2 : List UInt8) (s : List UInt8) (a : Nat) :
    isEnd (evTill Tryd.prog sumsVO 300 (99) 900 139 [.code (bodyOf Tryd.f139)] (envOf [vP 63] Tryd.f139.ntmps) (sentEnts 23 213 [(5, t0), (6, t1), (0, t2)] ++ (rdW 63 s (a : Nat))) ⟨[.s false, .s true, .s false, .t, .s false, .t, .s true], 80⟩) (endP ([]) (.tup [(true, .tc (.vs fun _ => []) (.tc (.vs fun _ => []) .t0)), (false, vErr 6)]) ([]) 700) =
    (OkL [(decide (IntKind.i64.wrap ((a : Int) + 0) ≥ (↑s.length : Int)), false), (decide ((0 : Int) ≤ IntKind.i64.wrap ((a : Int) + 0) ∧ IntKind.i64.wrap ((a : Int) + 0) < (↑s.length : Int)), true), (decide ((a : Int) ≥ (↑s.length : Int)), false), (figI (↑(s.getD (IntKind.i64.wrap ((a : Int) + 0)).toNat (0 : UInt8)).toNat : Int), false), (!ltrI (↑(s.getD (IntKind.i64.wrap ((a : Int) + 0)).toNat (0 : UInt8)).toNat : Int), true)] ∧ ((([] : List UInt8) = [] ∧ ([] : List UInt8) = []) ∧ 0 = 0 ∧ True) ∧ True) := by kernel_rfl

set_option maxHeartbeats 4000000 in
theorem vrF (t0 t1 t2 : List UInt8) (s : List UInt8) (a : Nat) (ha : a < s.length) (hs : s.length ≤ 100000) (h : figI ((s.getD a 0).toNat : Int) = false) (h2 : ltrI ((s.getD a 0).toNat : Int) = false)  :
    RunsTo Tryd.prog 139 [.code (bodyOf Tryd.f139)] (envOf [vP 63] Tryd.f139.ntmps) (Sx.look (sentEnts 23 213 [(5, t0), (6, t1), (0, t2)] ++ (rdW 63 s (a : Nat)))) 80 (.tup [(true, .tc (.vs fun _ => []) (.tc (.vs fun _ => []) .t0)), (false, vErr 6)]) (Sx.look ([])) 700 := by
  have hw1 : IntKind.i64.wrap ((a : Int) + 1) = ((a + 1 : Nat) : Int) := by rw [wr64 (by omega)]; rfl
  have hw2 : IntKind.i64.wrap (((a + 1 : Nat) : Int) + 1) = ((a + 2 : Nat) : Int) := by rw [wr64 (by omega)]; omega
  have hw3 : IntKind.i64.wrap (((a + 2 : Nat) : Int) + 1) = ((a + 3 : Nat) : Int) := by rw [wr64 (by omega)]; omega
  have hb0 := u8nat (s.getD a 0)
  have hb1 := u8nat (s.getD (a + 1) 0)
  have hb2 := u8nat (s.getD (a + 2) 0)
  have hl := span_le' goI s (show a ≤ s.length by omega)
  have htl : (txt s a (spanR goI (s.drop a))).length = spanR goI (s.drop a) := by simp only [txt, List.length_drop, List.length_take]; omega
  have hz : IntKind.i64.wrap ((a : Int) + 0) = (a : Int) := by rw [wr64 (by omega)]; omega
  refine runs_last baseVO (Sx.Ends.of (vrF_p0 t0 t1 t2 s a) ⟨(okc ?_ (okc ?_ (okc ?_ (okc ?_ (okc ?_ okn))))), ?_⟩) (by kernel_rfl) rfl (gtL (by decide)) (by decide)
  all_goals first | (refine And.intro ?_ ?_ <;> ((try simp (disch := omega) only [SS, hw1, hw2, hw3, htl, hz]); (repeat' apply And.intro); (all_goals first | exact True.intro | with_reducible rfl | omega | (intros; first | exact True.intro | with_reducible rfl | omega | (simp_all; done)) | (simp_all; done) | rfl))) | (first | omega | (simp (disch := omega) only [SS, hw1, hw2, hw3, htl, hz]; first | done | omega) | (simp_all; done) | (simp_all; omega))

theorem vrN_p0 (t0 t1 t2 : List UInt8) (s : List UInt8) (a : Nat) :
    isEnd (evTill Tryd.prog sumsVO 300 (99) 900 139 [.code (bodyOf Tryd.f139)] (envOf [vP 63] Tryd.f139.ntmps) (sentEnts 23 213 [(5, t0), (6, t1), (0, t2)] ++ (rdW 63 s (a : Nat))) ⟨[.s false, .s true, .s false, .t, .s false, .t, .s false, .s true], 80⟩) (endP ([]) (.tup [(true, .tc (.vs fun _ => txt s a (spanR goI (s.drop a))) (.tc (.vs fun _ => []) .t0)), (false, .ve0)]) (rdW 63 s (a + spanR goI (s.drop a) : Nat)) 700) =
    (OkL [(decide (IntKind.i64.wrap ((a : Int) + 0) ≥ (↑s.length : Int)), false), (decide ((0 : Int) ≤ IntKind.i64.wrap ((a : Int) + 0) ∧ IntKind.i64.wrap ((a : Int) + 0) < (↑s.length : Int)), true), (decide ((a : Int) ≥ (↑s.length : Int)), false), (figI (↑(s.getD (IntKind.i64.wrap ((a : Int) + 0)).toNat (0 : UInt8)).toNat : Int), false), (!ltrI (↑(s.getD (IntKind.i64.wrap ((a : Int) + 0)).toNat (0 : UInt8)).toNat : Int), false), (decide ((0 : Int) ≤ (a : Int)) && (decide ((a : Int).toNat ≤ s.length) && (decide (s.length ≤ (100000 : Nat)) && decide (spanR goI (List.drop (a : Int).toNat s) ≤ (24 : Nat)))), true)] ∧ ((txt s a (spanR goI (List.drop a s)) = txt s (a : Int).toNat (spanR goI (List.drop (a : Int).toNat s)) ∧ ([] : List UInt8) = []) ∧ True ∧ True) ∧ s = s ∧ (↑(a + spanR goI (List.drop a s)) : Int) = (↑((a : Int).toNat + spanR goI (List.drop (a : Int).toNat s)) : Int)) := by kernel_rfl

set_option maxHeartbeats 4000000 in
theorem vrN (t0 t1 t2 : List UInt8) (s : List UInt8) (a : Nat) (ha : a < s.length) (hs : s.length ≤ 100000) (h : figI ((s.getD a 0).toNat : Int) = false) (h2 : ltrI ((s.getD a 0).toNat : Int) = true) (h3 : spanR goI (s.drop a) ≤ 24)  :
    RunsTo Tryd.prog 139 [.code (bodyOf Tryd.f139)] (envOf [vP 63] Tryd.f139.ntmps) (Sx.look (sentEnts 23 213 [(5, t0), (6, t1), (0, t2)] ++ (rdW 63 s (a : Nat)))) 80 (.tup [(true, .tc (.vs fun _ => txt s a (spanR goI (s.drop a))) (.tc (.vs fun _ => []) .t0)), (false, .ve0)]) (Sx.look (rdW 63 s (a + spanR goI (s.drop a) : Nat))) 700 := by
  have hw1 : IntKind.i64.wrap ((a : Int) + 1) = ((a + 1 : Nat) : Int) := by rw [wr64 (by omega)]; rfl
  have hw2 : IntKind.i64.wrap (((a + 1 : Nat) : Int) + 1) = ((a + 2 : Nat) : Int) := by rw [wr64 (by omega)]; omega
  have hw3 : IntKind.i64.wrap (((a + 2 : Nat) : Int) + 1) = ((a + 3 : Nat) : Int) := by rw [wr64 (by omega)]; omega
  have hb0 := u8nat (s.getD a 0)
  have hb1 := u8nat (s.getD (a + 1) 0)
  have hb2 := u8nat (s.getD (a + 2) 0)
  have hl := span_le' goI s (show a ≤ s.length by omega)
  have htl : (txt s a (spanR goI (s.drop a))).length = spanR goI (s.drop a) := by simp only [txt, List.length_drop, List.length_take]; omega
  have hz : IntKind.i64.wrap ((a : Int) + 0) = (a : Int) := by rw [wr64 (by omega)]; omega
  refine runs_last baseVO (Sx.Ends.of (vrN_p0 t0 t1 t2 s a) ⟨(okc ?_ (okc ?_ (okc ?_ (okc ?_ (okc ?_ (okc ?_ okn)))))), ?_⟩) (by kernel_rfl) rfl (gtL (by decide)) (by decide)
  all_goals first | (refine And.intro ?_ ?_ <;> ((try simp (disch := omega) only [SS, hw1, hw2, hw3, htl, hz]); (repeat' apply And.intro); (all_goals first | exact True.intro | with_reducible rfl | omega | (intros; first | exact True.intro | with_reducible rfl | omega | (simp_all; done)) | (simp_all; done) | rfl))) | (first | omega | (simp (disch := omega) only [SS, hw1, hw2, hw3, htl, hz]; first | done | omega) | (simp_all; done) | (simp_all; omega))

theorem vrL_p0 (t0 t1 t2 : List UInt8) (s : List UInt8) (a : Nat) :
    isEnd (evTill Tryd.prog sumsVL 300 (99) 900 139 [.code (bodyOf Tryd.f139)] (envOf [vP 63] Tryd.f139.ntmps) (sentEnts 23 213 [(5, t0), (6, t1), (0, t2)] ++ (rdW 63 s (a : Nat))) ⟨[.s false, .s true, .s false, .t, .s false, .t, .s false, .s true], 80⟩) (endP ([]) (.tup [(true, .tc (.vs fun _ => []) (.tc (.vs fun _ => []) .t0)), (false, vErr 0)]) ([]) 700) =
    (OkL [(decide (IntKind.i64.wrap ((a : Int) + 0) ≥ (↑s.length : Int)), false), (decide ((0 : Int) ≤ IntKind.i64.wrap ((a : Int) + 0) ∧ IntKind.i64.wrap ((a : Int) + 0) < (↑s.length : Int)), true), (decide ((a : Int) ≥ (↑s.length : Int)), false), (figI (↑(s.getD (IntKind.i64.wrap ((a : Int) + 0)).toNat (0 : UInt8)).toNat : Int), false), (!ltrI (↑(s.getD (IntKind.i64.wrap ((a : Int) + 0)).toNat (0 : UInt8)).toNat : Int), false), (decide ((0 : Int) ≤ (a : Int)) && (decide ((a : Int).toNat ≤ s.length) && (decide (s.length ≤ (100000 : Nat)) && decide ((24 : Nat) < spanR goI (List.drop (a : Int).toNat s)))), true)] ∧ ((([] : List UInt8) = [] ∧ ([] : List UInt8) = []) ∧ 0 = 0 ∧ True) ∧ True) := by kernel_rfl

set_option maxHeartbeats 4000000 in
theorem vrL (t0 t1 t2 : List UInt8) (s : List UInt8) (a : Nat) (ha : a < s.length) (hs : s.length ≤ 100000) (h : figI ((s.getD a 0).toNat : Int) = false) (h2 : ltrI ((s.getD a 0).toNat : Int) = true) (h3 : 24 < spanR goI (s.drop a))  :
    RunsTo Tryd.prog 139 [.code (bodyOf Tryd.f139)] (envOf [vP 63] Tryd.f139.ntmps) (Sx.look (sentEnts 23 213 [(5, t0), (6, t1), (0, t2)] ++ (rdW 63 s (a : Nat)))) 80 (.tup [(true, .tc (.vs fun _ => []) (.tc (.vs fun _ => []) .t0)), (false, vErr 0)]) (Sx.look ([])) 700 := by
  have hw1 : IntKind.i64.wrap ((a : Int) + 1) = ((a + 1 : Nat) : Int) := by rw [wr64 (by omega)]; rfl
  have hw2 : IntKind.i64.wrap (((a + 1 : Nat) : Int) + 1) = ((a + 2 : Nat) : Int) := by rw [wr64 (by omega)]; omega
  have hw3 : IntKind.i64.wrap (((a + 2 : Nat) : Int) + 1) = ((a + 3 : Nat) : Int) := by rw [wr64 (by omega)]; omega
  have hb0 := u8nat (s.getD a 0)
  have hb1 := u8nat (s.getD (a + 1) 0)
  have hb2 := u8nat (s.getD (a + 2) 0)
  have hl := span_le' goI s (show a ≤ s.length by omega)
  have htl : (txt s a (spanR goI (s.drop a))).length = spanR goI (s.drop a) := by simp only [txt, List.length_drop, List.length_take]; omega
  have hz : IntKind.i64.wrap ((a : Int) + 0) = (a : Int) := by rw [wr64 (by omega)]; omega
  refine runs_last baseVL (Sx.Ends.of (vrL_p0 t0 t1 t2 s a) ⟨(okc ?_ (okc ?_ (okc ?_ (okc ?_ (okc ?_ (okc ?_ okn)))))), ?_⟩) (by kernel_rfl) rfl (gtL (by decide)) (by decide)
  all_goals first | (refine And.intro ?_ ?_ <;> ((try simp (disch := omega) only [SS, hw1, hw2, hw3, htl, hz]); (repeat' apply And.intro); (all_goals first | exact True.intro | with_reducible rfl | omega | (intros; first | exact True.intro | with_reducible rfl | omega | (simp_all; done)) | (simp_all; done) | rfl))) | (first | omega | (simp (disch := omega) only [SS, hw1, hw2, hw3, htl, hz]; first | done | omega) | (simp_all; done) | (simp_all; omega))

end Go.Proofs.YtaleenklamognaaDoor

set_option linter.unusedSimpArgs false
set_option linter.unusedVariables false
set_option maxRecDepth 100000
namespace Go.Proofs.YtaleenklamognaaDoor
open Go.Sx

open WordR
def zP : Pc := ⟨[], []⟩
def prV (P : List Pc) : Ix → List UInt8 := fun is => (P.getD (is.headD 0) zP).var
def prL (P : List Pc) : Ix → List UInt8 := fun is => (P.getD (is.headD 0) zP).lit
def prE (l : Nat) (P : List Pc) : List Ent := [⟨l, true, none, 2, .ta P.length (.tc (.vs (prV P)) (.tc (.vs (prL P)) .t0))⟩]
def pcsOf (n : Nat) (V L : Ix → List UInt8) : List Pc := (List.range n).map fun i => ⟨V [i], L [i]⟩
def u8o (n : Int) : UInt8 := UInt8.ofNat n.toNat
def prR (l M : Nat) (V L : Ix → List UInt8) : List Ent := [⟨l, true, none, 2, .ta M (.tc (.vs V) (.tc (.vs L) .t0))⟩]
/-- The first piece that is too long. -/
def ixL (L : Ix → List UInt8) : Nat → Nat → Int
  | 0, _ => -1
  | k + 1, i => if 400 < (L [i]).length then (i : Int) else ixL L k (i + 1)
theorem vrT (t0 t1 t2 s : List UInt8) (a : Nat) (ha : a ≤ s.length) (hs : s.length ≤ 100000) : match varR (s.drop a) with
    | .var x n => RunsTo Tryd.prog 139 [.code (bodyOf Tryd.f139)] (envOf [vP 63] Tryd.f139.ntmps) (Sx.look (sentEnts 23 213 [(5, t0), (6, t1), (0, t2)] ++ (rdW 63 s (a : Nat)))) 80 (.tup [(true, .tc (.vs fun _ => x) (.tc (.vs fun _ => []) .t0)), (false, .ve0)]) (Sx.look (rdW 63 s (a + (n - 1) : Nat))) 700
    | .byte _ _ => False
    | .err e => (e = 3 ∧ RunsTo Tryd.prog 139 [.code (bodyOf Tryd.f139)] (envOf [vP 63] Tryd.f139.ntmps) (Sx.look (sentEnts 23 213 [(5, t0), (6, t1), (0, t2)] ++ (rdW 63 s (a : Nat)))) 80 (.tup [(true, .tc (.vs fun _ => []) (.tc (.vs fun _ => []) .t0)), (false, vErr 5)]) (Sx.look ([])) 700) ∨ (e = 5 ∧ RunsTo Tryd.prog 139 [.code (bodyOf Tryd.f139)] (envOf [vP 63] Tryd.f139.ntmps) (Sx.look (sentEnts 23 213 [(5, t0), (6, t1), (0, t2)] ++ (rdW 63 s (a : Nat)))) 80 (.tup [(true, .tc (.vs fun _ => []) (.tc (.vs fun _ => []) .t0)), (false, vErr 6)]) (Sx.look ([])) 700) ∨ (e = 4 ∧ RunsTo Tryd.prog 139 [.code (bodyOf Tryd.f139)] (envOf [vP 63] Tryd.f139.ntmps) (Sx.look (sentEnts 23 213 [(5, t0), (6, t1), (0, t2)] ++ (rdW 63 s (a : Nat)))) 80 (.tup [(true, .tc (.vs fun _ => []) (.tc (.vs fun _ => []) .t0)), (false, vErr 0)]) (Sx.look ([])) 700) := by
  by_cases hl : s.length ≤ a
  · rw [List.drop_eq_nil_of_le hl]
    exact .inl ⟨rfl, vrE t0 t1 t2 s a (by omega) hs⟩
  have hl : a < s.length := by omega
  have hd := drop_at s hl
  have hv : varR (s.drop a) = if figI (nat (s.getD a 0)) = true then .var [s.getD a 0] 2 else if ltrI (nat (s.getD a 0)) = false then .err 5 else if 24 < spanR goI (s.drop a) then .err 4 else .var ((s.drop a).take (spanR goI (s.drop a))) (spanR goI (s.drop a) + 1) := by
    rw [hd]; rfl
  rw [hv]
  unfold nat
  cases hf : figI ((s.getD a 0).toNat : Int) with
  | true => exact vrD t0 t1 t2 s a hl hs hf
  | false =>
    rw [if_neg (by decide)]
    cases hr : ltrI ((s.getD a 0).toNat : Int) with
    | false => exact .inr (.inl ⟨rfl, vrF t0 t1 t2 s a hl hs hf hr⟩)
    | true =>
      rw [if_neg (by decide)]
      by_cases h24 : 24 < spanR goI (s.drop a)
      · rw [if_pos h24]; exact .inr (.inr ⟨rfl, vrL t0 t1 t2 s a hl hs hf hr h24⟩)
      · rw [if_neg h24]
        have q := vrN t0 t1 t2 s a hl hs hf hr (by omega)
        unfold txt at q
        rw [take_drop] at q
        exact q
theorem vrOkT (t0 t1 t2 : List UInt8) (s : List UInt8) (a : Nat) (ha : a ≤ s.length) (hs : s.length ≤ 100000) (h : isVa (varR (s.drop a)) = true) : RunsTo Tryd.prog 139 [.code (bodyOf Tryd.f139)] (envOf [vP 63] Tryd.f139.ntmps) (Sx.look (sentEnts 23 213 [(5, t0), (6, t1), (0, t2)] ++ (rdW 63 s (a : Nat)))) 80 (.tup [(true, .tc (.vs fun _ => (vaX (varR (s.drop a)))) (.tc (.vs fun _ => []) .t0)), (false, .ve0)]) (Sx.look (rdW 63 s (a + (o1N (varR (s.drop a)) - 1) : Nat))) 700 := by
  have q := vrT t0 t1 t2 s a ha hs
  cases hz : varR (s.drop a) with
  | var x n => rw [hz] at q; exact q
  | byte c n =>
    rw [hz] at h; cases h
  | err e =>
    rw [hz] at h; cases h
theorem vrShT (t0 t1 t2 : List UInt8) (s : List UInt8) (a : Nat) (ha : a ≤ s.length) (hs : s.length ≤ 100000) (h : isEr 3 (varR (s.drop a)) = true) : RunsTo Tryd.prog 139 [.code (bodyOf Tryd.f139)] (envOf [vP 63] Tryd.f139.ntmps) (Sx.look (sentEnts 23 213 [(5, t0), (6, t1), (0, t2)] ++ (rdW 63 s (a : Nat)))) 80 (.tup [(true, .tc (.vs fun _ => []) (.tc (.vs fun _ => []) .t0)), (false, vErr 5)]) (Sx.look ([])) 700 := by
  have q := vrT t0 t1 t2 s a ha hs
  cases hz : varR (s.drop a) with
  | byte c n =>
    rw [hz] at h; cases h
  | var x n =>
    rw [hz] at h; cases h
  | err e =>
    rw [hz] at h q
    have he : e = 3 := by simpa [isEr] using h
    subst he
    simpa using q
theorem vrFoT (t0 t1 t2 : List UInt8) (s : List UInt8) (a : Nat) (ha : a ≤ s.length) (hs : s.length ≤ 100000) (h : isEr 5 (varR (s.drop a)) = true) : RunsTo Tryd.prog 139 [.code (bodyOf Tryd.f139)] (envOf [vP 63] Tryd.f139.ntmps) (Sx.look (sentEnts 23 213 [(5, t0), (6, t1), (0, t2)] ++ (rdW 63 s (a : Nat)))) 80 (.tup [(true, .tc (.vs fun _ => []) (.tc (.vs fun _ => []) .t0)), (false, vErr 6)]) (Sx.look ([])) 700 := by
  have q := vrT t0 t1 t2 s a ha hs
  cases hz : varR (s.drop a) with
  | byte c n =>
    rw [hz] at h; cases h
  | var x n =>
    rw [hz] at h; cases h
  | err e =>
    rw [hz] at h q
    have he : e = 5 := by simpa [isEr] using h
    subst he
    simpa using q
theorem vrLoT (t0 t1 t2 : List UInt8) (s : List UInt8) (a : Nat) (ha : a ≤ s.length) (hs : s.length ≤ 100000) (h : isEr 4 (varR (s.drop a)) = true) : RunsTo Tryd.prog 139 [.code (bodyOf Tryd.f139)] (envOf [vP 63] Tryd.f139.ntmps) (Sx.look (sentEnts 23 213 [(5, t0), (6, t1), (0, t2)] ++ (rdW 63 s (a : Nat)))) 80 (.tup [(true, .tc (.vs fun _ => []) (.tc (.vs fun _ => []) .t0)), (false, vErr 0)]) (Sx.look ([])) 700 := by
  have q := vrT t0 t1 t2 s a ha hs
  cases hz : varR (s.drop a) with
  | byte c n =>
    rw [hz] at h; cases h
  | var x n =>
    rw [hz] at h; cases h
  | err e =>
    rw [hz] at h q
    have he : e = 4 := by simpa [isEr] using h
    subst he
    simpa using q
def vrOkP : PC := { args := [.v (.vp 63)], heap := [⟨63, true, 2, .tc (.vs 0) (.tc (.vi .i64 1) .t0)⟩], gs := [5, 6, 0], G := 23, tp := 213, n := 80, n' := 700, cond := fun e => decide (0 ≤ eI e 1 []) && (decide ((eI e 1 []).toNat ≤ (eS e 0 []).length) && (decide ((eS e 0 []).length ≤ 100000) && isVa (varR ((eS e 0 []).drop (eI e 1 []).toNat)))), v := fun e => .tup [(true, .tc (.vs fun _ => (vaX (varR ((eS e 0 []).drop (eI e 1 []).toNat)))) (.tc (.vs fun _ => []) .t0)), (false, .ve0)], post := fun e => rdW 63 (eS e 0 []) ((eI e 1 []).toNat + (o1N (varR ((eS e 0 []).drop (eI e 1 []).toNat)) - 1) : Nat) }
theorem vrOkP_pc : PC.Runs Tryd.prog 139 Tryd.f139 (bodyOf Tryd.f139) vrOkP := ⟨Tryd.func139, by kernel_rfl, (fun g hg => by first | (cases hg; done) | (revert g; show ∀ g ∈ ([5, 6, 0] : List Nat), g < 23; decide)), fun e H hc => by
  have hc : (decide (0 ≤ eI e 1 []) && (decide ((eI e 1 []).toNat ≤ (eS e 0 []).length) && (decide ((eS e 0 []).length ≤ 100000) && isVa (varR ((eS e 0 []).drop (eI e 1 []).toNat))))) = true := hc
  try simp only [Bool.and_eq_true, decide_eq_true_eq, Nat.beq_eq] at hc
  exact by obtain ⟨h1, h2, h3, h4⟩ := hc; have hj : ((eI e 1 []).toNat : Int) = eI e 1 [] := Int.toNat_of_nonneg h1; have q := vrOkT (textAt H 28) (textAt H 29) (textAt H 23) (eS e 0 []) (eI e 1 []).toNat h2 h3 h4; rw [hj] at q; exact q⟩
def vrShP : PC := { args := [.v (.vp 63)], heap := [⟨63, true, 2, .tc (.vs 0) (.tc (.vi .i64 1) .t0)⟩], gs := [5, 6, 0], G := 23, tp := 213, n := 80, n' := 700, cond := fun e => decide (0 ≤ eI e 1 []) && (decide ((eI e 1 []).toNat ≤ (eS e 0 []).length) && (decide ((eS e 0 []).length ≤ 100000) && isEr 3 (varR ((eS e 0 []).drop (eI e 1 []).toNat)))), v := fun e => .tup [(true, .tc (.vs fun _ => []) (.tc (.vs fun _ => []) .t0)), (false, vErr 5)], post := fun e => [] }
theorem vrShP_pc : PC.Runs Tryd.prog 139 Tryd.f139 (bodyOf Tryd.f139) vrShP := ⟨Tryd.func139, by kernel_rfl, (fun g hg => by first | (cases hg; done) | (revert g; show ∀ g ∈ ([5, 6, 0] : List Nat), g < 23; decide)), fun e H hc => by
  have hc : (decide (0 ≤ eI e 1 []) && (decide ((eI e 1 []).toNat ≤ (eS e 0 []).length) && (decide ((eS e 0 []).length ≤ 100000) && isEr 3 (varR ((eS e 0 []).drop (eI e 1 []).toNat))))) = true := hc
  try simp only [Bool.and_eq_true, decide_eq_true_eq, Nat.beq_eq] at hc
  exact by obtain ⟨h1, h2, h3, h4⟩ := hc; have hj : ((eI e 1 []).toNat : Int) = eI e 1 [] := Int.toNat_of_nonneg h1; have q := vrShT (textAt H 28) (textAt H 29) (textAt H 23) (eS e 0 []) (eI e 1 []).toNat h2 h3 h4; rw [hj] at q; exact q⟩
def vrFoP : PC := { args := [.v (.vp 63)], heap := [⟨63, true, 2, .tc (.vs 0) (.tc (.vi .i64 1) .t0)⟩], gs := [5, 6, 0], G := 23, tp := 213, n := 80, n' := 700, cond := fun e => decide (0 ≤ eI e 1 []) && (decide ((eI e 1 []).toNat ≤ (eS e 0 []).length) && (decide ((eS e 0 []).length ≤ 100000) && isEr 5 (varR ((eS e 0 []).drop (eI e 1 []).toNat)))), v := fun e => .tup [(true, .tc (.vs fun _ => []) (.tc (.vs fun _ => []) .t0)), (false, vErr 6)], post := fun e => [] }
theorem vrFoP_pc : PC.Runs Tryd.prog 139 Tryd.f139 (bodyOf Tryd.f139) vrFoP := ⟨Tryd.func139, by kernel_rfl, (fun g hg => by first | (cases hg; done) | (revert g; show ∀ g ∈ ([5, 6, 0] : List Nat), g < 23; decide)), fun e H hc => by
  have hc : (decide (0 ≤ eI e 1 []) && (decide ((eI e 1 []).toNat ≤ (eS e 0 []).length) && (decide ((eS e 0 []).length ≤ 100000) && isEr 5 (varR ((eS e 0 []).drop (eI e 1 []).toNat))))) = true := hc
  try simp only [Bool.and_eq_true, decide_eq_true_eq, Nat.beq_eq] at hc
  exact by obtain ⟨h1, h2, h3, h4⟩ := hc; have hj : ((eI e 1 []).toNat : Int) = eI e 1 [] := Int.toNat_of_nonneg h1; have q := vrFoT (textAt H 28) (textAt H 29) (textAt H 23) (eS e 0 []) (eI e 1 []).toNat h2 h3 h4; rw [hj] at q; exact q⟩
def vrLoP : PC := { args := [.v (.vp 63)], heap := [⟨63, true, 2, .tc (.vs 0) (.tc (.vi .i64 1) .t0)⟩], gs := [5, 6, 0], G := 23, tp := 213, n := 80, n' := 700, cond := fun e => decide (0 ≤ eI e 1 []) && (decide ((eI e 1 []).toNat ≤ (eS e 0 []).length) && (decide ((eS e 0 []).length ≤ 100000) && isEr 4 (varR ((eS e 0 []).drop (eI e 1 []).toNat)))), v := fun e => .tup [(true, .tc (.vs fun _ => []) (.tc (.vs fun _ => []) .t0)), (false, vErr 0)], post := fun e => [] }
theorem vrLoP_pc : PC.Runs Tryd.prog 139 Tryd.f139 (bodyOf Tryd.f139) vrLoP := ⟨Tryd.func139, by kernel_rfl, (fun g hg => by first | (cases hg; done) | (revert g; show ∀ g ∈ ([5, 6, 0] : List Nat), g < 23; decide)), fun e H hc => by
  have hc : (decide (0 ≤ eI e 1 []) && (decide ((eI e 1 []).toNat ≤ (eS e 0 []).length) && (decide ((eS e 0 []).length ≤ 100000) && isEr 4 (varR ((eS e 0 []).drop (eI e 1 []).toNat))))) = true := hc
  try simp only [Bool.and_eq_true, decide_eq_true_eq, Nat.beq_eq] at hc
  exact by obtain ⟨h1, h2, h3, h4⟩ := hc; have hj : ((eI e 1 []).toNat : Int) = eI e 1 [] := Int.toNat_of_nonneg h1; have q := vrLoT (textAt H 28) (textAt H 29) (textAt H 23) (eS e 0 []) (eI e 1 []).toNat h2 h3 h4; rw [hj] at q; exact q⟩
theorem litP_len : ∀ (P : List Pc) (c : UInt8), (litP P c).length = if P ≠ [] ∧ (P.getD (P.length - 1) zP).var = [] then P.length else P.length + 1
  | [], c => rfl
  | [p], c => by
    by_cases h : p.var = []
    · simp [litP, h]
    · simp [litP, h]
  | p :: q :: r, c => by
    have ih := litP_len (q :: r) c
    simp only [litP, List.length_cons] at ih ⊢
    rw [ih]
    have e : (p :: q :: r).getD (r.length + 1 + 1 - 1) zP = (q :: r).getD (r.length + 1 - 1) zP := by simp
    rw [e]
    by_cases h : ((q :: r).getD (r.length + 1 - 1) zP).var = []
    · rw [if_pos ⟨by simp, h⟩, if_pos ⟨by simp, h⟩]
    · rw [if_neg (fun x => h x.2), if_neg (fun x => h x.2)]
theorem litP_new : ∀ (P : List Pc) (c : UInt8), (P = [] ∨ (P.getD (P.length - 1) zP).var ≠ []) → litP P c = P ++ [⟨[], [c]⟩]
  | [], c, _ => rfl
  | [p], c, h => by
    have h : p.var ≠ [] := by simpa using h
    simp [litP, h]
  | p :: q :: r, c, h => by
    have h : ((q :: r).getD ((q :: r).length - 1) zP).var ≠ [] := by simpa using h
    rw [litP, litP_new (q :: r) c (.inr h)]; rfl
theorem litP_old : ∀ (P : List Pc) (c : UInt8), P ≠ [] → (P.getD (P.length - 1) zP).var = [] → ∀ k, (litP P c).getD k zP = if k = P.length - 1 then ⟨[], (P.getD k zP).lit ++ [c]⟩ else P.getD k zP
  | [], c, h, _ => absurd rfl h
  | [p], c, _, h => by
    have h : p.var = [] := by simpa using h
    intro k
    rw [litP, if_pos h]
    cases k with
    | zero => simp
    | succ k => simp
  | p :: q :: r, c, _, h => by
    have h : ((q :: r).getD ((q :: r).length - 1) zP).var = [] := by simpa using h
    intro k
    have ih := litP_old (q :: r) c (by simp) h
    rw [litP]
    cases k with
    | zero => simp
    | succ k =>
      have := ih k
      simp only [List.getD_cons_succ, List.length_cons, Nat.add_sub_cancel] at this ⊢
      rw [this]
      by_cases hk : k = r.length
      · rw [if_pos hk, if_pos (by omega)]
      · rw [if_neg hk, if_neg (by omega)]
theorem pcsOf_len (n : Nat) (V L : Ix → List UInt8) : (pcsOf n V L).length = n := by simp [pcsOf]
theorem pcsOf_at {n k : Nat} (V L : Ix → List UInt8) (h : k < n) : (pcsOf n V L).getD k zP = ⟨V [k], L [k]⟩ := by
  simp [pcsOf, List.getD_eq_getElem?_getD, h]
theorem pcsOf_pr (P : List Pc) : pcsOf P.length (prV P) (prL P) = P := by
  apply List.ext_getElem?
  intro k
  simp only [pcsOf, List.getElem?_map]
  by_cases h : k < P.length
  · rw [List.getElem?_range h, List.getElem?_eq_getElem h]
    simp [prV, prL, List.getD_eq_getElem?_getD, List.getElem?_eq_getElem h]
  · rw [List.getElem?_eq_none (by simp; omega), List.getElem?_eq_none (by omega)]; rfl
theorem pr_at (P : List Pc) (k : Nat) : prV P [k] = (P.getD k zP).var ∧ prL P [k] = (P.getD k zP).lit := ⟨rfl, rfl⟩
/-- A piece more. -/
theorem pr_app (P : List Pc) (n : Nat) (V L v l : Ix → List UInt8) (hP : P = pcsOf n V L) (p : Pc) (hv : v [0] = p.var) (hl : l [0] = p.lit) : ∀ k, k < n + 1 → prV (P ++ [p]) [k] = appF n 0 V v [k] ∧ prL (P ++ [p]) [k] = appF n 0 L l [k] := by
  intro k hk
  have hlen : P.length = n := by rw [hP, pcsOf_len]
  simp only [prV, prL, appF, List.headD, Nat.zero_add]
  by_cases h : k < n
  · rw [if_pos h, if_pos h, List.getD_eq_getElem?_getD, List.getElem?_append_left (by omega), ← List.getD_eq_getElem?_getD, hP, pcsOf_at V L h]
    exact ⟨rfl, rfl⟩
  · have : k = n := by omega
    subst this
    rw [if_neg h, if_neg h, List.getD_eq_getElem?_getD, List.getElem?_append_right (by omega), hlen, Nat.sub_self]
    exact ⟨hv.symm, hl.symm⟩
theorem pr_set (P : List Pc) (n : Nat) (V L : Ix → List UInt8) (hP : P = pcsOf n V L) (hn : 0 < n) (hv : V [n - 1] = []) (c : UInt8) : ∀ k, k < n → prV (litP P c) [k] = V [k] ∧ prL (litP P c) [k] = upd L [n - 1] (L [n - 1] ++ [c]) [k] := by
  intro k hk
  have hlen : P.length = n := by rw [hP, pcsOf_len]
  have hne : P ≠ [] := fun e => by rw [e] at hlen; simp at hlen; omega
  have hq : P.getD (P.length - 1) zP = ⟨V [n - 1], L [n - 1]⟩ := by rw [hlen, hP]; exact pcsOf_at V L (by omega)
  have := litP_old P c hne (by rw [hq]; exact hv) k
  simp only [prV, prL, List.headD, upd, List.cons.injEq, and_true, this, hlen]
  by_cases e : k = n - 1
  · subst e
    rw [if_pos rfl, if_pos rfl, hP, pcsOf_at V L (by omega)]
    exact ⟨hv.symm, rfl⟩
  · rw [if_neg e, if_neg e, hP, pcsOf_at V L hk]
    exact ⟨rfl, rfl⟩
theorem li0_p0 (n M : Nat) (V L : Ix → List UInt8) (c : UInt8) (Q : List Pc) :
    isEnd (evTill Tryd.prog [] 300 (99) 900 141 [.code (bodyOf Tryd.f141)] (envOf [vL 61 2 n, vU (c.toNat : Int)] Tryd.f141.ntmps) ([] ++ (prR 61 M V L)) ⟨[.s true, .t, .t, .s true, .s true], 80⟩) (endP ([((141 : Nat), Rn.to (82 : Nat))]) (vL 141 2 (Q).length) (prE 141 Q) 200) =
    (OkL [(decide (IntKind.i64.wrap ((↑n : Int) - (1 : Int)) < (0 : Int)), true), (((0 : Nat) + n).ble M, true), (decide (((2 : Nat) * (n + (1 : Nat)) + (192 : Nat)) * (32 : Nat) ≤ (281474976710656 : Nat)), true)] ∧ ((0 : Nat) = (0 : Nat) ∧ Q.length = n + (1 : Nat)) ∧ Q.length = n + (1 : Nat) ∧ (∀ (i : Nat), i < Q.length → prV Q [i] = appF n (0 : Nat) V (fun js => []) [i]) ∧ ∀ (i : Nat), i < Q.length → prL Q [i] = appF n (0 : Nat) L (fun js => bytesOf (fun is => (↑c.toNat : Int)) [] (0 : Nat) (1 : Nat)) [i]) := by kernel_rfl

set_option maxHeartbeats 4000000 in
theorem li0 (n M : Nat) (V L : Ix → List UInt8) (c : UInt8) (Q : List Pc) (hM : M = n) (hn : n ≤ 1000) (hL : ∀ i, i < n → (L [i]).length ≤ 1000) (hQ : Q = (litP (pcsOf n V L) c)) (h : n = 0)  :
    RunsTo Tryd.prog 141 [.code (bodyOf Tryd.f141)] (envOf [vL 61 2 n, vU (c.toNat : Int)] Tryd.f141.ntmps) (Sx.look ([] ++ (prR 61 M V L))) 80 (vL 141 2 (Q).length) (Sx.look (prE 141 Q)) 200 := by
  have hw1 : IntKind.i64.wrap ((n : Int) - 1) = (n : Int) - 1 := wr64 (by omega)
  have hb0 := u8nat c
  have hb1 : bytesOf (fun is => (c.toNat : Int)) [] 0 1 = [c] := by simp [bytesOf]
  have hpl := pcsOf_len n V L
  have hn1 : ((n : Int) - 1).toNat = n - 1 := by omega
  refine runs_last baseO (Sx.Ends.of (li0_p0 n M V L c Q) ⟨?oo, ?rr⟩) (by kernel_rfl) rfl (gtL (by decide)) (by decide)
  case oo =>
    refine (okc ?_ (okc ?_ (okc ?_ okn)))
    all_goals first | omega | (simp (disch := omega) only [SS, hw1, hn1]; first | done | omega | (simp_all; done)) | (simp_all; done) | (simp_all; omega)
  case rr =>
    have hnew : pcsOf n V L = [] ∨ ((pcsOf n V L).getD ((pcsOf n V L).length - 1) zP).var ≠ [] := .inl (by rw [h]; rfl)
    have hlq : Q.length = n + 1 := by rw [hQ, litP_new _ c hnew, List.length_append, hpl]; rfl
    have hap := pr_app (pcsOf n V L) n V L (fun _ => []) (fun _ => bytesOf (fun is => (c.toNat : Int)) [] 0 1) rfl ⟨[], [c]⟩ rfl hb1
    rw [← litP_new _ c hnew, ← hQ] at hap
    exact ⟨⟨rfl, hlq⟩, hlq, fun k hk => (hap k (by omega)).1, fun k hk => (hap k (by omega)).2⟩

theorem li1_p0 (n M : Nat) (V L : Ix → List UInt8) (c : UInt8) (Q : List Pc) :
    isEnd (evTill Tryd.prog [] 300 (99) 900 141 [.code (bodyOf Tryd.f141)] (envOf [vL 61 2 n, vU (c.toNat : Int)] Tryd.f141.ntmps) ([] ++ (prR 61 M V L)) ⟨[.s false, .s true, .s true, .s true, .s true, .t, .t, .s true, .s true], 80⟩) (endP ([((141 : Nat), Rn.to (82 : Nat))]) (vL 141 2 (Q).length) (prE 141 Q) 200) =
    (OkL [(decide (IntKind.i64.wrap ((↑n : Int) - (1 : Int)) < (0 : Int)), false), (decide ((0 : Int) ≤ IntKind.i64.wrap ((↑n : Int) - (1 : Int)) ∧ IntKind.i64.wrap ((↑n : Int) - (1 : Int)) < (↑n : Int)), true), (((0 : Nat) + (IntKind.i64.wrap ((↑n : Int) - (1 : Int))).toNat).blt M, true), (((0 : Nat) + (IntKind.i64.wrap ((↑n : Int) - (1 : Int))).toNat).blt M, true), (!V [(0 : Nat) + (IntKind.i64.wrap ((↑n : Int) - (1 : Int))).toNat] == [], true), (((0 : Nat) + n).ble M, true), (decide (((2 : Nat) * (n + (1 : Nat)) + (192 : Nat)) * (32 : Nat) ≤ (281474976710656 : Nat)), true)] ∧ ((0 : Nat) = (0 : Nat) ∧ Q.length = n + (1 : Nat)) ∧ Q.length = n + (1 : Nat) ∧ (∀ (i : Nat), i < Q.length → prV Q [i] = appF n (0 : Nat) V (fun js => []) [i]) ∧ ∀ (i : Nat), i < Q.length → prL Q [i] = appF n (0 : Nat) L (fun js => bytesOf (fun is => (↑c.toNat : Int)) [] (0 : Nat) (1 : Nat)) [i]) := by kernel_rfl

set_option maxHeartbeats 4000000 in
theorem li1 (n M : Nat) (V L : Ix → List UInt8) (c : UInt8) (Q : List Pc) (hM : M = n) (hn : n ≤ 1000) (hL : ∀ i, i < n → (L [i]).length ≤ 1000) (hQ : Q = (litP (pcsOf n V L) c)) (h : 0 < n) (h2 : V [n - 1] ≠ [])  :
    RunsTo Tryd.prog 141 [.code (bodyOf Tryd.f141)] (envOf [vL 61 2 n, vU (c.toNat : Int)] Tryd.f141.ntmps) (Sx.look ([] ++ (prR 61 M V L))) 80 (vL 141 2 (Q).length) (Sx.look (prE 141 Q)) 200 := by
  have hw1 : IntKind.i64.wrap ((n : Int) - 1) = (n : Int) - 1 := wr64 (by omega)
  have hb0 := u8nat c
  have hb1 : bytesOf (fun is => (c.toNat : Int)) [] 0 1 = [c] := by simp [bytesOf]
  have hpl := pcsOf_len n V L
  have hn1 : ((n : Int) - 1).toNat = n - 1 := by omega
  refine runs_last baseO (Sx.Ends.of (li1_p0 n M V L c Q) ⟨?oo, ?rr⟩) (by kernel_rfl) rfl (gtL (by decide)) (by decide)
  case oo =>
    refine (okc ?_ (okc ?_ (okc ?_ (okc ?_ (okc ?_ (okc ?_ (okc ?_ okn)))))))
    all_goals first | omega | (simp (disch := omega) only [SS, hw1, hn1]; first | done | omega | (simp_all; done)) | (simp_all; done) | (simp_all; omega)
  case rr =>
    have hnew : pcsOf n V L = [] ∨ ((pcsOf n V L).getD ((pcsOf n V L).length - 1) zP).var ≠ [] := .inr (by rw [hpl, pcsOf_at V L (by omega)]; exact h2)
    have hlq : Q.length = n + 1 := by rw [hQ, litP_new _ c hnew, List.length_append, hpl]; rfl
    have hap := pr_app (pcsOf n V L) n V L (fun _ => []) (fun _ => bytesOf (fun is => (c.toNat : Int)) [] 0 1) rfl ⟨[], [c]⟩ rfl hb1
    rw [← litP_new _ c hnew, ← hQ] at hap
    exact ⟨⟨rfl, hlq⟩, hlq, fun k hk => (hap k (by omega)).1, fun k hk => (hap k (by omega)).2⟩

theorem li2_p0 (n M : Nat) (V L : Ix → List UInt8) (c : UInt8) (Q : List Pc) :
    isEnd (evTill Tryd.prog [] 300 (99) 900 141 [.code (bodyOf Tryd.f141)] (envOf [vL 61 2 n, vU (c.toNat : Int)] Tryd.f141.ntmps) ([] ++ (prR 61 M V L)) ⟨[.s false, .s true, .s true, .s true, .s false, .s true, .s true, .s true, .t, .s true, .s true, .s true, .s true], 80⟩) (endP ([((141 : Nat), Rn.to (61 : Nat))]) (vL 141 2 (Q).length) (prE 141 Q) 200) =
    (OkL [(decide (IntKind.i64.wrap ((↑n : Int) - (1 : Int)) < (0 : Int)), false), (decide ((0 : Int) ≤ IntKind.i64.wrap ((↑n : Int) - (1 : Int)) ∧ IntKind.i64.wrap ((↑n : Int) - (1 : Int)) < (↑n : Int)), true), (((0 : Nat) + (IntKind.i64.wrap ((↑n : Int) - (1 : Int))).toNat).blt M, true), (((0 : Nat) + (IntKind.i64.wrap ((↑n : Int) - (1 : Int))).toNat).blt M, true), (!V [(0 : Nat) + (IntKind.i64.wrap ((↑n : Int) - (1 : Int))).toNat] == [], false), (decide ((0 : Int) ≤ IntKind.i64.wrap ((↑n : Int) - (1 : Int)) ∧ IntKind.i64.wrap ((↑n : Int) - (1 : Int)) < (↑n : Int)), true), (((0 : Nat) + (IntKind.i64.wrap ((↑n : Int) - (1 : Int))).toNat).blt M, true), (((0 : Nat) + (IntKind.i64.wrap ((↑n : Int) - (1 : Int))).toNat).blt M, true), (decide ((L [(0 : Nat) + (IntKind.i64.wrap ((↑n : Int) - (1 : Int))).toNat]).length + (bytesOf (fun is => (↑c.toNat : Int)) [] (0 : Nat) (1 : Nat)).length ≤ (9223372036854775807 : Nat)), true), (decide ((0 : Int) ≤ IntKind.i64.wrap ((↑n : Int) - (1 : Int)) ∧ IntKind.i64.wrap ((↑n : Int) - (1 : Int)) < (↑n : Int)), true), (((0 : Nat) + (IntKind.i64.wrap ((↑n : Int) - (1 : Int))).toNat).blt M, true), (((0 : Nat) + (IntKind.i64.wrap ((↑n : Int) - (1 : Int))).toNat).blt M, true)] ∧ ((0 : Nat) = (0 : Nat) ∧ Q.length = n) ∧ Q.length = M ∧ (∀ (i : Nat), i < Q.length → prV Q [i] = V [i]) ∧ ∀ (i : Nat), i < Q.length → prL Q [i] = upd L [(0 : Nat) + (IntKind.i64.wrap ((↑n : Int) - (1 : Int))).toNat] (L [(0 : Nat) + (IntKind.i64.wrap ((↑n : Int) - (1 : Int))).toNat] ++ bytesOf (fun is => (↑c.toNat : Int)) [] (0 : Nat) (1 : Nat)) [i]) := by kernel_rfl

set_option maxHeartbeats 4000000 in
theorem li2 (n M : Nat) (V L : Ix → List UInt8) (c : UInt8) (Q : List Pc) (hM : M = n) (hn : n ≤ 1000) (hL : ∀ i, i < n → (L [i]).length ≤ 1000) (hQ : Q = (litP (pcsOf n V L) c)) (h : 0 < n) (h2 : V [n - 1] = [])  :
    RunsTo Tryd.prog 141 [.code (bodyOf Tryd.f141)] (envOf [vL 61 2 n, vU (c.toNat : Int)] Tryd.f141.ntmps) (Sx.look ([] ++ (prR 61 M V L))) 80 (vL 141 2 (Q).length) (Sx.look (prE 141 Q)) 200 := by
  have hw1 : IntKind.i64.wrap ((n : Int) - 1) = (n : Int) - 1 := wr64 (by omega)
  have hb0 := u8nat c
  have hb1 : bytesOf (fun is => (c.toNat : Int)) [] 0 1 = [c] := by simp [bytesOf]
  have hpl := pcsOf_len n V L
  have hn1 : ((n : Int) - 1).toNat = n - 1 := by omega
  have hL1 := hL (n - 1) (by omega)
  refine runs_last baseO (Sx.Ends.of (li2_p0 n M V L c Q) ⟨?oo, ?rr⟩) (by kernel_rfl) rfl (gtL (by decide)) (by decide)
  case oo =>
    refine (okc ?_ (okc ?_ (okc ?_ (okc ?_ (okc ?_ (okc ?_ (okc ?_ (okc ?_ (okc ?_ (okc ?_ (okc ?_ (okc ?_ okn))))))))))))
    all_goals first | omega | (simp (disch := omega) only [SS, hw1, hn1, hb1, Nat.zero_add, List.length_append, List.length_cons, List.length_nil]; first | done | omega | (simp_all; done)) | (simp_all; done) | (simp_all; omega)
  case rr =>
    have hset := pr_set (pcsOf n V L) n V L rfl h h2 c
    rw [← hQ] at hset
    have hlq : Q.length = n := by rw [hQ, litP_len, hpl, if_pos ⟨fun e => by rw [e] at hpl; simp at hpl; omega, by rw [pcsOf_at V L (by omega)]; exact h2⟩]
    rw [hw1, hn1, hb1, Nat.zero_add]
    exact ⟨⟨rfl, hlq⟩, by omega, fun k hk => (hset k (by omega)).1, fun k hk => (hset k (by omega)).2⟩

theorem liT (n M : Nat) (V L : Ix → List UInt8) (c : UInt8) (Q : List Pc) (hM : M = n) (hn : n ≤ 1000) (hL : ∀ i, i < n → (L [i]).length ≤ 1000) (hQ : Q = (litP (pcsOf n V L) c)) : RunsTo Tryd.prog 141 [.code (bodyOf Tryd.f141)] (envOf [vL 61 2 n, vU (c.toNat : Int)] Tryd.f141.ntmps) (Sx.look ([] ++ (prR 61 M V L))) 80 (vL 141 2 (Q).length) (Sx.look (prE 141 Q)) 200 := by
  by_cases h : n = 0
  · exact li0 n M V L c Q hM hn hL hQ h
  by_cases h2 : V [n - 1] = []
  · exact li2 n M V L c Q hM hn hL hQ (by omega) h2
  · exact li1 n M V L c Q hM hn hL hQ (by omega) h2
def liP : PC := { args := [.v (.vl 61 2 0), .v (.vi .u8 1)], heap := [⟨61, true, 2, .ta 4 (.tc (.vs 2) (.tc (.vs 3) .t0))⟩], gs := [], G := 23, tp := 213, n := 80, n' := 200, cond := fun e => decide (0 ≤ eI e 1 [] ∧ eI e 1 [] < 256) && (decide (eN e 4 = eN e 0) && (decide (eN e 0 ≤ 1000) && (List.range (eN e 0)).all fun i => decide ((eS e 3 [i]).length ≤ 1000))), v := fun e => vL 141 2 ((litP (pcsOf (eN e 0) (eS e 2) (eS e 3)) (u8o (eI e 1 [])))).length, post := fun e => prE 141 (litP (pcsOf (eN e 0) (eS e 2) (eS e 3)) (u8o (eI e 1 []))) }
theorem liP_pc : PC.Runs Tryd.prog 141 Tryd.f141 (bodyOf Tryd.f141) liP := ⟨Tryd.func141, by kernel_rfl, (fun g hg => by first | (cases hg; done) | (revert g; show ∀ g ∈ ([] : List Nat), g < 23; decide)), fun e H hc => by
  have hc : (decide (0 ≤ eI e 1 [] ∧ eI e 1 [] < 256) && (decide (eN e 4 = eN e 0) && (decide (eN e 0 ≤ 1000) && (List.range (eN e 0)).all fun i => decide ((eS e 3 [i]).length ≤ 1000)))) = true := hc
  try simp only [Bool.and_eq_true, decide_eq_true_eq, Nat.beq_eq] at hc
  exact by obtain ⟨h1, h2, h3, h4⟩ := hc; have hj : (((u8o (eI e 1 [])).toNat : Nat) : Int) = eI e 1 [] := u8of h1; have q := liT (eN e 0) (eN e 4) (eS e 2) (eS e 3) (u8o (eI e 1 [])) _ h2 h3 (fun i hi => of_decide_eq_true (List.all_eq_true.1 h4 i (List.mem_range.2 hi))) rfl; rw [hj] at q; exact q⟩
end Go.Proofs.YtaleenklamognaaDoor

set_option linter.unusedSimpArgs false
set_option linter.unusedVariables false
set_option maxRecDepth 100000
namespace Go.Proofs.YtaleenklamognaaDoor
open Go.Sx

open WordR
def prX (l M : Nat) (V L : Ix → List UInt8) : List Ent := [⟨l, false, none, 2, .ta M (.tc (.vs V) (.tc (.vs L) .t0))⟩]
def okL (n : Nat) (L : Ix → List UInt8) : Bool := (List.range n).all fun i => decide ((L [i]).length ≤ 1000)
theorem ix0_p0 (n M : Nat) (V L : Ix → List UInt8) :
    isMore (evTill Tryd.prog [] 300 (behind Tryd.f121 0) 900 121 [.code (bodyOf Tryd.f121)] (envOf [vL 61 2 n, vF 99] Tryd.f121.ntmps) (prX 61 M V L ++ ([])) ⟨[], 80⟩) (moreP (headOf Tryd.f121 0) ([]) Tryd.f121.ntmps ([(0, vL 61 2 n), (1, vF 99), (7, vN n), (8, vN (0 : Nat))]) ([]) 140) =
    (OkL [] ∧ headOf Tryd.f121 0 = headOf Tryd.f121 0 ∧ ((0 = 0 ∧ n = n) ∧ Value.func (Fn.func (99 : Nat)) #[] #[] = Value.func (Fn.func (99 : Nat)) #[] #[] ∧ (n : Int) = (n : Int) ∧ (↑(0 : Nat) : Int) = (0 : Int)) ∧ True) := by kernel_rfl

set_option maxHeartbeats 4000000 in
theorem ix0 (n M : Nat) (V L : Ix → List UInt8) (hM : n ≤ M) (hn : n ≤ 100000)  (v : SV) (L' : HF) (next : RunsTo Tryd.prog 121 (headOf Tryd.f121 0) (envAt Tryd.f121.ntmps ([(0, vL 61 2 n), (1, vF 99), (7, vN n), (8, vN (0 : Nat))])) (Sx.look (prX 61 M V L ++ ([]))) 80 (v) (L') 140) :
    RunsTo Tryd.prog 121 [.code (bodyOf Tryd.f121)] (envOf [vL 61 2 n, vF 99] Tryd.f121.ntmps) (Sx.look (prX 61 M V L ++ ([]))) 80 (v) (L') 140 := by
  refine runs_more baseO (More.of (ix0_p0 n M V L) ⟨okn, rfl, ?_⟩) (by kernel_rfl) (by kernel_rfl) rfl (gtL (by decide)) (by decide) next
  all_goals clear next
  all_goals first | (refine And.intro ?_ ?_ <;> ((try simp (disch := omega) only [SS]); (repeat' apply And.intro); (all_goals first | exact True.intro | with_reducible rfl | omega | (intros; first | exact True.intro | with_reducible rfl | omega | (simp_all; done)) | (simp_all; done) | rfl))) | (((try simp (disch := omega) only [SS]); first | done | omega | assumption | (simp (disch := omega) only [SS] at *; first | done | omega | assumption) | (simp_all; done)))

theorem ix1_p0 (n M : Nat) (V L : Ix → List UInt8) (i : Nat) :
    isMore (evTill Tryd.prog [] 300 (behind Tryd.f121 0) 900 121 (headOf Tryd.f121 0) (envAt Tryd.f121.ntmps ([(0, vL 61 2 n), (1, vF 99), (7, vN n), (8, vN (i : Nat))])) (prX 61 M V L ++ ([])) ⟨[.s true, .s true, .s true, .s true, .s false], 110⟩) (moreP (headOf Tryd.f121 0) ([]) Tryd.f121.ntmps ([(0, vL 61 2 n), (1, vF 99), (7, vN n), (8, vN (i + 1 : Nat))]) ([]) 140) =
    (OkL [(decide ((i : Int) < (n : Int)), true), (decide ((0 : Int) ≤ (i : Int) ∧ (i : Int) < (n : Int)), true), ((0 + (i : Int).toNat).blt M, true), ((0 + (i : Int).toNat).blt M, true), (decide ((↑(L [0 + (i : Int).toNat]).length : Int) > 400), false)] ∧ headOf Tryd.f121 0 = headOf Tryd.f121 0 ∧ ((0 = 0 ∧ n = n) ∧ Value.func (Fn.func (99 : Nat)) #[] #[] = Value.func (Fn.func (99 : Nat)) #[] #[] ∧ (n : Int) = (n : Int) ∧ (↑(i + (1 : Nat)) : Int) = IntKind.i64.wrap ((i : Int) + 1)) ∧ True) := by kernel_rfl

set_option maxHeartbeats 4000000 in
theorem ix1 (n M : Nat) (V L : Ix → List UInt8) (i : Nat) (hi : i < n) (hM : n ≤ M) (hn : n ≤ 100000) (h : (L [i]).length ≤ 400)  (v : SV) (L' : HF) (next : RunsTo Tryd.prog 121 (headOf Tryd.f121 0) (envAt Tryd.f121.ntmps ([(0, vL 61 2 n), (1, vF 99), (7, vN n), (8, vN (i + 1 : Nat))])) (Sx.look (prX 61 M V L ++ ([]))) 80 (v) (L') 140) :
    RunsTo Tryd.prog 121 (headOf Tryd.f121 0) (envAt Tryd.f121.ntmps ([(0, vL 61 2 n), (1, vF 99), (7, vN n), (8, vN (i : Nat))])) (Sx.look (prX 61 M V L ++ ([]))) 80 (v) (L') 140 := by
  have hw : IntKind.i64.wrap ((i : Int) + 1) = ((i + 1 : Nat) : Int) := by rw [wr64 (by omega)]; rfl
  refine runs_more baseO (More.of (ix1_p0 n M V L i) ⟨(okc ?_ (okc ?_ (okc ?_ (okc ?_ (okc ?_ okn))))), rfl, ?_⟩) (by kernel_rfl) (by kernel_rfl) rfl (gtL (by decide)) (by decide) next
  all_goals clear next
  all_goals first | (refine And.intro ?_ ?_ <;> ((try simp (disch := omega) only [SS, hw]); (repeat' apply And.intro); (all_goals first | exact True.intro | with_reducible rfl | omega | (intros; first | exact True.intro | with_reducible rfl | omega | (simp_all; done)) | (simp_all; done) | rfl))) | (((try simp (disch := omega) only [SS, hw]); first | done | omega | assumption | (simp (disch := omega) only [SS, hw] at *; first | done | omega | assumption) | (simp_all; done)))

theorem ix2_p0 (n M : Nat) (V L : Ix → List UInt8) (i : Nat) :
    isEnd (evTill Tryd.prog [] 300 (99) 900 121 (headOf Tryd.f121 0) (envAt Tryd.f121.ntmps ([(0, vL 61 2 n), (1, vF 99), (7, vN n), (8, vN (i : Nat))])) (prX 61 M V L ++ ([])) ⟨[.s true, .s true, .s true, .s true, .s true], 110⟩) (endP ([]) (vN (i : Nat)) ([]) 140) =
    (OkL [(decide ((i : Int) < (n : Int)), true), (decide ((0 : Int) ≤ (i : Int) ∧ (i : Int) < (n : Int)), true), ((0 + (i : Int).toNat).blt M, true), ((0 + (i : Int).toNat).blt M, true), (decide ((↑(L [0 + (i : Int).toNat]).length : Int) > 400), true)] ∧ (i : Int) = (i : Int) ∧ True) := by kernel_rfl

set_option maxHeartbeats 4000000 in
theorem ix2 (n M : Nat) (V L : Ix → List UInt8) (i : Nat) (hi : i < n) (hM : n ≤ M) (hn : n ≤ 100000) (h : 400 < (L [i]).length)  :
    RunsTo Tryd.prog 121 (headOf Tryd.f121 0) (envAt Tryd.f121.ntmps ([(0, vL 61 2 n), (1, vF 99), (7, vN n), (8, vN (i : Nat))])) (Sx.look (prX 61 M V L ++ ([]))) 80 (vN (i : Nat)) (Sx.look ([])) 140 := by
  refine runs_last baseO (Sx.Ends.of (ix2_p0 n M V L i) ⟨(okc ?_ (okc ?_ (okc ?_ (okc ?_ (okc ?_ okn))))), ?_⟩) (by kernel_rfl) rfl (gtL (by decide)) (by decide)
  all_goals first | (refine And.intro ?_ ?_ <;> ((try simp (disch := omega) only [SS]); (repeat' apply And.intro); (all_goals first | exact True.intro | with_reducible rfl | omega | (intros; first | exact True.intro | with_reducible rfl | omega | (simp_all; done)) | (simp_all; done) | rfl))) | (((try simp (disch := omega) only [SS]); first | done | omega | assumption | (simp (disch := omega) only [SS] at *; first | done | omega | assumption) | (simp_all; done)))

theorem ix3_p0 (n M : Nat) (V L : Ix → List UInt8) (i : Nat) :
    isEnd (evTill Tryd.prog [] 300 (99) 900 121 (headOf Tryd.f121 0) (envAt Tryd.f121.ntmps ([(0, vL 61 2 n), (1, vF 99), (7, vN n), (8, vN (i : Nat))])) (prX 61 M V L ++ ([])) ⟨[.s false], 110⟩) (endP ([]) (vN (-1)) ([]) 140) =
    (OkL [(decide ((i : Int) < (n : Int)), false)] ∧ (-1 : Int) = (-1 : Int) ∧ True) := by kernel_rfl

set_option maxHeartbeats 4000000 in
theorem ix3 (n M : Nat) (V L : Ix → List UInt8) (i : Nat) (hi : i = n)  :
    RunsTo Tryd.prog 121 (headOf Tryd.f121 0) (envAt Tryd.f121.ntmps ([(0, vL 61 2 n), (1, vF 99), (7, vN n), (8, vN (i : Nat))])) (Sx.look (prX 61 M V L ++ ([]))) 80 (vN (-1)) (Sx.look ([])) 140 := by
  refine runs_last baseO (Sx.Ends.of (ix3_p0 n M V L i) ⟨(okc ?_ okn), ?_⟩) (by kernel_rfl) rfl (gtL (by decide)) (by decide)
  all_goals first | (refine And.intro ?_ ?_ <;> ((try simp (disch := omega) only [SS]); (repeat' apply And.intro); (all_goals first | exact True.intro | with_reducible rfl | omega | (intros; first | exact True.intro | with_reducible rfl | omega | (simp_all; done)) | (simp_all; done) | rfl))) | (((try simp (disch := omega) only [SS]); first | done | omega | assumption | (simp (disch := omega) only [SS] at *; first | done | omega | assumption) | (simp_all; done)))

theorem ixT (n M : Nat) (V L : Ix → List UInt8) (hM : n ≤ M) (hn : n ≤ 100000) : RunsTo Tryd.prog 121 [.code (bodyOf Tryd.f121)] (envOf [vL 61 2 n, vF 99] Tryd.f121.ntmps) (Sx.look (prX 61 M V L ++ ([]))) 80 (vN (ixL L n 0)) (Sx.look []) 140 := by
  refine ix0 n M V L hM hn _ _ ?_
  suffices q : ∀ (k i : Nat), i + k = n → RunsTo Tryd.prog 121 (headOf Tryd.f121 0) (envAt Tryd.f121.ntmps ([(0, vL 61 2 n), (1, vF 99), (7, vN n), (8, vN (i : Nat))])) (Sx.look (prX 61 M V L ++ ([]))) 80 (vN (ixL L k i)) (Sx.look []) 140 from q n 0 (by omega)
  intro k
  induction k with
  | zero => intro i hi; exact ix3 n M V L i (by omega)
  | succ k ih =>
    intro i hi
    rw [ixL]
    by_cases h : 400 < (L [i]).length
    · rw [if_pos h]; exact ix2 n M V L i (by omega) hM hn h
    · rw [if_neg h]; exact ix1 n M V L i (by omega) hM hn (by omega) _ _ (ih (i + 1) (by omega))
theorem ixL_neg (L : Ix → List UInt8) : ∀ k i, ixL L k i < 0 ↔ ∀ j, i ≤ j → j < i + k → (L [j]).length ≤ 400
  | 0, i => by simp [ixL]; omega
  | k + 1, i => by
    rw [ixL]
    by_cases h : 400 < (L [i]).length
    · rw [if_pos h]
      constructor
      · intro q; omega
      · intro q; have := q i (by omega) (by omega); omega
    · rw [if_neg h, ixL_neg L k (i + 1)]
      constructor
      · intro q j h1 h2
        by_cases e : j = i
        · subst e; omega
        · exact q j (by omega) (by omega)
      · intro q j h1 h2; exact q j (by omega) (by omega)
theorem fits_ix (n : Nat) (V L : Ix → List UInt8) : fitsP (pcsOf n V L) = (decide (n ≤ 40) && decide (ixL L n 0 < 0)) := by
  rw [Bool.eq_iff_iff]
  unfold fitsP
  simp only [Bool.and_eq_true, decide_eq_true_eq, pcsOf_len, ixL_neg, List.all_eq_true]
  constructor
  · rintro ⟨h1, h2⟩
    refine ⟨h1, fun j _ hj => ?_⟩
    exact h2 ⟨V [j], L [j]⟩ (by simp only [pcsOf, List.mem_map, List.mem_range]; exact ⟨j, by omega, rfl⟩)
  · rintro ⟨h1, h2⟩
    refine ⟨h1, fun p hp => ?_⟩
    simp only [pcsOf, List.mem_map, List.mem_range] at hp
    obtain ⟨j, hj, rfl⟩ := hp
    exact h2 j (by omega) (by omega)
def ixP : PC := { args := [.v (.vl 61 2 0), .v (.vq 99)], heap := [⟨61, false, 2, .ta 4 (.tc (.vs 2) (.tc (.vs 3) .t0))⟩], gs := [], G := 23, tp := 213, n := 80, n' := 140, cond := fun e => decide (eN e 0 ≤ eN e 4) && decide (eN e 0 ≤ 100000), v := fun e => vN (ixL (eS e 3) (eN e 0) 0), post := fun e => [] }
theorem ixP_pc : PC.Runs Tryd.prog 121 Tryd.f121 (bodyOf Tryd.f121) ixP := ⟨Tryd.func121, by kernel_rfl, (fun g hg => by first | (cases hg; done) | (revert g; show ∀ g ∈ ([] : List Nat), g < 23; decide)), fun e H hc => by
  have hc : (decide (eN e 0 ≤ eN e 4) && decide (eN e 0 ≤ 100000)) = true := hc
  try simp only [Bool.and_eq_true, decide_eq_true_eq, Nat.beq_eq] at hc
  exact ixT (eN e 0) (eN e 4) (eS e 2) (eS e 3) hc.1 hc.2⟩
def sumsFT : List (FuncId × Summ) := [(121, ixP.summ 46)]
theorem baseFT : Base0 Tryd.prog sumsFT := (baseO.cons Tryd.func121 (by kernel_rfl) (PC.summ_ok ixP_pc gtopG))
theorem ftT_p0 (n M : Nat) (V L : Ix → List UInt8) :
    isEnd (evTill Tryd.prog sumsFT 300 (99) 900 63 [.code (bodyOf Tryd.f63)] (envOf [vL 61 2 n] Tryd.f63.ntmps) (prX 61 M V L ++ ([])) ⟨[.s false], 80⟩) (endP ([]) (vB (fitsP (pcsOf n V L))) ([]) 200) =
    (OkL [(decide ((n : Int) ≤ 40), false)] ∧ fitsP (pcsOf n V L) = false ∧ True) := by kernel_rfl
theorem ftT_p1 (n M : Nat) (V L : Ix → List UInt8) :
    isEnd (evTill Tryd.prog sumsFT 300 (99) 900 63 [.code (bodyOf Tryd.f63)] (envOf [vL 61 2 n] Tryd.f63.ntmps) (prX 61 M V L ++ ([])) ⟨[.s true, .s true], 80⟩) (endP ([]) (vB (fitsP (pcsOf n V L))) ([]) 200) =
    (OkL [(decide ((n : Int) ≤ 40), true), (decide (n ≤ M) && decide (n ≤ (100000 : Nat)), true)] ∧ fitsP (pcsOf n V L) = !decide (ixL L n (0 : Nat) ≥ 0) ∧ True) := by kernel_rfl

set_option maxHeartbeats 4000000 in
theorem ftT (n M : Nat) (V L : Ix → List UInt8) (hM : n ≤ M) (hn : n ≤ 100000)  :
    RunsTo Tryd.prog 63 [.code (bodyOf Tryd.f63)] (envOf [vL 61 2 n] Tryd.f63.ntmps) (Sx.look (prX 61 M V L ++ ([]))) 80 (vB (fitsP (pcsOf n V L))) (Sx.look ([])) 200 := by
  refine bcase (c := (decide ((↑n : Int) ≤ (40 : Int)))) (fun gg0 => ?_) (fun gg0 => ?_)
  · refine runs_last baseFT (Sx.Ends.of (ftT_p0 n M V L) ⟨?oo, ?rr⟩) (by kernel_rfl) rfl (gtL (by decide)) (by decide)
    case oo =>
      refine (okc gg0 okn)
      all_goals first | omega | (simp (disch := omega) only [SS]; first | done | omega) | (simp_all; done) | (simp_all; omega)
    case rr =>
      refine ⟨?_, trivial⟩
      rw [fits_ix]
      first | (simp_all; done) | (rw [Bool.eq_iff_iff]; simp at *; omega) | (simp_all; omega)
  · refine runs_last baseFT (Sx.Ends.of (ftT_p1 n M V L) ⟨?oo, ?rr⟩) (by kernel_rfl) rfl (gtL (by decide)) (by decide)
    case oo =>
      refine (okc gg0 (okc ?_ okn))
      all_goals first | omega | (simp (disch := omega) only [SS]; first | done | omega) | (simp_all; done) | (simp_all; omega)
    case rr =>
      refine ⟨?_, trivial⟩
      rw [fits_ix]
      first | (simp_all; done) | (rw [Bool.eq_iff_iff]; simp at *; omega) | (simp_all; omega)

def ftP : PC := { args := [.v (.vl 61 2 0)], heap := [⟨61, false, 2, .ta 4 (.tc (.vs 2) (.tc (.vs 3) .t0))⟩], gs := [], G := 23, tp := 213, n := 80, n' := 200, cond := fun e => decide (eN e 0 ≤ eN e 4) && decide (eN e 0 ≤ 100000), v := fun e => vB (fitsP (pcsOf (eN e 0) (eS e 2) (eS e 3))), post := fun e => [] }
theorem ftP_pc : PC.Runs Tryd.prog 63 Tryd.f63 (bodyOf Tryd.f63) ftP := ⟨Tryd.func63, by kernel_rfl, (fun g hg => by first | (cases hg; done) | (revert g; show ∀ g ∈ ([] : List Nat), g < 23; decide)), fun e H hc => by
  have hc : (decide (eN e 0 ≤ eN e 4) && decide (eN e 0 ≤ 100000)) = true := hc
  try simp only [Bool.and_eq_true, decide_eq_true_eq, Nat.beq_eq] at hc
  exact ftT (eN e 0) (eN e 4) (eS e 2) (eS e 3) hc.1 hc.2⟩
def sumsTX : List (FuncId × Summ) := [(63, ftP.summ 46), (141, liP.summ 46), (140, esOkP.summ 46), (139, vrOkP.summ 46)]
theorem baseTX : Base0 Tryd.prog sumsTX := ((((baseO.cons Tryd.func139 (by kernel_rfl) (PC.summ_ok vrOkP_pc gtopG)).cons Tryd.func140 (by kernel_rfl) (PC.summ_ok esOkP_pc gtopG)).cons Tryd.func141 (by kernel_rfl) (PC.summ_ok liP_pc gtopG)).cons Tryd.func63 (by kernel_rfl) (PC.summ_ok ftP_pc gtopG))
def sumsTXs : List (FuncId × Summ) := [(63, ftP.summ 46), (141, liP.summ 46), (140, esShP.summ 46), (139, vrShP.summ 46)]
theorem baseTXs : Base0 Tryd.prog sumsTXs := ((((baseO.cons Tryd.func139 (by kernel_rfl) (PC.summ_ok vrShP_pc gtopG)).cons Tryd.func140 (by kernel_rfl) (PC.summ_ok esShP_pc gtopG)).cons Tryd.func141 (by kernel_rfl) (PC.summ_ok liP_pc gtopG)).cons Tryd.func63 (by kernel_rfl) (PC.summ_ok ftP_pc gtopG))
def sumsTXf : List (FuncId × Summ) := [(63, ftP.summ 46), (141, liP.summ 46), (140, esFoP.summ 46), (139, vrFoP.summ 46)]
theorem baseTXf : Base0 Tryd.prog sumsTXf := ((((baseO.cons Tryd.func139 (by kernel_rfl) (PC.summ_ok vrFoP_pc gtopG)).cons Tryd.func140 (by kernel_rfl) (PC.summ_ok esFoP_pc gtopG)).cons Tryd.func141 (by kernel_rfl) (PC.summ_ok liP_pc gtopG)).cons Tryd.func63 (by kernel_rfl) (PC.summ_ok ftP_pc gtopG))
def sumsTXl : List (FuncId × Summ) := [(63, ftP.summ 46), (141, liP.summ 46), (140, esOkP.summ 46), (139, vrLoP.summ 46)]
theorem baseTXl : Base0 Tryd.prog sumsTXl := ((((baseO.cons Tryd.func139 (by kernel_rfl) (PC.summ_ok vrLoP_pc gtopG)).cons Tryd.func140 (by kernel_rfl) (PC.summ_ok esOkP_pc gtopG)).cons Tryd.func141 (by kernel_rfl) (PC.summ_ok liP_pc gtopG)).cons Tryd.func63 (by kernel_rfl) (PC.summ_ok ftP_pc gtopG))
theorem tx0_p0 (t0 t1 t2 : List UInt8) (s : List UInt8) (a : Nat) :
    isMore (evTill Tryd.prog sumsTX 400 (behindL Tryd.f93 0) 900 93 [.code (bodyOf Tryd.f93)] (envOf [vP 63] Tryd.f93.ntmps) (sentEnts 23 213 [(5, t0), (6, t1), (0, t2)] ++ (rdW 63 s (a : Nat))) ⟨[], 80⟩) (moreP (headL Tryd.f93 0) ([(120, Rn.to 80), (121, Rn.nil 2)]) Tryd.f93.ntmps ([(0, vP 63), (2, vP 120), (4, vL 121 2 (([] : List Pc)).length)]) (rdW 63 s (a + 1 : Nat) ++ (prE 121 (([] : List Pc)) ++ [⟨120, true, none, 5, tkT 0 [] 0 .vl0⟩])) 3000) =
    (OkL [] ∧ headL Tryd.f93 (0 : Nat) = headL Tryd.f93 (0 : Nat) ∧ (0 = 0 ∧ 0 = 0 ∧ 0 = 0) ∧ (s = s ∧ (↑(a + (1 : Nat)) : Int) = IntKind.i64.wrap ((a : Int) + 1)) ∧ 0 = 0 ∧ (0 : Int) = (0 : Int) ∧ ([] : List UInt8) = [] ∧ (0 : Int) = (0 : Int) ∧ True ∧ (0 : Int) = (0 : Int)) := by kernel_rfl

set_option maxHeartbeats 4000000 in
theorem tx0 (t0 t1 t2 : List UInt8) (s : List UInt8) (a : Nat) (ha : a < s.length) (hs : s.length ≤ 10000)  (v : SV) (L' : HF) (next : RunsTo Tryd.prog 93 (headL Tryd.f93 0) (envAt Tryd.f93.ntmps ([(0, vP 63), (2, vP 120), (4, vL 121 2 (([] : List Pc)).length)])) (Sx.look (sentEnts 23 213 [(5, t0), (6, t1), (0, t2)] ++ (rdW 63 s (a + 1 : Nat) ++ (prE 121 (([] : List Pc)) ++ [⟨120, true, none, 5, tkT 0 [] 0 .vl0⟩])))) 80 (v) (L') 3000) :
    RunsTo Tryd.prog 93 [.code (bodyOf Tryd.f93)] (envOf [vP 63] Tryd.f93.ntmps) (Sx.look (sentEnts 23 213 [(5, t0), (6, t1), (0, t2)] ++ (rdW 63 s (a : Nat)))) 80 (v) (L') 3000 := by
  have hw1 : IntKind.i64.wrap ((a : Int) + 1) = ((a + 1 : Nat) : Int) := by rw [wr64 (by omega)]; rfl
  refine runs_more baseTX (More.of (tx0_p0 t0 t1 t2 s a) ⟨okn, rfl, ?_⟩) (by kernel_rfl) (by kernel_rfl) rfl (gtL (by decide)) (by decide) next
  all_goals clear next
  all_goals first | (refine And.intro ?_ ?_ <;> ((try simp (disch := omega) only [SS, hw1]); (repeat' apply And.intro); (all_goals first | exact True.intro | with_reducible rfl | omega | (intros; first | exact True.intro | with_reducible rfl | omega | (simp_all; done)) | (simp_all; done) | rfl))) | (((try simp (disch := omega) only [SS, hw1]); first | done | omega | assumption | (simp (disch := omega) only [SS, hw1] at *; first | done | omega | assumption) | (simp_all; done)))

theorem txQ_p0 (t0 t1 t2 : List UInt8) (s : List UInt8) (a : Nat) (P Q : List Pc) (n : Nat) :
    isEnd (evTill Tryd.prog sumsTX 400 (99) 900 93 (headL Tryd.f93 0) (envAt Tryd.f93.ntmps ([(0, vP 63), (2, vP 120), (4, vL 121 2 (P).length)])) (sentEnts 23 213 [(5, t0), (6, t1), (0, t2)] ++ (rdW 63 s (a : Nat) ++ (prE 121 (P) ++ [⟨120, true, none, 5, tkT 0 [] 0 .vl0⟩]))) ⟨[.s false, .s true, .s true], 160⟩) (endP ([(141, Rn.to 121)]) (.tup [(true, tkT (3) ([]) (0) (.vl 141 (fun _ => 0) 2 [] (fun _ => P.length))), (false, .ve0)]) (rdW 63 s (a + 1 : Nat) ++ prE 141 P) 3000) =
    (OkL [(decide ((a : Int) ≥ (↑s.length : Int)), false), (decide ((0 : Int) ≤ (a : Int) ∧ (a : Int) < (↑s.length : Int)), true), ((↑(s.getD (a : Int).toNat (0 : UInt8)).toNat : Int) == 34, true)] ∧ (((3 : Int) = (3 : Int) ∧ ([] : List UInt8) = [] ∧ (0 : Int) = (0 : Int) ∧ (0 = 0 ∧ P.length = P.length) ∧ (0 : Int) = (0 : Int)) ∧ True ∧ True) ∧ (s = s ∧ (↑(a + (1 : Nat)) : Int) = IntKind.i64.wrap ((a : Int) + 1)) ∧ P.length = P.length ∧ (∀ (i : Nat), i < P.length → prV P [i] = prV P [i]) ∧ ∀ (i : Nat), i < P.length → prL P [i] = prL P [i]) := by kernel_rfl

set_option maxHeartbeats 4000000 in
theorem txQ (t0 t1 t2 : List UInt8) (s : List UInt8) (a : Nat) (P Q : List Pc) (n : Nat) (ha : a < s.length) (hs : s.length ≤ 10000) (hP : P.length ≤ 40) (hA : ((List.range P.length).all fun i => decide ((prL P [i]).length ≤ 1000)) = true) (hQl : Q.length ≤ 41) (h : (s.getD a 0).toNat = 34)  :
    RunsTo Tryd.prog 93 (headL Tryd.f93 0) (envAt Tryd.f93.ntmps ([(0, vP 63), (2, vP 120), (4, vL 121 2 (P).length)])) (Sx.look (sentEnts 23 213 [(5, t0), (6, t1), (0, t2)] ++ (rdW 63 s (a : Nat) ++ (prE 121 (P) ++ [⟨120, true, none, 5, tkT 0 [] 0 .vl0⟩])))) 80 (.tup [(true, tkT (3) ([]) (0) (.vl 141 (fun _ => 0) 2 [] (fun _ => P.length))), (false, .ve0)]) (Sx.look (rdW 63 s (a + 1 : Nat) ++ prE 141 P)) 3000 := by
  have hw1 : IntKind.i64.wrap ((a : Int) + 1) = ((a + 1 : Nat) : Int) := by rw [wr64 (by omega)]; rfl
  have hb0 := u8nat (s.getD a 0)
  have hu0 : u8o ((s.getD a 0).toNat : Int) = s.getD a 0 := by show UInt8.ofNat (((s.getD a 0).toNat : Int)).toNat = _; rw [Int.toNat_natCast]; exact u8nat' _
  have hpp := pcsOf_pr P
  refine runs_last baseTX (Sx.Ends.of (txQ_p0 t0 t1 t2 s a P Q n) ⟨(okc ?_ (okc ?_ (okc ?_ okn))), ?_⟩) (by kernel_rfl) rfl (gtL (by decide)) (by decide)
  all_goals first | (refine And.intro ?_ ?_ <;> ((try simp (disch := omega) only [SS, hw1, hu0, hpp]); (repeat' apply And.intro); (all_goals first | exact True.intro | with_reducible rfl | omega | (intros; first | exact True.intro | with_reducible rfl | omega | (simp_all; done)) | (simp_all; done) | rfl))) | (first | omega | exact hA | (simp (disch := omega) only [SS, hw1, hu0, hpp]; first | done | omega | exact ⟨by omega, hA⟩ | exact ⟨rfl, by omega, hA⟩ | exact ⟨by omega, rfl, by omega, hA⟩ | exact ⟨hb0, rfl, by omega, hA⟩ | exact ⟨⟨by omega, by omega⟩, rfl, by omega, hA⟩ | exact hA) | (simp_all; done) | (simp_all; omega))

theorem txE_p0 (t0 t1 t2 : List UInt8) (s : List UInt8) (a : Nat) (P Q : List Pc) (n : Nat) :
    isEnd (evTill Tryd.prog sumsTX 400 (99) 900 93 (headL Tryd.f93 0) (envAt Tryd.f93.ntmps ([(0, vP 63), (2, vP 120), (4, vL 121 2 (P).length)])) (sentEnts 23 213 [(5, t0), (6, t1), (0, t2)] ++ (rdW 63 s (a : Nat) ++ (prE 121 (P) ++ [⟨120, true, none, 5, tkT 0 [] 0 .vl0⟩]))) ⟨[.s true], 160⟩) (endP ([]) (.tup [(true, tkT (0) ([]) (0) .vl0), (false, vErr 5)]) ([]) 3000) =
    (OkL [(decide ((a : Int) ≥ (↑s.length : Int)), true)] ∧ (((0 : Int) = (0 : Int) ∧ ([] : List UInt8) = [] ∧ (0 : Int) = (0 : Int) ∧ True ∧ (0 : Int) = (0 : Int)) ∧ 0 = 0 ∧ True) ∧ True) := by kernel_rfl

set_option maxHeartbeats 4000000 in
theorem txE (t0 t1 t2 : List UInt8) (s : List UInt8) (a : Nat) (P Q : List Pc) (n : Nat) (ha : a = s.length) (hs : s.length ≤ 10000)  :
    RunsTo Tryd.prog 93 (headL Tryd.f93 0) (envAt Tryd.f93.ntmps ([(0, vP 63), (2, vP 120), (4, vL 121 2 (P).length)])) (Sx.look (sentEnts 23 213 [(5, t0), (6, t1), (0, t2)] ++ (rdW 63 s (a : Nat) ++ (prE 121 (P) ++ [⟨120, true, none, 5, tkT 0 [] 0 .vl0⟩])))) 80 (.tup [(true, tkT (0) ([]) (0) .vl0), (false, vErr 5)]) (Sx.look ([])) 3000 := by
  have hw1 : IntKind.i64.wrap ((a : Int) + 1) = ((a + 1 : Nat) : Int) := by rw [wr64 (by omega)]; rfl
  have hb0 := u8nat (s.getD a 0)
  have hu0 : u8o ((s.getD a 0).toNat : Int) = s.getD a 0 := by show UInt8.ofNat (((s.getD a 0).toNat : Int)).toNat = _; rw [Int.toNat_natCast]; exact u8nat' _
  have hpp := pcsOf_pr P
  refine runs_last baseTX (Sx.Ends.of (txE_p0 t0 t1 t2 s a P Q n) ⟨(okc ?_ okn), ?_⟩) (by kernel_rfl) rfl (gtL (by decide)) (by decide)
  all_goals first | (refine And.intro ?_ ?_ <;> ((try simp (disch := omega) only [SS, hw1, hu0, hpp]); (repeat' apply And.intro); (all_goals first | exact True.intro | with_reducible rfl | omega | (intros; first | exact True.intro | with_reducible rfl | omega | (simp_all; done)) | (simp_all; done) | rfl))) | (first | omega | exact hA | (simp (disch := omega) only [SS, hw1, hu0, hpp]; first | done | omega | exact ⟨by omega, hA⟩ | exact ⟨rfl, by omega, hA⟩ | exact ⟨by omega, rfl, by omega, hA⟩ | exact ⟨hb0, rfl, by omega, hA⟩ | exact ⟨⟨by omega, by omega⟩, rfl, by omega, hA⟩ | exact hA) | (simp_all; done) | (simp_all; omega))

theorem txN_p0 (t0 t1 t2 : List UInt8) (s : List UInt8) (a : Nat) (P Q : List Pc) (n : Nat) :
    isEnd (evTill Tryd.prog sumsTX 400 (99) 900 93 (headL Tryd.f93 0) (envAt Tryd.f93.ntmps ([(0, vP 63), (2, vP 120), (4, vL 121 2 (P).length)])) (sentEnts 23 213 [(5, t0), (6, t1), (0, t2)] ++ (rdW 63 s (a : Nat) ++ (prE 121 (P) ++ [⟨120, true, none, 5, tkT 0 [] 0 .vl0⟩]))) ⟨[.s false, .s true, .s false, .s true, .s false, .s true, .t], 160⟩) (endP ([]) (.tup [(true, tkT (0) ([]) (0) .vl0), (false, vErr 6)]) ([]) 3000) =
    (OkL [(decide ((a : Int) ≥ (↑s.length : Int)), false), (decide ((0 : Int) ≤ (a : Int) ∧ (a : Int) < (↑s.length : Int)), true), ((↑(s.getD (a : Int).toNat (0 : UInt8)).toNat : Int) == 34, false), (decide ((0 : Int) ≤ (a : Int) ∧ (a : Int) < (↑s.length : Int)), true), ((↑(s.getD (a : Int).toNat (0 : UInt8)).toNat : Int) == 36, false), ((↑(s.getD (a : Int).toNat (0 : UInt8)).toNat : Int) == 10, true)] ∧ (((0 : Int) = (0 : Int) ∧ ([] : List UInt8) = [] ∧ (0 : Int) = (0 : Int) ∧ True ∧ (0 : Int) = (0 : Int)) ∧ 0 = 0 ∧ True) ∧ True) := by kernel_rfl

set_option maxHeartbeats 4000000 in
theorem txN (t0 t1 t2 : List UInt8) (s : List UInt8) (a : Nat) (P Q : List Pc) (n : Nat) (ha : a < s.length) (hs : s.length ≤ 10000) (hP : P.length ≤ 40) (hA : ((List.range P.length).all fun i => decide ((prL P [i]).length ≤ 1000)) = true) (hQl : Q.length ≤ 41) (h : (s.getD a 0).toNat = 10)  :
    RunsTo Tryd.prog 93 (headL Tryd.f93 0) (envAt Tryd.f93.ntmps ([(0, vP 63), (2, vP 120), (4, vL 121 2 (P).length)])) (Sx.look (sentEnts 23 213 [(5, t0), (6, t1), (0, t2)] ++ (rdW 63 s (a : Nat) ++ (prE 121 (P) ++ [⟨120, true, none, 5, tkT 0 [] 0 .vl0⟩])))) 80 (.tup [(true, tkT (0) ([]) (0) .vl0), (false, vErr 6)]) (Sx.look ([])) 3000 := by
  have hw1 : IntKind.i64.wrap ((a : Int) + 1) = ((a + 1 : Nat) : Int) := by rw [wr64 (by omega)]; rfl
  have hb0 := u8nat (s.getD a 0)
  have hu0 : u8o ((s.getD a 0).toNat : Int) = s.getD a 0 := by show UInt8.ofNat (((s.getD a 0).toNat : Int)).toNat = _; rw [Int.toNat_natCast]; exact u8nat' _
  have hpp := pcsOf_pr P
  refine runs_last baseTX (Sx.Ends.of (txN_p0 t0 t1 t2 s a P Q n) ⟨(okc ?_ (okc ?_ (okc ?_ (okc ?_ (okc ?_ (okc ?_ okn)))))), ?_⟩) (by kernel_rfl) rfl (gtL (by decide)) (by decide)
  all_goals first | (refine And.intro ?_ ?_ <;> ((try simp (disch := omega) only [SS, hw1, hu0, hpp]); (repeat' apply And.intro); (all_goals first | exact True.intro | with_reducible rfl | omega | (intros; first | exact True.intro | with_reducible rfl | omega | (simp_all; done)) | (simp_all; done) | rfl))) | (first | omega | exact hA | (simp (disch := omega) only [SS, hw1, hu0, hpp]; first | done | omega | exact ⟨by omega, hA⟩ | exact ⟨rfl, by omega, hA⟩ | exact ⟨by omega, rfl, by omega, hA⟩ | exact ⟨hb0, rfl, by omega, hA⟩ | exact ⟨⟨by omega, by omega⟩, rfl, by omega, hA⟩ | exact hA) | (simp_all; done) | (simp_all; omega))

theorem txB_p0 (t0 t1 t2 : List UInt8) (s : List UInt8) (a : Nat) (P Q : List Pc) (n : Nat) :
    isMore (evTill Tryd.prog sumsTX 400 (behindL Tryd.f93 0) 900 93 (headL Tryd.f93 0) (envAt Tryd.f93.ntmps ([(0, vP 63), (2, vP 120), (4, vL 121 2 (P).length)])) (sentEnts 23 213 [(5, t0), (6, t1), (0, t2)] ++ (rdW 63 s (a : Nat) ++ (prE 121 (P) ++ [⟨120, true, none, 5, tkT 0 [] 0 .vl0⟩]))) ⟨[.s false, .s true, .s false, .s true, .s false, .s false, .s false, .s true, .f, .s true, .s false], 160⟩) (moreP (headL Tryd.f93 0) ([(121, Rn.to 221)]) Tryd.f93.ntmps ([(0, vP 63), (2, vP 120), (4, vL 121 2 (Q).length)]) (rdW 63 s (a + 1 : Nat) ++ (prE 121 (Q) ++ [⟨120, true, none, 5, tkT 0 [] 0 .vl0⟩])) 3000) =
    (OkL [(decide ((a : Int) ≥ (↑s.length : Int)), false), (decide ((0 : Int) ≤ (a : Int) ∧ (a : Int) < (↑s.length : Int)), true), ((↑(s.getD (a : Int).toNat (0 : UInt8)).toNat : Int) == 34, false), (decide ((0 : Int) ≤ (a : Int) ∧ (a : Int) < (↑s.length : Int)), true), ((↑(s.getD (a : Int).toNat (0 : UInt8)).toNat : Int) == 36, false), ((↑(s.getD (a : Int).toNat (0 : UInt8)).toNat : Int) == 10, false), ((↑(s.getD (a : Int).toNat (0 : UInt8)).toNat : Int) == 92, false), (decide ((0 : Int) ≤ (↑(s.getD (a : Int).toNat (0 : UInt8)).toNat : Int) ∧ (↑(s.getD (a : Int).toNat (0 : UInt8)).toNat : Int) < 256) && (decide (P.length = P.length) && (decide (P.length ≤ (1000 : Nat)) && (List.range P.length).all fun i => decide ((prL P [i]).length ≤ (1000 : Nat)))), true), (decide ((litP (pcsOf P.length (prV P) (prL P)) (u8o (↑(s.getD (a : Int).toNat (0 : UInt8)).toNat : Int))).length ≤ (litP (pcsOf P.length (prV P) (prL P)) (u8o (↑(s.getD (a : Int).toNat (0 : UInt8)).toNat : Int))).length) && decide ((litP (pcsOf P.length (prV P) (prL P)) (u8o (↑(s.getD (a : Int).toNat (0 : UInt8)).toNat : Int))).length ≤ (100000 : Nat)), true), (!fitsP (pcsOf (litP (pcsOf P.length (prV P) (prL P)) (u8o (↑(s.getD (a : Int).toNat (0 : UInt8)).toNat : Int))).length (prV (litP (pcsOf P.length (prV P) (prL P)) (u8o (↑(s.getD (a : Int).toNat (0 : UInt8)).toNat : Int)))) (prL (litP (pcsOf P.length (prV P) (prL P)) (u8o (↑(s.getD (a : Int).toNat (0 : UInt8)).toNat : Int))))), false)] ∧ headL Tryd.f93 (0 : Nat) = headL Tryd.f93 (0 : Nat) ∧ (0 = 0 ∧ 0 = 0 ∧ 0 = 0 ∧ Q.length = (litP (pcsOf P.length (prV P) (prL P)) (u8o (↑(s.getD (a : Int).toNat (0 : UInt8)).toNat : Int))).length) ∧ (s = s ∧ (↑(a + (1 : Nat)) : Int) = IntKind.i64.wrap ((a : Int) + 1)) ∧ (Q.length = (litP (pcsOf P.length (prV P) (prL P)) (u8o (↑(s.getD (a : Int).toNat (0 : UInt8)).toNat : Int))).length ∧ (∀ (i : Nat), i < Q.length → prV Q [i] = prV (litP (pcsOf P.length (prV P) (prL P)) (u8o (↑(s.getD (a : Int).toNat (0 : UInt8)).toNat : Int))) [i]) ∧ ∀ (i : Nat), i < Q.length → prL Q [i] = prL (litP (pcsOf P.length (prV P) (prL P)) (u8o (↑(s.getD (a : Int).toNat (0 : UInt8)).toNat : Int))) [i]) ∧ (0 : Int) = (0 : Int) ∧ ([] : List UInt8) = [] ∧ (0 : Int) = (0 : Int) ∧ True ∧ (0 : Int) = (0 : Int)) := by kernel_rfl

set_option maxHeartbeats 4000000 in
theorem txB (t0 t1 t2 : List UInt8) (s : List UInt8) (a : Nat) (P Q : List Pc) (n : Nat) (ha : a < s.length) (hs : s.length ≤ 10000) (hP : P.length ≤ 40) (hA : ((List.range P.length).all fun i => decide ((prL P [i]).length ≤ 1000)) = true) (hQl : Q.length ≤ 41) (h1 : (s.getD a 0).toNat ≠ 34) (h2 : (s.getD a 0).toNat ≠ 36) (h3 : (s.getD a 0).toNat ≠ 10) (h4 : (s.getD a 0).toNat ≠ 92) (hQ : litP P (s.getD a 0) = Q) (hf : fitsP Q = true)  (v : SV) (L' : HF) (next : RunsTo Tryd.prog 93 (headL Tryd.f93 0) (envAt Tryd.f93.ntmps ([(0, vP 63), (2, vP 120), (4, vL 121 2 (Q).length)])) (Sx.look (sentEnts 23 213 [(5, t0), (6, t1), (0, t2)] ++ (rdW 63 s (a + 1 : Nat) ++ (prE 121 (Q) ++ [⟨120, true, none, 5, tkT 0 [] 0 .vl0⟩])))) 80 (v) (L') 3000) :
    RunsTo Tryd.prog 93 (headL Tryd.f93 0) (envAt Tryd.f93.ntmps ([(0, vP 63), (2, vP 120), (4, vL 121 2 (P).length)])) (Sx.look (sentEnts 23 213 [(5, t0), (6, t1), (0, t2)] ++ (rdW 63 s (a : Nat) ++ (prE 121 (P) ++ [⟨120, true, none, 5, tkT 0 [] 0 .vl0⟩])))) 80 (v) (L') 3000 := by
  have hw1 : IntKind.i64.wrap ((a : Int) + 1) = ((a + 1 : Nat) : Int) := by rw [wr64 (by omega)]; rfl
  have hb0 := u8nat (s.getD a 0)
  have hu0 : u8o ((s.getD a 0).toNat : Int) = s.getD a 0 := by show UInt8.ofNat (((s.getD a 0).toNat : Int)).toNat = _; rw [Int.toNat_natCast]; exact u8nat' _
  have hpp := pcsOf_pr P
  have hqq := pcsOf_pr Q
  refine runs_more baseTX (More.of (txB_p0 t0 t1 t2 s a P Q n) ⟨(okc ?_ (okc ?_ (okc ?_ (okc ?_ (okc ?_ (okc ?_ (okc ?_ (okc ?_ (okc ?_ (okc ?_ okn)))))))))), rfl, ?_⟩) (by kernel_rfl) (by kernel_rfl) rfl (gtL (by decide)) (by decide) next
  all_goals clear next
  all_goals first | (refine And.intro ?_ ?_ <;> ((try simp (disch := omega) only [SS, hw1, hu0, hpp, hQ, hf, hqq, Go.Sx.sum, Nat.zero_add]); (repeat' apply And.intro); (all_goals first | exact True.intro | with_reducible rfl | omega | (intros; first | exact True.intro | with_reducible rfl | (simp_all; done)) | (simp_all; done)))) | (first | omega | exact hA | (simp (disch := omega) only [SS, hw1, hu0, hpp, hQ, hf, hqq]; first | done | omega | exact ⟨by omega, hA⟩ | exact ⟨rfl, by omega, hA⟩ | exact ⟨by omega, rfl, by omega, hA⟩ | exact ⟨hb0, rfl, by omega, hA⟩ | exact ⟨⟨by omega, by omega⟩, rfl, by omega, hA⟩ | exact hA) | (simp_all; done) | (simp_all; omega))

theorem txBL_p0 (t0 t1 t2 : List UInt8) (s : List UInt8) (a : Nat) (P Q : List Pc) (n : Nat) :
    isEnd (evTill Tryd.prog sumsTX 400 (99) 900 93 (headL Tryd.f93 0) (envAt Tryd.f93.ntmps ([(0, vP 63), (2, vP 120), (4, vL 121 2 (P).length)])) (sentEnts 23 213 [(5, t0), (6, t1), (0, t2)] ++ (rdW 63 s (a : Nat) ++ (prE 121 (P) ++ [⟨120, true, none, 5, tkT 0 [] 0 .vl0⟩]))) ⟨[.s false, .s true, .s false, .s true, .s false, .s false, .s false, .s true, .f, .s true, .s true], 160⟩) (endP ([]) (.tup [(true, tkT (0) ([]) (0) .vl0), (false, vErr 0)]) ([]) 3000) =
    (OkL [(decide ((a : Int) ≥ (↑s.length : Int)), false), (decide ((0 : Int) ≤ (a : Int) ∧ (a : Int) < (↑s.length : Int)), true), ((↑(s.getD (a : Int).toNat (0 : UInt8)).toNat : Int) == 34, false), (decide ((0 : Int) ≤ (a : Int) ∧ (a : Int) < (↑s.length : Int)), true), ((↑(s.getD (a : Int).toNat (0 : UInt8)).toNat : Int) == 36, false), ((↑(s.getD (a : Int).toNat (0 : UInt8)).toNat : Int) == 10, false), ((↑(s.getD (a : Int).toNat (0 : UInt8)).toNat : Int) == 92, false), (decide ((0 : Int) ≤ (↑(s.getD (a : Int).toNat (0 : UInt8)).toNat : Int) ∧ (↑(s.getD (a : Int).toNat (0 : UInt8)).toNat : Int) < 256) && (decide (P.length = P.length) && (decide (P.length ≤ (1000 : Nat)) && (List.range P.length).all fun i => decide ((prL P [i]).length ≤ (1000 : Nat)))), true), (decide ((litP (pcsOf P.length (prV P) (prL P)) (u8o (↑(s.getD (a : Int).toNat (0 : UInt8)).toNat : Int))).length ≤ (litP (pcsOf P.length (prV P) (prL P)) (u8o (↑(s.getD (a : Int).toNat (0 : UInt8)).toNat : Int))).length) && decide ((litP (pcsOf P.length (prV P) (prL P)) (u8o (↑(s.getD (a : Int).toNat (0 : UInt8)).toNat : Int))).length ≤ (100000 : Nat)), true), (!fitsP (pcsOf (litP (pcsOf P.length (prV P) (prL P)) (u8o (↑(s.getD (a : Int).toNat (0 : UInt8)).toNat : Int))).length (prV (litP (pcsOf P.length (prV P) (prL P)) (u8o (↑(s.getD (a : Int).toNat (0 : UInt8)).toNat : Int)))) (prL (litP (pcsOf P.length (prV P) (prL P)) (u8o (↑(s.getD (a : Int).toNat (0 : UInt8)).toNat : Int))))), true)] ∧ (((0 : Int) = (0 : Int) ∧ ([] : List UInt8) = [] ∧ (0 : Int) = (0 : Int) ∧ True ∧ (0 : Int) = (0 : Int)) ∧ 0 = 0 ∧ True) ∧ True) := by kernel_rfl

set_option maxHeartbeats 4000000 in
theorem txBL (t0 t1 t2 : List UInt8) (s : List UInt8) (a : Nat) (P Q : List Pc) (n : Nat) (ha : a < s.length) (hs : s.length ≤ 10000) (hP : P.length ≤ 40) (hA : ((List.range P.length).all fun i => decide ((prL P [i]).length ≤ 1000)) = true) (hQl : Q.length ≤ 41) (h1 : (s.getD a 0).toNat ≠ 34) (h2 : (s.getD a 0).toNat ≠ 36) (h3 : (s.getD a 0).toNat ≠ 10) (h4 : (s.getD a 0).toNat ≠ 92) (hQ : litP P (s.getD a 0) = Q) (hf : fitsP Q = false)  :
    RunsTo Tryd.prog 93 (headL Tryd.f93 0) (envAt Tryd.f93.ntmps ([(0, vP 63), (2, vP 120), (4, vL 121 2 (P).length)])) (Sx.look (sentEnts 23 213 [(5, t0), (6, t1), (0, t2)] ++ (rdW 63 s (a : Nat) ++ (prE 121 (P) ++ [⟨120, true, none, 5, tkT 0 [] 0 .vl0⟩])))) 80 (.tup [(true, tkT (0) ([]) (0) .vl0), (false, vErr 0)]) (Sx.look ([])) 3000 := by
  have hw1 : IntKind.i64.wrap ((a : Int) + 1) = ((a + 1 : Nat) : Int) := by rw [wr64 (by omega)]; rfl
  have hb0 := u8nat (s.getD a 0)
  have hu0 : u8o ((s.getD a 0).toNat : Int) = s.getD a 0 := by show UInt8.ofNat (((s.getD a 0).toNat : Int)).toNat = _; rw [Int.toNat_natCast]; exact u8nat' _
  have hpp := pcsOf_pr P
  have hqq := pcsOf_pr Q
  refine runs_last baseTX (Sx.Ends.of (txBL_p0 t0 t1 t2 s a P Q n) ⟨(okc ?_ (okc ?_ (okc ?_ (okc ?_ (okc ?_ (okc ?_ (okc ?_ (okc ?_ (okc ?_ (okc ?_ okn)))))))))), ?_⟩) (by kernel_rfl) rfl (gtL (by decide)) (by decide)
  all_goals first | (refine And.intro ?_ ?_ <;> ((try simp (disch := omega) only [SS, hw1, hu0, hpp, hQ, hf, hqq]); (repeat' apply And.intro); (all_goals first | exact True.intro | with_reducible rfl | omega | (intros; first | exact True.intro | with_reducible rfl | omega | (simp_all; done)) | (simp_all; done) | rfl))) | (first | omega | exact hA | (simp (disch := omega) only [SS, hw1, hu0, hpp, hQ, hf, hqq]; first | done | omega | exact ⟨by omega, hA⟩ | exact ⟨rfl, by omega, hA⟩ | exact ⟨by omega, rfl, by omega, hA⟩ | exact ⟨hb0, rfl, by omega, hA⟩ | exact ⟨⟨by omega, by omega⟩, rfl, by omega, hA⟩ | exact hA) | (simp_all; done) | (simp_all; omega))

end Go.Proofs.YtaleenklamognaaDoor

set_option linter.unusedSimpArgs false
set_option linter.unusedVariables false
set_option maxRecDepth 100000
namespace Go.Proofs.YtaleenklamognaaDoor
open Go.Sx

open WordR
theorem pcs_app (P : List Pc) (x : List UInt8) : pcsOf (P.length + 1) (appF P.length 0 (prV P) fun js => x) (appF P.length 0 (prL P) fun js => []) = P ++ [⟨x, []⟩] := by
  have hap := pr_app P P.length (prV P) (prL P) (fun js => x) (fun js => []) (pcsOf_pr P).symm ⟨x, []⟩ rfl rfl
  have e := pcsOf_pr (P ++ [⟨x, []⟩])
  rw [List.length_append, List.length_cons, List.length_nil] at e
  rw [← e]
  apply List.map_congr_left
  intro k hk
  have := hap k (by simpa using hk)
  rw [this.1, this.2]
theorem txV_p0 (t0 t1 t2 : List UInt8) (s : List UInt8) (a : Nat) (P Q : List Pc) (n : Nat) (x : List UInt8) (c : UInt8) :
    isMore (evTill Tryd.prog sumsTX 400 (behindL Tryd.f93 0) 900 93 (headL Tryd.f93 0) (envAt Tryd.f93.ntmps ([(0, vP 63), (2, vP 120), (4, vL 121 2 (P).length)])) (sentEnts 23 213 [(5, t0), (6, t1), (0, t2)] ++ (rdW 63 s (a : Nat) ++ (prE 121 (P) ++ [⟨120, true, none, 5, tkT 0 [] 0 .vl0⟩]))) ⟨[.s false, .s true, .s false, .s true, .s true, .s true, .t, .s true, .s true, .f, .s true, .s false], 160⟩) (moreP (headL Tryd.f93 0) ([(121, Rn.to 782)]) Tryd.f93.ntmps ([(0, vP 63), (2, vP 120), (4, vL 121 2 (Q).length)]) (rdW 63 s (a + 1 + (n - 1) : Nat) ++ (prE 121 (Q) ++ [⟨120, true, none, 5, tkT 0 [] 0 .vl0⟩])) 3000) =
    (OkL [(decide ((a : Int) ≥ (↑s.length : Int)), false), (decide ((0 : Int) ≤ (a : Int) ∧ (a : Int) < (↑s.length : Int)), true), ((↑(s.getD (a : Int).toNat (0 : UInt8)).toNat : Int) == 34, false), (decide ((0 : Int) ≤ (a : Int) ∧ (a : Int) < (↑s.length : Int)), true), ((↑(s.getD (a : Int).toNat (0 : UInt8)).toNat : Int) == 36, true), (decide ((0 : Int) ≤ IntKind.i64.wrap ((a : Int) + 1)) && (decide ((IntKind.i64.wrap ((a : Int) + 1)).toNat ≤ s.length) && (decide (s.length ≤ (100000 : Nat)) && isVa (varR (List.drop (IntKind.i64.wrap ((a : Int) + 1)).toNat s)))), true), ((0 + P.length).ble P.length, true), (decide (((2 : Nat) * (P.length + (1 : Nat)) + (192 : Nat)) * (32 : Nat) ≤ (281474976710656 : Nat)), true), (decide (P.length + (1 : Nat) ≤ P.length + (1 : Nat)) && decide (P.length + (1 : Nat) ≤ (100000 : Nat)), true), (!fitsP (pcsOf (P.length + (1 : Nat)) (appF P.length (0 : Nat) (prV P) fun js => vaX (varR (List.drop (IntKind.i64.wrap ((a : Int) + 1)).toNat s))) (appF P.length (0 : Nat) (prL P) fun js => [])), false)] ∧ headL Tryd.f93 (0 : Nat) = headL Tryd.f93 (0 : Nat) ∧ (0 = 0 ∧ 0 = 0 ∧ 0 = 0 ∧ Q.length = P.length + (1 : Nat)) ∧ (s = s ∧ (↑(a + 1 + (n - (1 : Nat))) : Int) = (↑((IntKind.i64.wrap ((a : Int) + 1)).toNat + (o1N (varR (List.drop (IntKind.i64.wrap ((a : Int) + 1)).toNat s)) - (1 : Nat))) : Int)) ∧ (Q.length = P.length + (1 : Nat) ∧ (∀ (i : Nat), i < Q.length → prV Q [i] = appF P.length (0 : Nat) (prV P) (fun js => vaX (varR (List.drop (IntKind.i64.wrap ((a : Int) + 1)).toNat s))) [i]) ∧ ∀ (i : Nat), i < Q.length → prL Q [i] = appF P.length (0 : Nat) (prL P) (fun js => []) [i]) ∧ (0 : Int) = (0 : Int) ∧ ([] : List UInt8) = [] ∧ (0 : Int) = (0 : Int) ∧ True ∧ (0 : Int) = (0 : Int)) := by kernel_rfl

set_option maxHeartbeats 4000000 in
theorem txV (t0 t1 t2 : List UInt8) (s : List UInt8) (a : Nat) (P Q : List Pc) (n : Nat) (x : List UInt8) (c : UInt8) (ha : a < s.length) (hs : s.length ≤ 10000) (hP : P.length ≤ 40) (hA : ((List.range P.length).all fun i => decide ((prL P [i]).length ≤ 1000)) = true) (hQl : Q.length ≤ 41) (h : (s.getD a 0).toNat = 36) (v1 : isVa (varR (s.drop (a + 1))) = true) (v2 : vaX (varR (s.drop (a + 1))) = x) (v3 : o1N (varR (s.drop (a + 1))) = n) (hn : n ≤ 100) (hQ : P ++ [⟨x, []⟩] = Q) (hpa : pcsOf (P.length + 1) (appF P.length 0 (prV P) fun js => x) (appF P.length 0 (prL P) fun js => []) = Q) (hf : fitsP Q = true)  (v : SV) (L' : HF) (next : RunsTo Tryd.prog 93 (headL Tryd.f93 0) (envAt Tryd.f93.ntmps ([(0, vP 63), (2, vP 120), (4, vL 121 2 (Q).length)])) (Sx.look (sentEnts 23 213 [(5, t0), (6, t1), (0, t2)] ++ (rdW 63 s (a + 1 + (n - 1) : Nat) ++ (prE 121 (Q) ++ [⟨120, true, none, 5, tkT 0 [] 0 .vl0⟩])))) 80 (v) (L') 3000) :
    RunsTo Tryd.prog 93 (headL Tryd.f93 0) (envAt Tryd.f93.ntmps ([(0, vP 63), (2, vP 120), (4, vL 121 2 (P).length)])) (Sx.look (sentEnts 23 213 [(5, t0), (6, t1), (0, t2)] ++ (rdW 63 s (a : Nat) ++ (prE 121 (P) ++ [⟨120, true, none, 5, tkT 0 [] 0 .vl0⟩])))) 80 (v) (L') 3000 := by
  have hw1 : IntKind.i64.wrap ((a : Int) + 1) = ((a + 1 : Nat) : Int) := by rw [wr64 (by omega)]; rfl
  have hb0 := u8nat (s.getD a 0)
  have hu0 : u8o ((s.getD a 0).toNat : Int) = s.getD a 0 := by show UInt8.ofNat (((s.getD a 0).toNat : Int)).toNat = _; rw [Int.toNat_natCast]; exact u8nat' _
  have hpp := pcsOf_pr P
  have hap := pr_app P P.length (prV P) (prL P) (fun js => x) (fun js => []) (pcsOf_pr P).symm ⟨x, []⟩ rfl rfl
  rw [hQ] at hap
  have hlq : Q.length = P.length + 1 := by rw [← hQ]; simp
  refine runs_more baseTX (More.of (txV_p0 t0 t1 t2 s a P Q n x c) ⟨(okc ?_ (okc ?_ (okc ?_ (okc ?_ (okc ?_ (okc ?_ (okc ?_ (okc ?_ (okc ?_ (okc ?_ okn)))))))))), rfl, ?_⟩) (by kernel_rfl) (by kernel_rfl) rfl (gtL (by decide)) (by decide) next
  all_goals clear next
  all_goals first | (refine And.intro ?_ ?_ <;> ((try simp (disch := omega) only [SS, hw1, hu0, hpp, v1, v2, v3, hpa, hlq, hf, Go.Sx.sum, Nat.zero_add, List.length_append, List.length_cons, List.length_nil]); (repeat' apply And.intro); (all_goals first | exact True.intro | with_reducible rfl | omega | (intro k hk; exact (hap k (by omega)).1) | (intro k hk; exact (hap k (by omega)).2) | (intros; first | exact True.intro | with_reducible rfl | (simp_all; done)) | (simp_all; done)))) | (first | omega | exact hA | (simp (disch := omega) only [SS, hw1, hu0, hpp, v1, v2, v3, hpa, hlq, hf]; first | done | omega | exact ⟨by omega, hA⟩ | exact ⟨rfl, by omega, hA⟩ | exact ⟨by omega, rfl, by omega, hA⟩ | exact ⟨hb0, rfl, by omega, hA⟩ | exact ⟨⟨by omega, by omega⟩, rfl, by omega, hA⟩ | exact hA) | (simp_all; done) | (simp_all; omega))

theorem txVL_p0 (t0 t1 t2 : List UInt8) (s : List UInt8) (a : Nat) (P Q : List Pc) (n : Nat) (x : List UInt8) (c : UInt8) :
    isEnd (evTill Tryd.prog sumsTX 400 (99) 900 93 (headL Tryd.f93 0) (envAt Tryd.f93.ntmps ([(0, vP 63), (2, vP 120), (4, vL 121 2 (P).length)])) (sentEnts 23 213 [(5, t0), (6, t1), (0, t2)] ++ (rdW 63 s (a : Nat) ++ (prE 121 (P) ++ [⟨120, true, none, 5, tkT 0 [] 0 .vl0⟩]))) ⟨[.s false, .s true, .s false, .s true, .s true, .s true, .t, .s true, .s true, .f, .s true, .s true], 160⟩) (endP ([]) (.tup [(true, tkT (0) ([]) (0) .vl0), (false, vErr 0)]) ([]) 3000) =
    (OkL [(decide ((a : Int) ≥ (↑s.length : Int)), false), (decide ((0 : Int) ≤ (a : Int) ∧ (a : Int) < (↑s.length : Int)), true), ((↑(s.getD (a : Int).toNat (0 : UInt8)).toNat : Int) == 34, false), (decide ((0 : Int) ≤ (a : Int) ∧ (a : Int) < (↑s.length : Int)), true), ((↑(s.getD (a : Int).toNat (0 : UInt8)).toNat : Int) == 36, true), (decide ((0 : Int) ≤ IntKind.i64.wrap ((a : Int) + 1)) && (decide ((IntKind.i64.wrap ((a : Int) + 1)).toNat ≤ s.length) && (decide (s.length ≤ (100000 : Nat)) && isVa (varR (List.drop (IntKind.i64.wrap ((a : Int) + 1)).toNat s)))), true), ((0 + P.length).ble P.length, true), (decide (((2 : Nat) * (P.length + (1 : Nat)) + (192 : Nat)) * (32 : Nat) ≤ (281474976710656 : Nat)), true), (decide (P.length + (1 : Nat) ≤ P.length + (1 : Nat)) && decide (P.length + (1 : Nat) ≤ (100000 : Nat)), true), (!fitsP (pcsOf (P.length + (1 : Nat)) (appF P.length (0 : Nat) (prV P) fun js => vaX (varR (List.drop (IntKind.i64.wrap ((a : Int) + 1)).toNat s))) (appF P.length (0 : Nat) (prL P) fun js => [])), true)] ∧ (((0 : Int) = (0 : Int) ∧ ([] : List UInt8) = [] ∧ (0 : Int) = (0 : Int) ∧ True ∧ (0 : Int) = (0 : Int)) ∧ 0 = 0 ∧ True) ∧ True) := by kernel_rfl

set_option maxHeartbeats 4000000 in
theorem txVL (t0 t1 t2 : List UInt8) (s : List UInt8) (a : Nat) (P Q : List Pc) (n : Nat) (x : List UInt8) (c : UInt8) (ha : a < s.length) (hs : s.length ≤ 10000) (hP : P.length ≤ 40) (hA : ((List.range P.length).all fun i => decide ((prL P [i]).length ≤ 1000)) = true) (hQl : Q.length ≤ 41) (h : (s.getD a 0).toNat = 36) (v1 : isVa (varR (s.drop (a + 1))) = true) (v2 : vaX (varR (s.drop (a + 1))) = x) (v3 : o1N (varR (s.drop (a + 1))) = n) (hn : n ≤ 100) (hQ : P ++ [⟨x, []⟩] = Q) (hpa : pcsOf (P.length + 1) (appF P.length 0 (prV P) fun js => x) (appF P.length 0 (prL P) fun js => []) = Q) (hf : fitsP Q = false)  :
    RunsTo Tryd.prog 93 (headL Tryd.f93 0) (envAt Tryd.f93.ntmps ([(0, vP 63), (2, vP 120), (4, vL 121 2 (P).length)])) (Sx.look (sentEnts 23 213 [(5, t0), (6, t1), (0, t2)] ++ (rdW 63 s (a : Nat) ++ (prE 121 (P) ++ [⟨120, true, none, 5, tkT 0 [] 0 .vl0⟩])))) 80 (.tup [(true, tkT (0) ([]) (0) .vl0), (false, vErr 0)]) (Sx.look ([])) 3000 := by
  have hw1 : IntKind.i64.wrap ((a : Int) + 1) = ((a + 1 : Nat) : Int) := by rw [wr64 (by omega)]; rfl
  have hb0 := u8nat (s.getD a 0)
  have hu0 : u8o ((s.getD a 0).toNat : Int) = s.getD a 0 := by show UInt8.ofNat (((s.getD a 0).toNat : Int)).toNat = _; rw [Int.toNat_natCast]; exact u8nat' _
  have hpp := pcsOf_pr P
  have hap := pr_app P P.length (prV P) (prL P) (fun js => x) (fun js => []) (pcsOf_pr P).symm ⟨x, []⟩ rfl rfl
  rw [hQ] at hap
  have hlq : Q.length = P.length + 1 := by rw [← hQ]; simp
  refine runs_last baseTX (Sx.Ends.of (txVL_p0 t0 t1 t2 s a P Q n x c) ⟨(okc ?_ (okc ?_ (okc ?_ (okc ?_ (okc ?_ (okc ?_ (okc ?_ (okc ?_ (okc ?_ (okc ?_ okn)))))))))), ?_⟩) (by kernel_rfl) rfl (gtL (by decide)) (by decide)
  all_goals first | (refine And.intro ?_ ?_ <;> ((try simp (disch := omega) only [SS, hw1, hu0, hpp, v1, v2, v3, hpa, hlq, hf]); (repeat' apply And.intro); (all_goals first | exact True.intro | with_reducible rfl | omega | (intros; first | exact True.intro | with_reducible rfl | omega | (simp_all; done)) | (simp_all; done) | rfl))) | (first | omega | exact hA | (simp (disch := omega) only [SS, hw1, hu0, hpp, v1, v2, v3, hpa, hlq, hf]; first | done | omega | exact ⟨by omega, hA⟩ | exact ⟨rfl, by omega, hA⟩ | exact ⟨by omega, rfl, by omega, hA⟩ | exact ⟨hb0, rfl, by omega, hA⟩ | exact ⟨⟨by omega, by omega⟩, rfl, by omega, hA⟩ | exact hA) | (simp_all; done) | (simp_all; omega))

theorem txS_p0 (t0 t1 t2 : List UInt8) (s : List UInt8) (a : Nat) (P Q : List Pc) (n : Nat) (x : List UInt8) (c : UInt8) :
    isMore (evTill Tryd.prog sumsTX 400 (behindL Tryd.f93 0) 900 93 (headL Tryd.f93 0) (envAt Tryd.f93.ntmps ([(0, vP 63), (2, vP 120), (4, vL 121 2 (P).length)])) (sentEnts 23 213 [(5, t0), (6, t1), (0, t2)] ++ (rdW 63 s (a : Nat) ++ (prE 121 (P) ++ [⟨120, true, none, 5, tkT 0 [] 0 .vl0⟩]))) ⟨[.s false, .s true, .s false, .s true, .s false, .s false, .s true, .s true, .s true, .f, .s true, .s false], 160⟩) (moreP (headL Tryd.f93 0) ([(121, Rn.to 441)]) Tryd.f93.ntmps ([(0, vP 63), (2, vP 120), (4, vL 121 2 (Q).length)]) (rdW 63 s (a + 1 + (n - 1) : Nat) ++ (prE 121 (Q) ++ [⟨120, true, none, 5, tkT 0 [] 0 .vl0⟩])) 3000) =
    (OkL [(decide ((a : Int) ≥ (↑s.length : Int)), false), (decide ((0 : Int) ≤ (a : Int) ∧ (a : Int) < (↑s.length : Int)), true), ((↑(s.getD (a : Int).toNat (0 : UInt8)).toNat : Int) == 34, false), (decide ((0 : Int) ≤ (a : Int) ∧ (a : Int) < (↑s.length : Int)), true), ((↑(s.getD (a : Int).toNat (0 : UInt8)).toNat : Int) == 36, false), ((↑(s.getD (a : Int).toNat (0 : UInt8)).toNat : Int) == 10, false), ((↑(s.getD (a : Int).toNat (0 : UInt8)).toNat : Int) == 92, true), (decide ((0 : Int) ≤ IntKind.i64.wrap ((a : Int) + 1)) && (decide ((IntKind.i64.wrap ((a : Int) + 1)).toNat ≤ s.length) && (decide (s.length ≤ (100000 : Nat)) && isBy (escR (List.drop (IntKind.i64.wrap ((a : Int) + 1)).toNat s)))), true), (decide ((0 : Int) ≤ (↑(byC (escR (List.drop (IntKind.i64.wrap ((a : Int) + 1)).toNat s))).toNat : Int) ∧ (↑(byC (escR (List.drop (IntKind.i64.wrap ((a : Int) + 1)).toNat s))).toNat : Int) < 256) && (decide (P.length = P.length) && (decide (P.length ≤ (1000 : Nat)) && (List.range P.length).all fun i => decide ((prL P [i]).length ≤ (1000 : Nat)))), true), (decide ((litP (pcsOf P.length (prV P) (prL P)) (u8o (↑(byC (escR (List.drop (IntKind.i64.wrap ((a : Int) + 1)).toNat s))).toNat : Int))).length ≤ (litP (pcsOf P.length (prV P) (prL P)) (u8o (↑(byC (escR (List.drop (IntKind.i64.wrap ((a : Int) + 1)).toNat s))).toNat : Int))).length) && decide ((litP (pcsOf P.length (prV P) (prL P)) (u8o (↑(byC (escR (List.drop (IntKind.i64.wrap ((a : Int) + 1)).toNat s))).toNat : Int))).length ≤ (100000 : Nat)), true), (!fitsP (pcsOf (litP (pcsOf P.length (prV P) (prL P)) (u8o (↑(byC (escR (List.drop (IntKind.i64.wrap ((a : Int) + 1)).toNat s))).toNat : Int))).length (prV (litP (pcsOf P.length (prV P) (prL P)) (u8o (↑(byC (escR (List.drop (IntKind.i64.wrap ((a : Int) + 1)).toNat s))).toNat : Int)))) (prL (litP (pcsOf P.length (prV P) (prL P)) (u8o (↑(byC (escR (List.drop (IntKind.i64.wrap ((a : Int) + 1)).toNat s))).toNat : Int))))), false)] ∧ headL Tryd.f93 (0 : Nat) = headL Tryd.f93 (0 : Nat) ∧ (0 = 0 ∧ 0 = 0 ∧ 0 = 0 ∧ Q.length = (litP (pcsOf P.length (prV P) (prL P)) (u8o (↑(byC (escR (List.drop (IntKind.i64.wrap ((a : Int) + 1)).toNat s))).toNat : Int))).length) ∧ (s = s ∧ (↑(a + 1 + (n - (1 : Nat))) : Int) = (↑((IntKind.i64.wrap ((a : Int) + 1)).toNat + (o1N (escR (List.drop (IntKind.i64.wrap ((a : Int) + 1)).toNat s)) - (1 : Nat))) : Int)) ∧ (Q.length = (litP (pcsOf P.length (prV P) (prL P)) (u8o (↑(byC (escR (List.drop (IntKind.i64.wrap ((a : Int) + 1)).toNat s))).toNat : Int))).length ∧ (∀ (i : Nat), i < Q.length → prV Q [i] = prV (litP (pcsOf P.length (prV P) (prL P)) (u8o (↑(byC (escR (List.drop (IntKind.i64.wrap ((a : Int) + 1)).toNat s))).toNat : Int))) [i]) ∧ ∀ (i : Nat), i < Q.length → prL Q [i] = prL (litP (pcsOf P.length (prV P) (prL P)) (u8o (↑(byC (escR (List.drop (IntKind.i64.wrap ((a : Int) + 1)).toNat s))).toNat : Int))) [i]) ∧ (0 : Int) = (0 : Int) ∧ ([] : List UInt8) = [] ∧ (0 : Int) = (0 : Int) ∧ True ∧ (0 : Int) = (0 : Int)) := by kernel_rfl

set_option maxHeartbeats 4000000 in
theorem txS (t0 t1 t2 : List UInt8) (s : List UInt8) (a : Nat) (P Q : List Pc) (n : Nat) (x : List UInt8) (c : UInt8) (ha : a < s.length) (hs : s.length ≤ 10000) (hP : P.length ≤ 40) (hA : ((List.range P.length).all fun i => decide ((prL P [i]).length ≤ 1000)) = true) (hQl : Q.length ≤ 41) (h : (s.getD a 0).toNat = 92) (v1 : isBy (escR (s.drop (a + 1))) = true) (v2 : byC (escR (s.drop (a + 1))) = c) (v3 : o1N (escR (s.drop (a + 1))) = n) (hn : n ≤ 100) (hQ : litP P c = Q) (hf : fitsP Q = true)  (v : SV) (L' : HF) (next : RunsTo Tryd.prog 93 (headL Tryd.f93 0) (envAt Tryd.f93.ntmps ([(0, vP 63), (2, vP 120), (4, vL 121 2 (Q).length)])) (Sx.look (sentEnts 23 213 [(5, t0), (6, t1), (0, t2)] ++ (rdW 63 s (a + 1 + (n - 1) : Nat) ++ (prE 121 (Q) ++ [⟨120, true, none, 5, tkT 0 [] 0 .vl0⟩])))) 80 (v) (L') 3000) :
    RunsTo Tryd.prog 93 (headL Tryd.f93 0) (envAt Tryd.f93.ntmps ([(0, vP 63), (2, vP 120), (4, vL 121 2 (P).length)])) (Sx.look (sentEnts 23 213 [(5, t0), (6, t1), (0, t2)] ++ (rdW 63 s (a : Nat) ++ (prE 121 (P) ++ [⟨120, true, none, 5, tkT 0 [] 0 .vl0⟩])))) 80 (v) (L') 3000 := by
  have hw1 : IntKind.i64.wrap ((a : Int) + 1) = ((a + 1 : Nat) : Int) := by rw [wr64 (by omega)]; rfl
  have hb0 := u8nat (s.getD a 0)
  have hu0 : u8o ((s.getD a 0).toNat : Int) = s.getD a 0 := by show UInt8.ofNat (((s.getD a 0).toNat : Int)).toNat = _; rw [Int.toNat_natCast]; exact u8nat' _
  have hpp := pcsOf_pr P
  have huc : u8o (c.toNat : Int) = c := by show UInt8.ofNat ((c.toNat : Int)).toNat = _; rw [Int.toNat_natCast]; exact u8nat' _
  have hqq := pcsOf_pr Q
  have hbc := u8nat c
  refine runs_more baseTX (More.of (txS_p0 t0 t1 t2 s a P Q n x c) ⟨(okc ?_ (okc ?_ (okc ?_ (okc ?_ (okc ?_ (okc ?_ (okc ?_ (okc ?_ (okc ?_ (okc ?_ (okc ?_ okn))))))))))), rfl, ?_⟩) (by kernel_rfl) (by kernel_rfl) rfl (gtL (by decide)) (by decide) next
  all_goals clear next
  all_goals first | (refine And.intro ?_ ?_ <;> ((try simp (disch := omega) only [SS, hw1, hu0, hpp, v1, v2, v3, huc, hQ, hqq, hf, Go.Sx.sum, Nat.zero_add, List.length_append, List.length_cons, List.length_nil]); (repeat' apply And.intro); (all_goals first | exact True.intro | with_reducible rfl | omega | (intros; first | exact True.intro | with_reducible rfl | (simp_all; done)) | (simp_all; done)))) | (first | omega | exact hA | (simp (disch := omega) only [SS, hw1, hu0, hpp, v1, v2, v3, huc, hQ, hqq, hf]; first | done | omega | exact ⟨by omega, hA⟩ | exact ⟨rfl, by omega, hA⟩ | exact ⟨by omega, rfl, by omega, hA⟩ | exact ⟨hb0, rfl, by omega, hA⟩ | exact ⟨⟨by omega, by omega⟩, rfl, by omega, hA⟩ | exact hA) | (simp_all; done) | (simp_all; omega))

theorem txSL_p0 (t0 t1 t2 : List UInt8) (s : List UInt8) (a : Nat) (P Q : List Pc) (n : Nat) (x : List UInt8) (c : UInt8) :
    isEnd (evTill Tryd.prog sumsTX 400 (99) 900 93 (headL Tryd.f93 0) (envAt Tryd.f93.ntmps ([(0, vP 63), (2, vP 120), (4, vL 121 2 (P).length)])) (sentEnts 23 213 [(5, t0), (6, t1), (0, t2)] ++ (rdW 63 s (a : Nat) ++ (prE 121 (P) ++ [⟨120, true, none, 5, tkT 0 [] 0 .vl0⟩]))) ⟨[.s false, .s true, .s false, .s true, .s false, .s false, .s true, .s true, .s true, .f, .s true, .s true], 160⟩) (endP ([]) (.tup [(true, tkT (0) ([]) (0) .vl0), (false, vErr 0)]) ([]) 3000) =
    (OkL [(decide ((a : Int) ≥ (↑s.length : Int)), false), (decide ((0 : Int) ≤ (a : Int) ∧ (a : Int) < (↑s.length : Int)), true), ((↑(s.getD (a : Int).toNat (0 : UInt8)).toNat : Int) == 34, false), (decide ((0 : Int) ≤ (a : Int) ∧ (a : Int) < (↑s.length : Int)), true), ((↑(s.getD (a : Int).toNat (0 : UInt8)).toNat : Int) == 36, false), ((↑(s.getD (a : Int).toNat (0 : UInt8)).toNat : Int) == 10, false), ((↑(s.getD (a : Int).toNat (0 : UInt8)).toNat : Int) == 92, true), (decide ((0 : Int) ≤ IntKind.i64.wrap ((a : Int) + 1)) && (decide ((IntKind.i64.wrap ((a : Int) + 1)).toNat ≤ s.length) && (decide (s.length ≤ (100000 : Nat)) && isBy (escR (List.drop (IntKind.i64.wrap ((a : Int) + 1)).toNat s)))), true), (decide ((0 : Int) ≤ (↑(byC (escR (List.drop (IntKind.i64.wrap ((a : Int) + 1)).toNat s))).toNat : Int) ∧ (↑(byC (escR (List.drop (IntKind.i64.wrap ((a : Int) + 1)).toNat s))).toNat : Int) < 256) && (decide (P.length = P.length) && (decide (P.length ≤ (1000 : Nat)) && (List.range P.length).all fun i => decide ((prL P [i]).length ≤ (1000 : Nat)))), true), (decide ((litP (pcsOf P.length (prV P) (prL P)) (u8o (↑(byC (escR (List.drop (IntKind.i64.wrap ((a : Int) + 1)).toNat s))).toNat : Int))).length ≤ (litP (pcsOf P.length (prV P) (prL P)) (u8o (↑(byC (escR (List.drop (IntKind.i64.wrap ((a : Int) + 1)).toNat s))).toNat : Int))).length) && decide ((litP (pcsOf P.length (prV P) (prL P)) (u8o (↑(byC (escR (List.drop (IntKind.i64.wrap ((a : Int) + 1)).toNat s))).toNat : Int))).length ≤ (100000 : Nat)), true), (!fitsP (pcsOf (litP (pcsOf P.length (prV P) (prL P)) (u8o (↑(byC (escR (List.drop (IntKind.i64.wrap ((a : Int) + 1)).toNat s))).toNat : Int))).length (prV (litP (pcsOf P.length (prV P) (prL P)) (u8o (↑(byC (escR (List.drop (IntKind.i64.wrap ((a : Int) + 1)).toNat s))).toNat : Int)))) (prL (litP (pcsOf P.length (prV P) (prL P)) (u8o (↑(byC (escR (List.drop (IntKind.i64.wrap ((a : Int) + 1)).toNat s))).toNat : Int))))), true)] ∧ (((0 : Int) = (0 : Int) ∧ ([] : List UInt8) = [] ∧ (0 : Int) = (0 : Int) ∧ True ∧ (0 : Int) = (0 : Int)) ∧ 0 = 0 ∧ True) ∧ True) := by kernel_rfl

set_option maxHeartbeats 4000000 in
theorem txSL (t0 t1 t2 : List UInt8) (s : List UInt8) (a : Nat) (P Q : List Pc) (n : Nat) (x : List UInt8) (c : UInt8) (ha : a < s.length) (hs : s.length ≤ 10000) (hP : P.length ≤ 40) (hA : ((List.range P.length).all fun i => decide ((prL P [i]).length ≤ 1000)) = true) (hQl : Q.length ≤ 41) (h : (s.getD a 0).toNat = 92) (v1 : isBy (escR (s.drop (a + 1))) = true) (v2 : byC (escR (s.drop (a + 1))) = c) (v3 : o1N (escR (s.drop (a + 1))) = n) (hn : n ≤ 100) (hQ : litP P c = Q) (hf : fitsP Q = false)  :
    RunsTo Tryd.prog 93 (headL Tryd.f93 0) (envAt Tryd.f93.ntmps ([(0, vP 63), (2, vP 120), (4, vL 121 2 (P).length)])) (Sx.look (sentEnts 23 213 [(5, t0), (6, t1), (0, t2)] ++ (rdW 63 s (a : Nat) ++ (prE 121 (P) ++ [⟨120, true, none, 5, tkT 0 [] 0 .vl0⟩])))) 80 (.tup [(true, tkT (0) ([]) (0) .vl0), (false, vErr 0)]) (Sx.look ([])) 3000 := by
  have hw1 : IntKind.i64.wrap ((a : Int) + 1) = ((a + 1 : Nat) : Int) := by rw [wr64 (by omega)]; rfl
  have hb0 := u8nat (s.getD a 0)
  have hu0 : u8o ((s.getD a 0).toNat : Int) = s.getD a 0 := by show UInt8.ofNat (((s.getD a 0).toNat : Int)).toNat = _; rw [Int.toNat_natCast]; exact u8nat' _
  have hpp := pcsOf_pr P
  have huc : u8o (c.toNat : Int) = c := by show UInt8.ofNat ((c.toNat : Int)).toNat = _; rw [Int.toNat_natCast]; exact u8nat' _
  have hqq := pcsOf_pr Q
  have hbc := u8nat c
  refine runs_last baseTX (Sx.Ends.of (txSL_p0 t0 t1 t2 s a P Q n x c) ⟨(okc ?_ (okc ?_ (okc ?_ (okc ?_ (okc ?_ (okc ?_ (okc ?_ (okc ?_ (okc ?_ (okc ?_ (okc ?_ okn))))))))))), ?_⟩) (by kernel_rfl) rfl (gtL (by decide)) (by decide)
  all_goals first | (refine And.intro ?_ ?_ <;> ((try simp (disch := omega) only [SS, hw1, hu0, hpp, v1, v2, v3, huc, hQ, hqq, hf]); (repeat' apply And.intro); (all_goals first | exact True.intro | with_reducible rfl | omega | (intros; first | exact True.intro | with_reducible rfl | omega | (simp_all; done)) | (simp_all; done) | rfl))) | (first | omega | exact hA | (simp (disch := omega) only [SS, hw1, hu0, hpp, v1, v2, v3, huc, hQ, hqq, hf]; first | done | omega | exact ⟨by omega, hA⟩ | exact ⟨rfl, by omega, hA⟩ | exact ⟨by omega, rfl, by omega, hA⟩ | exact ⟨hb0, rfl, by omega, hA⟩ | exact ⟨⟨by omega, by omega⟩, rfl, by omega, hA⟩ | exact hA) | (simp_all; done) | (simp_all; omega))

theorem txVs_p0 (t0 t1 t2 : List UInt8) (s : List UInt8) (a : Nat) (P Q : List Pc) (n : Nat) (x : List UInt8) (c : UInt8) :
    isEnd (evTill Tryd.prog sumsTXs 400 (99) 900 93 (headL Tryd.f93 0) (envAt Tryd.f93.ntmps ([(0, vP 63), (2, vP 120), (4, vL 121 2 (P).length)])) (sentEnts 23 213 [(5, t0), (6, t1), (0, t2)] ++ (rdW 63 s (a : Nat) ++ (prE 121 (P) ++ [⟨120, true, none, 5, tkT 0 [] 0 .vl0⟩]))) ⟨[.s false, .s true, .s false, .s true, .s true, .s true, .t, .s true, .s true, .t], 160⟩) (endP ([]) (.tup [(true, tkT (0) ([]) (0) .vl0), (false, vErr 5)]) ([]) 3000) =
    (OkL [(decide ((a : Int) ≥ (↑s.length : Int)), false), (decide ((0 : Int) ≤ (a : Int) ∧ (a : Int) < (↑s.length : Int)), true), ((↑(s.getD (a : Int).toNat (0 : UInt8)).toNat : Int) == 34, false), (decide ((0 : Int) ≤ (a : Int) ∧ (a : Int) < (↑s.length : Int)), true), ((↑(s.getD (a : Int).toNat (0 : UInt8)).toNat : Int) == 36, true), (decide ((0 : Int) ≤ IntKind.i64.wrap ((a : Int) + 1)) && (decide ((IntKind.i64.wrap ((a : Int) + 1)).toNat ≤ s.length) && (decide (s.length ≤ (100000 : Nat)) && isEr (3 : Nat) (varR (List.drop (IntKind.i64.wrap ((a : Int) + 1)).toNat s)))), true), ((0 + P.length).ble P.length, true), (decide (((2 : Nat) * (P.length + (1 : Nat)) + (192 : Nat)) * (32 : Nat) ≤ (281474976710656 : Nat)), true)] ∧ (((0 : Int) = (0 : Int) ∧ ([] : List UInt8) = [] ∧ (0 : Int) = (0 : Int) ∧ True ∧ (0 : Int) = (0 : Int)) ∧ 0 = 0 ∧ True) ∧ True) := by kernel_rfl

set_option maxHeartbeats 4000000 in
theorem txVs (t0 t1 t2 : List UInt8) (s : List UInt8) (a : Nat) (P Q : List Pc) (n : Nat) (x : List UInt8) (c : UInt8) (ha : a < s.length) (hs : s.length ≤ 10000) (hP : P.length ≤ 40) (hA : ((List.range P.length).all fun i => decide ((prL P [i]).length ≤ 1000)) = true) (hQl : Q.length ≤ 41) (h : (s.getD a 0).toNat = 36) (v1 : isEr 3 (varR (s.drop (a + 1))) = true)  :
    RunsTo Tryd.prog 93 (headL Tryd.f93 0) (envAt Tryd.f93.ntmps ([(0, vP 63), (2, vP 120), (4, vL 121 2 (P).length)])) (Sx.look (sentEnts 23 213 [(5, t0), (6, t1), (0, t2)] ++ (rdW 63 s (a : Nat) ++ (prE 121 (P) ++ [⟨120, true, none, 5, tkT 0 [] 0 .vl0⟩])))) 80 (.tup [(true, tkT (0) ([]) (0) .vl0), (false, vErr 5)]) (Sx.look ([])) 3000 := by
  have hw1 : IntKind.i64.wrap ((a : Int) + 1) = ((a + 1 : Nat) : Int) := by rw [wr64 (by omega)]; rfl
  have hb0 := u8nat (s.getD a 0)
  have hu0 : u8o ((s.getD a 0).toNat : Int) = s.getD a 0 := by show UInt8.ofNat (((s.getD a 0).toNat : Int)).toNat = _; rw [Int.toNat_natCast]; exact u8nat' _
  have hpp := pcsOf_pr P
  refine runs_last baseTXs (Sx.Ends.of (txVs_p0 t0 t1 t2 s a P Q n x c) ⟨(okc ?_ (okc ?_ (okc ?_ (okc ?_ (okc ?_ (okc ?_ (okc ?_ (okc ?_ okn)))))))), ?_⟩) (by kernel_rfl) rfl (gtL (by decide)) (by decide)
  all_goals first | (refine And.intro ?_ ?_ <;> ((try simp (disch := omega) only [SS, hw1, hu0, hpp, v1]); (repeat' apply And.intro); (all_goals first | exact True.intro | with_reducible rfl | omega | (intros; first | exact True.intro | with_reducible rfl | omega | (simp_all; done)) | (simp_all; done) | rfl))) | (first | omega | exact hA | (simp (disch := omega) only [SS, hw1, hu0, hpp, v1]; first | done | omega | exact ⟨by omega, hA⟩ | exact ⟨rfl, by omega, hA⟩ | exact ⟨by omega, rfl, by omega, hA⟩ | exact ⟨hb0, rfl, by omega, hA⟩ | exact ⟨⟨by omega, by omega⟩, rfl, by omega, hA⟩ | exact hA) | (simp_all; done) | (simp_all; omega))

theorem txVf_p0 (t0 t1 t2 : List UInt8) (s : List UInt8) (a : Nat) (P Q : List Pc) (n : Nat) (x : List UInt8) (c : UInt8) :
    isEnd (evTill Tryd.prog sumsTXf 400 (99) 900 93 (headL Tryd.f93 0) (envAt Tryd.f93.ntmps ([(0, vP 63), (2, vP 120), (4, vL 121 2 (P).length)])) (sentEnts 23 213 [(5, t0), (6, t1), (0, t2)] ++ (rdW 63 s (a : Nat) ++ (prE 121 (P) ++ [⟨120, true, none, 5, tkT 0 [] 0 .vl0⟩]))) ⟨[.s false, .s true, .s false, .s true, .s true, .s true, .t, .s true, .s true, .t], 160⟩) (endP ([]) (.tup [(true, tkT (0) ([]) (0) .vl0), (false, vErr 6)]) ([]) 3000) =
    (OkL [(decide ((a : Int) ≥ (↑s.length : Int)), false), (decide ((0 : Int) ≤ (a : Int) ∧ (a : Int) < (↑s.length : Int)), true), ((↑(s.getD (a : Int).toNat (0 : UInt8)).toNat : Int) == 34, false), (decide ((0 : Int) ≤ (a : Int) ∧ (a : Int) < (↑s.length : Int)), true), ((↑(s.getD (a : Int).toNat (0 : UInt8)).toNat : Int) == 36, true), (decide ((0 : Int) ≤ IntKind.i64.wrap ((a : Int) + 1)) && (decide ((IntKind.i64.wrap ((a : Int) + 1)).toNat ≤ s.length) && (decide (s.length ≤ (100000 : Nat)) && isEr (5 : Nat) (varR (List.drop (IntKind.i64.wrap ((a : Int) + 1)).toNat s)))), true), ((0 + P.length).ble P.length, true), (decide (((2 : Nat) * (P.length + (1 : Nat)) + (192 : Nat)) * (32 : Nat) ≤ (281474976710656 : Nat)), true)] ∧ (((0 : Int) = (0 : Int) ∧ ([] : List UInt8) = [] ∧ (0 : Int) = (0 : Int) ∧ True ∧ (0 : Int) = (0 : Int)) ∧ 0 = 0 ∧ True) ∧ True) := by kernel_rfl

set_option maxHeartbeats 4000000 in
theorem txVf (t0 t1 t2 : List UInt8) (s : List UInt8) (a : Nat) (P Q : List Pc) (n : Nat) (x : List UInt8) (c : UInt8) (ha : a < s.length) (hs : s.length ≤ 10000) (hP : P.length ≤ 40) (hA : ((List.range P.length).all fun i => decide ((prL P [i]).length ≤ 1000)) = true) (hQl : Q.length ≤ 41) (h : (s.getD a 0).toNat = 36) (v1 : isEr 5 (varR (s.drop (a + 1))) = true)  :
    RunsTo Tryd.prog 93 (headL Tryd.f93 0) (envAt Tryd.f93.ntmps ([(0, vP 63), (2, vP 120), (4, vL 121 2 (P).length)])) (Sx.look (sentEnts 23 213 [(5, t0), (6, t1), (0, t2)] ++ (rdW 63 s (a : Nat) ++ (prE 121 (P) ++ [⟨120, true, none, 5, tkT 0 [] 0 .vl0⟩])))) 80 (.tup [(true, tkT (0) ([]) (0) .vl0), (false, vErr 6)]) (Sx.look ([])) 3000 := by
  have hw1 : IntKind.i64.wrap ((a : Int) + 1) = ((a + 1 : Nat) : Int) := by rw [wr64 (by omega)]; rfl
  have hb0 := u8nat (s.getD a 0)
  have hu0 : u8o ((s.getD a 0).toNat : Int) = s.getD a 0 := by show UInt8.ofNat (((s.getD a 0).toNat : Int)).toNat = _; rw [Int.toNat_natCast]; exact u8nat' _
  have hpp := pcsOf_pr P
  refine runs_last baseTXf (Sx.Ends.of (txVf_p0 t0 t1 t2 s a P Q n x c) ⟨(okc ?_ (okc ?_ (okc ?_ (okc ?_ (okc ?_ (okc ?_ (okc ?_ (okc ?_ okn)))))))), ?_⟩) (by kernel_rfl) rfl (gtL (by decide)) (by decide)
  all_goals first | (refine And.intro ?_ ?_ <;> ((try simp (disch := omega) only [SS, hw1, hu0, hpp, v1]); (repeat' apply And.intro); (all_goals first | exact True.intro | with_reducible rfl | omega | (intros; first | exact True.intro | with_reducible rfl | omega | (simp_all; done)) | (simp_all; done) | rfl))) | (first | omega | exact hA | (simp (disch := omega) only [SS, hw1, hu0, hpp, v1]; first | done | omega | exact ⟨by omega, hA⟩ | exact ⟨rfl, by omega, hA⟩ | exact ⟨by omega, rfl, by omega, hA⟩ | exact ⟨hb0, rfl, by omega, hA⟩ | exact ⟨⟨by omega, by omega⟩, rfl, by omega, hA⟩ | exact hA) | (simp_all; done) | (simp_all; omega))

theorem txVl_p0 (t0 t1 t2 : List UInt8) (s : List UInt8) (a : Nat) (P Q : List Pc) (n : Nat) (x : List UInt8) (c : UInt8) :
    isEnd (evTill Tryd.prog sumsTXl 400 (99) 900 93 (headL Tryd.f93 0) (envAt Tryd.f93.ntmps ([(0, vP 63), (2, vP 120), (4, vL 121 2 (P).length)])) (sentEnts 23 213 [(5, t0), (6, t1), (0, t2)] ++ (rdW 63 s (a : Nat) ++ (prE 121 (P) ++ [⟨120, true, none, 5, tkT 0 [] 0 .vl0⟩]))) ⟨[.s false, .s true, .s false, .s true, .s true, .s true, .t, .s true, .s true, .t], 160⟩) (endP ([]) (.tup [(true, tkT (0) ([]) (0) .vl0), (false, vErr 0)]) ([]) 3000) =
    (OkL [(decide ((a : Int) ≥ (↑s.length : Int)), false), (decide ((0 : Int) ≤ (a : Int) ∧ (a : Int) < (↑s.length : Int)), true), ((↑(s.getD (a : Int).toNat (0 : UInt8)).toNat : Int) == 34, false), (decide ((0 : Int) ≤ (a : Int) ∧ (a : Int) < (↑s.length : Int)), true), ((↑(s.getD (a : Int).toNat (0 : UInt8)).toNat : Int) == 36, true), (decide ((0 : Int) ≤ IntKind.i64.wrap ((a : Int) + 1)) && (decide ((IntKind.i64.wrap ((a : Int) + 1)).toNat ≤ s.length) && (decide (s.length ≤ (100000 : Nat)) && isEr (4 : Nat) (varR (List.drop (IntKind.i64.wrap ((a : Int) + 1)).toNat s)))), true), ((0 + P.length).ble P.length, true), (decide (((2 : Nat) * (P.length + (1 : Nat)) + (192 : Nat)) * (32 : Nat) ≤ (281474976710656 : Nat)), true)] ∧ (((0 : Int) = (0 : Int) ∧ ([] : List UInt8) = [] ∧ (0 : Int) = (0 : Int) ∧ True ∧ (0 : Int) = (0 : Int)) ∧ 0 = 0 ∧ True) ∧ True) := by kernel_rfl

set_option maxHeartbeats 4000000 in
theorem txVl (t0 t1 t2 : List UInt8) (s : List UInt8) (a : Nat) (P Q : List Pc) (n : Nat) (x : List UInt8) (c : UInt8) (ha : a < s.length) (hs : s.length ≤ 10000) (hP : P.length ≤ 40) (hA : ((List.range P.length).all fun i => decide ((prL P [i]).length ≤ 1000)) = true) (hQl : Q.length ≤ 41) (h : (s.getD a 0).toNat = 36) (v1 : isEr 4 (varR (s.drop (a + 1))) = true)  :
    RunsTo Tryd.prog 93 (headL Tryd.f93 0) (envAt Tryd.f93.ntmps ([(0, vP 63), (2, vP 120), (4, vL 121 2 (P).length)])) (Sx.look (sentEnts 23 213 [(5, t0), (6, t1), (0, t2)] ++ (rdW 63 s (a : Nat) ++ (prE 121 (P) ++ [⟨120, true, none, 5, tkT 0 [] 0 .vl0⟩])))) 80 (.tup [(true, tkT (0) ([]) (0) .vl0), (false, vErr 0)]) (Sx.look ([])) 3000 := by
  have hw1 : IntKind.i64.wrap ((a : Int) + 1) = ((a + 1 : Nat) : Int) := by rw [wr64 (by omega)]; rfl
  have hb0 := u8nat (s.getD a 0)
  have hu0 : u8o ((s.getD a 0).toNat : Int) = s.getD a 0 := by show UInt8.ofNat (((s.getD a 0).toNat : Int)).toNat = _; rw [Int.toNat_natCast]; exact u8nat' _
  have hpp := pcsOf_pr P
  refine runs_last baseTXl (Sx.Ends.of (txVl_p0 t0 t1 t2 s a P Q n x c) ⟨(okc ?_ (okc ?_ (okc ?_ (okc ?_ (okc ?_ (okc ?_ (okc ?_ (okc ?_ okn)))))))), ?_⟩) (by kernel_rfl) rfl (gtL (by decide)) (by decide)
  all_goals first | (refine And.intro ?_ ?_ <;> ((try simp (disch := omega) only [SS, hw1, hu0, hpp, v1]); (repeat' apply And.intro); (all_goals first | exact True.intro | with_reducible rfl | omega | (intros; first | exact True.intro | with_reducible rfl | omega | (simp_all; done)) | (simp_all; done) | rfl))) | (first | omega | exact hA | (simp (disch := omega) only [SS, hw1, hu0, hpp, v1]; first | done | omega | exact ⟨by omega, hA⟩ | exact ⟨rfl, by omega, hA⟩ | exact ⟨by omega, rfl, by omega, hA⟩ | exact ⟨hb0, rfl, by omega, hA⟩ | exact ⟨⟨by omega, by omega⟩, rfl, by omega, hA⟩ | exact hA) | (simp_all; done) | (simp_all; omega))

theorem txSs_p0 (t0 t1 t2 : List UInt8) (s : List UInt8) (a : Nat) (P Q : List Pc) (n : Nat) (x : List UInt8) (c : UInt8) :
    isEnd (evTill Tryd.prog sumsTXs 400 (99) 900 93 (headL Tryd.f93 0) (envAt Tryd.f93.ntmps ([(0, vP 63), (2, vP 120), (4, vL 121 2 (P).length)])) (sentEnts 23 213 [(5, t0), (6, t1), (0, t2)] ++ (rdW 63 s (a : Nat) ++ (prE 121 (P) ++ [⟨120, true, none, 5, tkT 0 [] 0 .vl0⟩]))) ⟨[.s false, .s true, .s false, .s true, .s false, .s false, .s true, .s true, .s true, .t], 160⟩) (endP ([]) (.tup [(true, tkT (0) ([]) (0) .vl0), (false, vErr 5)]) ([]) 3000) =
    (OkL [(decide ((a : Int) ≥ (↑s.length : Int)), false), (decide ((0 : Int) ≤ (a : Int) ∧ (a : Int) < (↑s.length : Int)), true), ((↑(s.getD (a : Int).toNat (0 : UInt8)).toNat : Int) == 34, false), (decide ((0 : Int) ≤ (a : Int) ∧ (a : Int) < (↑s.length : Int)), true), ((↑(s.getD (a : Int).toNat (0 : UInt8)).toNat : Int) == 36, false), ((↑(s.getD (a : Int).toNat (0 : UInt8)).toNat : Int) == 10, false), ((↑(s.getD (a : Int).toNat (0 : UInt8)).toNat : Int) == 92, true), (decide ((0 : Int) ≤ IntKind.i64.wrap ((a : Int) + 1)) && (decide ((IntKind.i64.wrap ((a : Int) + 1)).toNat ≤ s.length) && (decide (s.length ≤ (100000 : Nat)) && isEr (3 : Nat) (escR (List.drop (IntKind.i64.wrap ((a : Int) + 1)).toNat s)))), true), (decide ((0 : Int) ≤ 0 ∧ (0 : Int) < 256) && (decide (P.length = P.length) && (decide (P.length ≤ (1000 : Nat)) && (List.range P.length).all fun i => decide ((prL P [i]).length ≤ (1000 : Nat)))), true)] ∧ (((0 : Int) = (0 : Int) ∧ ([] : List UInt8) = [] ∧ (0 : Int) = (0 : Int) ∧ True ∧ (0 : Int) = (0 : Int)) ∧ 0 = 0 ∧ True) ∧ True) := by kernel_rfl

set_option maxHeartbeats 4000000 in
theorem txSs (t0 t1 t2 : List UInt8) (s : List UInt8) (a : Nat) (P Q : List Pc) (n : Nat) (x : List UInt8) (c : UInt8) (ha : a < s.length) (hs : s.length ≤ 10000) (hP : P.length ≤ 40) (hA : ((List.range P.length).all fun i => decide ((prL P [i]).length ≤ 1000)) = true) (hQl : Q.length ≤ 41) (h : (s.getD a 0).toNat = 92) (v1 : isEr 3 (escR (s.drop (a + 1))) = true)  :
    RunsTo Tryd.prog 93 (headL Tryd.f93 0) (envAt Tryd.f93.ntmps ([(0, vP 63), (2, vP 120), (4, vL 121 2 (P).length)])) (Sx.look (sentEnts 23 213 [(5, t0), (6, t1), (0, t2)] ++ (rdW 63 s (a : Nat) ++ (prE 121 (P) ++ [⟨120, true, none, 5, tkT 0 [] 0 .vl0⟩])))) 80 (.tup [(true, tkT (0) ([]) (0) .vl0), (false, vErr 5)]) (Sx.look ([])) 3000 := by
  have hw1 : IntKind.i64.wrap ((a : Int) + 1) = ((a + 1 : Nat) : Int) := by rw [wr64 (by omega)]; rfl
  have hb0 := u8nat (s.getD a 0)
  have hu0 : u8o ((s.getD a 0).toNat : Int) = s.getD a 0 := by show UInt8.ofNat (((s.getD a 0).toNat : Int)).toNat = _; rw [Int.toNat_natCast]; exact u8nat' _
  have hpp := pcsOf_pr P
  refine runs_last baseTXs (Sx.Ends.of (txSs_p0 t0 t1 t2 s a P Q n x c) ⟨(okc ?_ (okc ?_ (okc ?_ (okc ?_ (okc ?_ (okc ?_ (okc ?_ (okc ?_ (okc ?_ okn))))))))), ?_⟩) (by kernel_rfl) rfl (gtL (by decide)) (by decide)
  all_goals first | (refine And.intro ?_ ?_ <;> ((try simp (disch := omega) only [SS, hw1, hu0, hpp, v1]); (repeat' apply And.intro); (all_goals first | exact True.intro | with_reducible rfl | omega | (intros; first | exact True.intro | with_reducible rfl | omega | (simp_all; done)) | (simp_all; done) | rfl))) | (first | omega | exact hA | (simp (disch := omega) only [SS, hw1, hu0, hpp, v1]; first | done | omega | exact ⟨by omega, hA⟩ | exact ⟨rfl, by omega, hA⟩ | exact ⟨by omega, rfl, by omega, hA⟩ | exact ⟨hb0, rfl, by omega, hA⟩ | exact ⟨⟨by omega, by omega⟩, rfl, by omega, hA⟩ | exact hA) | (simp_all; done) | (simp_all; omega))

theorem txSf_p0 (t0 t1 t2 : List UInt8) (s : List UInt8) (a : Nat) (P Q : List Pc) (n : Nat) (x : List UInt8) (c : UInt8) :
    isEnd (evTill Tryd.prog sumsTXf 400 (99) 900 93 (headL Tryd.f93 0) (envAt Tryd.f93.ntmps ([(0, vP 63), (2, vP 120), (4, vL 121 2 (P).length)])) (sentEnts 23 213 [(5, t0), (6, t1), (0, t2)] ++ (rdW 63 s (a : Nat) ++ (prE 121 (P) ++ [⟨120, true, none, 5, tkT 0 [] 0 .vl0⟩]))) ⟨[.s false, .s true, .s false, .s true, .s false, .s false, .s true, .s true, .s true, .t], 160⟩) (endP ([]) (.tup [(true, tkT (0) ([]) (0) .vl0), (false, vErr 6)]) ([]) 3000) =
    (OkL [(decide ((a : Int) ≥ (↑s.length : Int)), false), (decide ((0 : Int) ≤ (a : Int) ∧ (a : Int) < (↑s.length : Int)), true), ((↑(s.getD (a : Int).toNat (0 : UInt8)).toNat : Int) == 34, false), (decide ((0 : Int) ≤ (a : Int) ∧ (a : Int) < (↑s.length : Int)), true), ((↑(s.getD (a : Int).toNat (0 : UInt8)).toNat : Int) == 36, false), ((↑(s.getD (a : Int).toNat (0 : UInt8)).toNat : Int) == 10, false), ((↑(s.getD (a : Int).toNat (0 : UInt8)).toNat : Int) == 92, true), (decide ((0 : Int) ≤ IntKind.i64.wrap ((a : Int) + 1)) && (decide ((IntKind.i64.wrap ((a : Int) + 1)).toNat ≤ s.length) && (decide (s.length ≤ (100000 : Nat)) && isEr (5 : Nat) (escR (List.drop (IntKind.i64.wrap ((a : Int) + 1)).toNat s)))), true), (decide ((0 : Int) ≤ 0 ∧ (0 : Int) < 256) && (decide (P.length = P.length) && (decide (P.length ≤ (1000 : Nat)) && (List.range P.length).all fun i => decide ((prL P [i]).length ≤ (1000 : Nat)))), true)] ∧ (((0 : Int) = (0 : Int) ∧ ([] : List UInt8) = [] ∧ (0 : Int) = (0 : Int) ∧ True ∧ (0 : Int) = (0 : Int)) ∧ 0 = 0 ∧ True) ∧ True) := by kernel_rfl

set_option maxHeartbeats 4000000 in
theorem txSf (t0 t1 t2 : List UInt8) (s : List UInt8) (a : Nat) (P Q : List Pc) (n : Nat) (x : List UInt8) (c : UInt8) (ha : a < s.length) (hs : s.length ≤ 10000) (hP : P.length ≤ 40) (hA : ((List.range P.length).all fun i => decide ((prL P [i]).length ≤ 1000)) = true) (hQl : Q.length ≤ 41) (h : (s.getD a 0).toNat = 92) (v1 : isEr 5 (escR (s.drop (a + 1))) = true)  :
    RunsTo Tryd.prog 93 (headL Tryd.f93 0) (envAt Tryd.f93.ntmps ([(0, vP 63), (2, vP 120), (4, vL 121 2 (P).length)])) (Sx.look (sentEnts 23 213 [(5, t0), (6, t1), (0, t2)] ++ (rdW 63 s (a : Nat) ++ (prE 121 (P) ++ [⟨120, true, none, 5, tkT 0 [] 0 .vl0⟩])))) 80 (.tup [(true, tkT (0) ([]) (0) .vl0), (false, vErr 6)]) (Sx.look ([])) 3000 := by
  have hw1 : IntKind.i64.wrap ((a : Int) + 1) = ((a + 1 : Nat) : Int) := by rw [wr64 (by omega)]; rfl
  have hb0 := u8nat (s.getD a 0)
  have hu0 : u8o ((s.getD a 0).toNat : Int) = s.getD a 0 := by show UInt8.ofNat (((s.getD a 0).toNat : Int)).toNat = _; rw [Int.toNat_natCast]; exact u8nat' _
  have hpp := pcsOf_pr P
  refine runs_last baseTXf (Sx.Ends.of (txSf_p0 t0 t1 t2 s a P Q n x c) ⟨(okc ?_ (okc ?_ (okc ?_ (okc ?_ (okc ?_ (okc ?_ (okc ?_ (okc ?_ (okc ?_ okn))))))))), ?_⟩) (by kernel_rfl) rfl (gtL (by decide)) (by decide)
  all_goals first | (refine And.intro ?_ ?_ <;> ((try simp (disch := omega) only [SS, hw1, hu0, hpp, v1]); (repeat' apply And.intro); (all_goals first | exact True.intro | with_reducible rfl | omega | (intros; first | exact True.intro | with_reducible rfl | omega | (simp_all; done)) | (simp_all; done) | rfl))) | (first | omega | exact hA | (simp (disch := omega) only [SS, hw1, hu0, hpp, v1]; first | done | omega | exact ⟨by omega, hA⟩ | exact ⟨rfl, by omega, hA⟩ | exact ⟨by omega, rfl, by omega, hA⟩ | exact ⟨hb0, rfl, by omega, hA⟩ | exact ⟨⟨by omega, by omega⟩, rfl, by omega, hA⟩ | exact hA) | (simp_all; done) | (simp_all; omega))

end Go.Proofs.YtaleenklamognaaDoor

set_option linter.unusedSimpArgs false
set_option linter.unusedVariables false
set_option maxRecDepth 100000
namespace Go.Proofs.YtaleenklamognaaDoor
open Go.Sx

open WordR
def txR (s : List UInt8) (a : Nat) : TR := textR ((s.drop (a + 1)).length + 1) (s.drop (a + 1)) [] 1
def TXR (s : List UInt8) (a0 : Nat) (X : SV → HF → Prop) : TR → Prop
  | .ok t m => X (.tup [(true, tkT (3) ([]) (0) (.vl 141 (fun _ => 0) 2 [] (fun _ => (t.ps).length))), (false, .ve0)]) (Sx.look (rdW 63 s (a0 + m : Nat) ++ prE 141 t.ps))
  | .err e => (e = 3 ∧ X (.tup [(true, tkT (0) ([]) (0) .vl0), (false, vErr 5)]) (Sx.look [])) ∨ (e = 5 ∧ X (.tup [(true, tkT (0) ([]) (0) .vl0), (false, vErr 6)]) (Sx.look [])) ∨ (e = 4 ∧ X (.tup [(true, tkT (0) ([]) (0) .vl0), (false, vErr 0)]) (Sx.look []))
theorem TXR.step {s : List UInt8} {a0 : Nat} {X Y : SV → HF → Prop} (h : ∀ v L', X v L' → Y v L') : ∀ {r : TR}, TXR s a0 X r → TXR s a0 Y r
  | .ok t m, q => h _ _ q
  | .err e, q => q.imp (fun x => ⟨x.1, h _ _ x.2⟩) (fun q => q.imp (fun x => ⟨x.1, h _ _ x.2⟩) (fun x => ⟨x.1, h _ _ x.2⟩))
theorem varR_ok : ∀ (l : List UInt8) {x : List UInt8} {n : Nat}, varR l = .var x n → 2 ≤ n ∧ n ≤ 25 ∧ n ≤ l.length + 1 ∧ x ≠ []
  | [], x, n, h => by cases h
  | d :: r, x, n, h => by
    rw [varR] at h
    split at h
    · injection h with h1 h2; subst h1 h2; simp
    · split at h
      · cases h
      · split at h
        · cases h
        · rename_i hf hl hn
          injection h with h1 h2
          have hle := span_le goI (d :: r)
          have hg : goI (nat d) = true := by simp only [Bool.not_eq_false] at hl; simp [goI, hl]
          have h1' : 1 ≤ spanR goI (d :: r) := by rw [spanR, if_pos hg]; omega
          subst h1 h2
          refine ⟨by omega, by omega, by omega, fun e => ?_⟩
          have := congrArg List.length e
          rw [List.length_take, List.length_nil] at this
          omega
theorem varR_nb : ∀ (l : List UInt8) {c : UInt8} {n : Nat}, varR l ≠ .byte c n
  | [], c, n, h => by cases h
  | d :: r, c, n, h => by rw [varR] at h; repeat' split at h
                          all_goals cases h
theorem escR_ok : ∀ (l : List UInt8) {c : UInt8} {n : Nat}, escR l = .byte c n → 2 ≤ n ∧ n ≤ 4 ∧ n ≤ l.length + 1
  | [], c, n, h => by cases h
  | d :: r, c, n, h => by
    have hx : ∀ {c n}, hexR r = .byte c n → n = 4 ∧ 2 ≤ r.length := by
      intro c n h
      match r, h with
      | [], h => cases h
      | [x], h => rw [hexR] at h; split at h <;> cases h
      | x :: y :: q, h =>
        rw [hexR] at h
        repeat' split at h
        all_goals first | (cases h; done) | (injection h with h1 h2; subst h2; simp)
    rw [escR] at h
    simp only [List.length_cons]
    repeat' split at h
    all_goals first | (cases h; done) | (have := hx h; omega) | (injection h with h1 h2; omega)
theorem escR_nv : ∀ (l : List UInt8) {x : List UInt8} {n : Nat}, escR l ≠ .var x n
  | [], c, n, h => by cases h
  | d :: r, c, n, h => by
    have hx : ∀ {x n}, hexR r ≠ .var x n := by
      intro x n h
      match r, h with
      | [], h => cases h
      | [x], h => rw [hexR] at h; split at h <;> cases h
      | x :: y :: q, h => rw [hexR] at h; repeat' split at h
                          all_goals cases h
    rw [escR] at h
    repeat' split at h
    all_goals first | (cases h; done) | exact hx h
theorem fits_len {P : List Pc} (h : fitsP P = true) : P.length ≤ 40 ∧ ((List.range P.length).all fun i => decide ((prL P [i]).length ≤ 1000)) = true := by
  unfold fitsP at h
  simp only [Bool.and_eq_true, decide_eq_true_eq, List.all_eq_true] at h
  refine ⟨h.1, List.all_eq_true.2 fun i hi => decide_eq_true ?_⟩
  have hi := List.mem_range.1 hi
  have e : prL P [i] = (P[i]).lit := by simp [prL, List.getD_eq_getElem?_getD, List.getElem?_eq_getElem hi]
  rw [e]
  have := h.2 _ (List.getElem_mem hi)
  omega
theorem litP_le (P : List Pc) (c : UInt8) : (litP P c).length ≤ P.length + 1 := by
  rw [litP_len]; split <;> omega
theorem txLoop (t0 t1 t2 s : List UInt8) (a0 : Nat) (hs : s.length ≤ 10000) : ∀ (f a n : Nat) (P : List Pc), a = a0 + n → a ≤ s.length → s.length - a < f → fitsP P = true → TXR s a0 (fun v L' => RunsTo Tryd.prog 93 (headL Tryd.f93 0) (envAt Tryd.f93.ntmps ([(0, vP 63), (2, vP 120), (4, vL 121 2 (P).length)])) (Sx.look (sentEnts 23 213 [(5, t0), (6, t1), (0, t2)] ++ (rdW 63 s (a : Nat) ++ (prE 121 (P) ++ [⟨120, true, none, 5, tkT 0 [] 0 .vl0⟩])))) 80 (v) (L') 3000) (textR f (s.drop a) P n) := by
  intro f
  induction f with
  | zero => intro a n P _ _ h; omega
  | succ f ih =>
    intro a n P han ha hfu hf
    have hl := fits_len hf
    have hP := hl.1
    have hA := hl.2
    by_cases hae : s.length ≤ a
    · rw [List.drop_eq_nil_of_le hae]
      exact .inl ⟨rfl, txE t0 t1 t2 s a P P 0 (by omega) hs⟩
    have hlt : a < s.length := by omega
    have hd := drop_at s hlt
    rw [hd, textR]
    by_cases h34 : s.getD a 0 = 34
    · rw [if_pos h34]
      have q := txQ t0 t1 t2 s a P P 0 hlt hs hP hA (by omega) (by rw [h34]; rfl)
      rw [show a + 1 = a0 + (n + 1) by omega] at q
      exact q
    rw [if_neg h34]
    have ho : oneR (s.getD a 0 :: s.drop (a + 1)) = if s.getD a 0 = 36 then varR (s.drop (a + 1)) else if s.getD a 0 = 10 then .err 5 else if s.getD a 0 = 92 then escR (s.drop (a + 1)) else .byte (s.getD a 0) 1 := rfl
    rw [ho]
    have hdl : (s.drop (a + 1)).length = s.length - (a + 1) := List.length_drop
    by_cases h36 : s.getD a 0 = 36
    · rw [if_pos h36]
      have h36 : (s.getD a 0).toNat = 36 := by rw [h36]; rfl
      cases hz : varR (s.drop (a + 1)) with
      | byte c k => exact absurd hz (varR_nb _)
      | var x k =>
        have hk := varR_ok _ hz
        simp only
        by_cases hq : fitsP (P ++ [⟨x, []⟩]) = true
        · rw [if_pos hq]
          have st := txV t0 t1 t2 s a P (P ++ [⟨x, []⟩]) k x 0 hlt hs hP hA (by simp; omega) h36 (by rw [hz]; rfl) (by rw [hz]; rfl) (by rw [hz]; rfl) (by omega) rfl (pcs_app P x) hq
          rw [show a + 1 + (k - 1) = a0 + (n + k) by omega] at st
          refine TXR.step st ?_
          rw [← hd, List.drop_drop, show a + k = a0 + (n + k) by omega]
          exact ih (a0 + (n + k)) (n + k) _ rfl (by omega) (by omega) hq
        · rw [if_neg hq]
          exact .inr (.inr ⟨rfl, txVL t0 t1 t2 s a P (P ++ [⟨x, []⟩]) k x 0 hlt hs hP hA (by simp; omega) h36 (by rw [hz]; rfl) (by rw [hz]; rfl) (by rw [hz]; rfl) (by omega) rfl (pcs_app P x) (by simpa using hq)⟩)
      | err e =>
        simp only
        have q := vrT t0 t1 t2 s (a + 1) (by omega) (by omega)
        rw [hz] at q
        rcases q with ⟨rfl, _⟩ | ⟨rfl, _⟩ | ⟨rfl, _⟩
        · exact .inl ⟨rfl, txVs t0 t1 t2 s a P P 0 [] 0 hlt hs hP hA (by omega) h36 (by rw [hz]; rfl)⟩
        · exact .inr (.inl ⟨rfl, txVf t0 t1 t2 s a P P 0 [] 0 hlt hs hP hA (by omega) h36 (by rw [hz]; rfl)⟩)
        · exact .inr (.inr ⟨rfl, txVl t0 t1 t2 s a P P 0 [] 0 hlt hs hP hA (by omega) h36 (by rw [hz]; rfl)⟩)
    rw [if_neg h36]
    by_cases h10 : s.getD a 0 = 10
    · rw [if_pos h10]
      exact .inr (.inl ⟨rfl, txN t0 t1 t2 s a P P 0 hlt hs hP hA (by omega) (by rw [h10]; rfl)⟩)
    rw [if_neg h10]
    by_cases h92 : s.getD a 0 = 92
    · rw [if_pos h92]
      have h92 : (s.getD a 0).toNat = 92 := by rw [h92]; rfl
      cases hz : escR (s.drop (a + 1)) with
      | var x k => exact absurd hz (escR_nv _)
      | byte c k =>
        have hk := escR_ok _ hz
        have hQl := litP_le P c
        simp only
        by_cases hq : fitsP (litP P c) = true
        · rw [if_pos hq]
          have st := txS t0 t1 t2 s a P (litP P c) k [] c hlt hs hP hA (by omega) h92 (by rw [hz]; rfl) (by rw [hz]; rfl) (by rw [hz]; rfl) (by omega) rfl hq
          rw [show a + 1 + (k - 1) = a0 + (n + k) by omega] at st
          refine TXR.step st ?_
          rw [← hd, List.drop_drop, show a + k = a0 + (n + k) by omega]
          exact ih (a0 + (n + k)) (n + k) _ rfl (by omega) (by omega) hq
        · rw [if_neg hq]
          exact .inr (.inr ⟨rfl, txSL t0 t1 t2 s a P (litP P c) k [] c hlt hs hP hA (by omega) h92 (by rw [hz]; rfl) (by rw [hz]; rfl) (by rw [hz]; rfl) (by omega) rfl (by simpa using hq)⟩)
      | err e =>
        simp only
        have q := esT t0 t1 s (a + 1) (by omega) (by omega)
        rw [hz] at q
        rcases q with ⟨rfl, _⟩ | ⟨rfl, _⟩
        · exact .inl ⟨rfl, txSs t0 t1 t2 s a P P 0 [] 0 hlt hs hP hA (by omega) h92 (by rw [hz]; rfl)⟩
        · exact .inr (.inl ⟨rfl, txSf t0 t1 t2 s a P P 0 [] 0 hlt hs hP hA (by omega) h92 (by rw [hz]; rfl)⟩)
    rw [if_neg h92]
    have hQl := litP_le P (s.getD a 0)
    simp only
    by_cases hq : fitsP (litP P (s.getD a 0)) = true
    · rw [if_pos hq]
      have st := txB t0 t1 t2 s a P _ 0 hlt hs hP hA (by omega) (nat_ne h34) (nat_ne h36) (nat_ne h10) (nat_ne h92) rfl hq
      rw [show a + 1 = a0 + (n + 1) by omega] at st
      refine TXR.step st ?_
      rw [List.drop_succ_cons, List.drop_zero, show a + 1 = a0 + (n + 1) by omega]
      exact ih (a0 + (n + 1)) (n + 1) _ rfl (by omega) (by omega) hq
    · rw [if_neg hq]
      exact .inr (.inr ⟨rfl, txBL t0 t1 t2 s a P _ 0 hlt hs hP hA (by omega) (nat_ne h34) (nat_ne h36) (nat_ne h10) (nat_ne h92) rfl (by simpa using hq)⟩)
theorem txT (t0 t1 t2 s : List UInt8) (a : Nat) (ha : a < s.length) (hs : s.length ≤ 10000) : TXR s a (fun v L' => RunsTo Tryd.prog 93 [.code (bodyOf Tryd.f93)] (envOf [vP 63] Tryd.f93.ntmps) (Sx.look (sentEnts 23 213 [(5, t0), (6, t1), (0, t2)] ++ (rdW 63 s (a : Nat)))) 80 (v) (L') 3000) (txR s a) :=
  TXR.step (tx0 t0 t1 t2 s a ha hs) (txLoop t0 t1 t2 s a hs _ (a + 1) 1 [] rfl (by omega) (by rw [List.length_drop]; omega) rfl)
theorem txOkT (t0 t1 t2 s : List UInt8) (a : Nat) (ha : a < s.length) (hs : s.length ≤ 10000) (h : isOkR (txR s a) = true) : RunsTo Tryd.prog 93 [.code (bodyOf Tryd.f93)] (envOf [vP 63] Tryd.f93.ntmps) (Sx.look (sentEnts 23 213 [(5, t0), (6, t1), (0, t2)] ++ (rdW 63 s (a : Nat)))) 80 (.tup [(true, tkT (3) ([]) (0) (.vl 141 (fun _ => 0) 2 [] (fun _ => ((okT (txR s a)).ps).length))), (false, .ve0)]) (Sx.look (rdW 63 s (a + okN (txR s a) : Nat) ++ prE 141 (okT (txR s a)).ps)) 3000 := by
  have q := txT t0 t1 t2 s a ha hs
  cases hz : txR s a with
  | ok t m => rw [hz] at q; exact q
  | err e =>
    rw [hz] at h; cases h
theorem txShT (t0 t1 t2 s : List UInt8) (a : Nat) (ha : a < s.length) (hs : s.length ≤ 10000) (h : isErR 3 (txR s a) = true) : RunsTo Tryd.prog 93 [.code (bodyOf Tryd.f93)] (envOf [vP 63] Tryd.f93.ntmps) (Sx.look (sentEnts 23 213 [(5, t0), (6, t1), (0, t2)] ++ (rdW 63 s (a : Nat)))) 80 (.tup [(true, tkT (0) ([]) (0) .vl0), (false, vErr 5)]) (Sx.look ([])) 3000 := by
  have q := txT t0 t1 t2 s a ha hs
  cases hz : txR s a with
  | ok t m =>
    rw [hz] at h; cases h
  | err e =>
    rw [hz] at h q
    have he : e = 3 := by simpa [isErR] using h
    subst he
    simpa [TXR] using q
theorem txFoT (t0 t1 t2 s : List UInt8) (a : Nat) (ha : a < s.length) (hs : s.length ≤ 10000) (h : isErR 5 (txR s a) = true) : RunsTo Tryd.prog 93 [.code (bodyOf Tryd.f93)] (envOf [vP 63] Tryd.f93.ntmps) (Sx.look (sentEnts 23 213 [(5, t0), (6, t1), (0, t2)] ++ (rdW 63 s (a : Nat)))) 80 (.tup [(true, tkT (0) ([]) (0) .vl0), (false, vErr 6)]) (Sx.look ([])) 3000 := by
  have q := txT t0 t1 t2 s a ha hs
  cases hz : txR s a with
  | ok t m =>
    rw [hz] at h; cases h
  | err e =>
    rw [hz] at h q
    have he : e = 5 := by simpa [isErR] using h
    subst he
    simpa [TXR] using q
theorem txLoT (t0 t1 t2 s : List UInt8) (a : Nat) (ha : a < s.length) (hs : s.length ≤ 10000) (h : isErR 4 (txR s a) = true) : RunsTo Tryd.prog 93 [.code (bodyOf Tryd.f93)] (envOf [vP 63] Tryd.f93.ntmps) (Sx.look (sentEnts 23 213 [(5, t0), (6, t1), (0, t2)] ++ (rdW 63 s (a : Nat)))) 80 (.tup [(true, tkT (0) ([]) (0) .vl0), (false, vErr 0)]) (Sx.look ([])) 3000 := by
  have q := txT t0 t1 t2 s a ha hs
  cases hz : txR s a with
  | ok t m =>
    rw [hz] at h; cases h
  | err e =>
    rw [hz] at h q
    have he : e = 4 := by simpa [isErR] using h
    subst he
    simpa [TXR] using q
def txOkP : PC := { args := [.v (.vp 63)], heap := [⟨63, true, 2, .tc (.vs 0) (.tc (.vi .i64 1) .t0)⟩], gs := [5, 6, 0], G := 23, tp := 213, n := 80, n' := 3000, cond := fun e => decide (0 ≤ eI e 1 []) && (decide ((eI e 1 []).toNat < (eS e 0 []).length) && (decide ((eS e 0 []).length ≤ 10000) && isOkR (txR (eS e 0 []) (eI e 1 []).toNat))), v := fun e => .tup [(true, tkT (3) ([]) (0) (.vl 141 (fun _ => 0) 2 [] (fun _ => ((okT (txR (eS e 0 []) (eI e 1 []).toNat)).ps).length))), (false, .ve0)], post := fun e => rdW 63 (eS e 0 []) ((eI e 1 []).toNat + okN (txR (eS e 0 []) (eI e 1 []).toNat) : Nat) ++ prE 141 (okT (txR (eS e 0 []) (eI e 1 []).toNat)).ps }
theorem txOkP_pc : PC.Runs Tryd.prog 93 Tryd.f93 (bodyOf Tryd.f93) txOkP := ⟨Tryd.func93, by kernel_rfl, (fun g hg => by first | (cases hg; done) | (revert g; show ∀ g ∈ ([5, 6, 0] : List Nat), g < 23; decide)), fun e H hc => by
  have hc : (decide (0 ≤ eI e 1 []) && (decide ((eI e 1 []).toNat < (eS e 0 []).length) && (decide ((eS e 0 []).length ≤ 10000) && isOkR (txR (eS e 0 []) (eI e 1 []).toNat)))) = true := hc
  try simp only [Bool.and_eq_true, decide_eq_true_eq, Nat.beq_eq] at hc
  exact by obtain ⟨h1, h2, h3, h4⟩ := hc; have hj : ((eI e 1 []).toNat : Int) = eI e 1 [] := Int.toNat_of_nonneg h1; have q := txOkT (textAt H 28) (textAt H 29) (textAt H 23) (eS e 0 []) (eI e 1 []).toNat h2 h3 h4; rw [hj] at q; exact q⟩
def txShP : PC := { args := [.v (.vp 63)], heap := [⟨63, true, 2, .tc (.vs 0) (.tc (.vi .i64 1) .t0)⟩], gs := [5, 6, 0], G := 23, tp := 213, n := 80, n' := 3000, cond := fun e => decide (0 ≤ eI e 1 []) && (decide ((eI e 1 []).toNat < (eS e 0 []).length) && (decide ((eS e 0 []).length ≤ 10000) && isErR 3 (txR (eS e 0 []) (eI e 1 []).toNat))), v := fun e => .tup [(true, tkT (0) ([]) (0) .vl0), (false, vErr 5)], post := fun e => [] }
theorem txShP_pc : PC.Runs Tryd.prog 93 Tryd.f93 (bodyOf Tryd.f93) txShP := ⟨Tryd.func93, by kernel_rfl, (fun g hg => by first | (cases hg; done) | (revert g; show ∀ g ∈ ([5, 6, 0] : List Nat), g < 23; decide)), fun e H hc => by
  have hc : (decide (0 ≤ eI e 1 []) && (decide ((eI e 1 []).toNat < (eS e 0 []).length) && (decide ((eS e 0 []).length ≤ 10000) && isErR 3 (txR (eS e 0 []) (eI e 1 []).toNat)))) = true := hc
  try simp only [Bool.and_eq_true, decide_eq_true_eq, Nat.beq_eq] at hc
  exact by obtain ⟨h1, h2, h3, h4⟩ := hc; have hj : ((eI e 1 []).toNat : Int) = eI e 1 [] := Int.toNat_of_nonneg h1; have q := txShT (textAt H 28) (textAt H 29) (textAt H 23) (eS e 0 []) (eI e 1 []).toNat h2 h3 h4; rw [hj] at q; exact q⟩
def txFoP : PC := { args := [.v (.vp 63)], heap := [⟨63, true, 2, .tc (.vs 0) (.tc (.vi .i64 1) .t0)⟩], gs := [5, 6, 0], G := 23, tp := 213, n := 80, n' := 3000, cond := fun e => decide (0 ≤ eI e 1 []) && (decide ((eI e 1 []).toNat < (eS e 0 []).length) && (decide ((eS e 0 []).length ≤ 10000) && isErR 5 (txR (eS e 0 []) (eI e 1 []).toNat))), v := fun e => .tup [(true, tkT (0) ([]) (0) .vl0), (false, vErr 6)], post := fun e => [] }
theorem txFoP_pc : PC.Runs Tryd.prog 93 Tryd.f93 (bodyOf Tryd.f93) txFoP := ⟨Tryd.func93, by kernel_rfl, (fun g hg => by first | (cases hg; done) | (revert g; show ∀ g ∈ ([5, 6, 0] : List Nat), g < 23; decide)), fun e H hc => by
  have hc : (decide (0 ≤ eI e 1 []) && (decide ((eI e 1 []).toNat < (eS e 0 []).length) && (decide ((eS e 0 []).length ≤ 10000) && isErR 5 (txR (eS e 0 []) (eI e 1 []).toNat)))) = true := hc
  try simp only [Bool.and_eq_true, decide_eq_true_eq, Nat.beq_eq] at hc
  exact by obtain ⟨h1, h2, h3, h4⟩ := hc; have hj : ((eI e 1 []).toNat : Int) = eI e 1 [] := Int.toNat_of_nonneg h1; have q := txFoT (textAt H 28) (textAt H 29) (textAt H 23) (eS e 0 []) (eI e 1 []).toNat h2 h3 h4; rw [hj] at q; exact q⟩
def txLoP : PC := { args := [.v (.vp 63)], heap := [⟨63, true, 2, .tc (.vs 0) (.tc (.vi .i64 1) .t0)⟩], gs := [5, 6, 0], G := 23, tp := 213, n := 80, n' := 3000, cond := fun e => decide (0 ≤ eI e 1 []) && (decide ((eI e 1 []).toNat < (eS e 0 []).length) && (decide ((eS e 0 []).length ≤ 10000) && isErR 4 (txR (eS e 0 []) (eI e 1 []).toNat))), v := fun e => .tup [(true, tkT (0) ([]) (0) .vl0), (false, vErr 0)], post := fun e => [] }
theorem txLoP_pc : PC.Runs Tryd.prog 93 Tryd.f93 (bodyOf Tryd.f93) txLoP := ⟨Tryd.func93, by kernel_rfl, (fun g hg => by first | (cases hg; done) | (revert g; show ∀ g ∈ ([5, 6, 0] : List Nat), g < 23; decide)), fun e H hc => by
  have hc : (decide (0 ≤ eI e 1 []) && (decide ((eI e 1 []).toNat < (eS e 0 []).length) && (decide ((eS e 0 []).length ≤ 10000) && isErR 4 (txR (eS e 0 []) (eI e 1 []).toNat)))) = true := hc
  try simp only [Bool.and_eq_true, decide_eq_true_eq, Nat.beq_eq] at hc
  exact by obtain ⟨h1, h2, h3, h4⟩ := hc; have hj : ((eI e 1 []).toNat : Int) = eI e 1 [] := Int.toNat_of_nonneg h1; have q := txLoT (textAt H 28) (textAt H 29) (textAt H 23) (eS e 0 []) (eI e 1 []).toNat h2 h3 h4; rw [hj] at q; exact q⟩
end Go.Proofs.YtaleenklamognaaDoor

