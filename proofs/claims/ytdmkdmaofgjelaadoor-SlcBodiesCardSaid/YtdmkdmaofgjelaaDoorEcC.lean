/- Special characters: bytes' triples, by the document. -/
import Derived.Test.YtdmkdmaofgjelaaDoorEbC
set_option linter.unusedSimpArgs false
set_option linter.unusedVariables false
set_option maxRecDepth 100000
namespace Go.Proofs.YtdmkdmaofgjelaaDoor
open Go.Sx


def gS (t : List UInt8) (p : Nat) : Int := ((t.getD p 0).toNat : Int)
theorem gS_bnd (t : List UInt8) (p : Nat) : 0 ≤ gS t p ∧ gS t p < 256 := by
  have := (t.getD p 0).toNat_lt
  unfold gS
  omega
theorem drop_get (t : List UInt8) (k j : Nat) : (t.drop k).getD j 0 = t.getD (k + j) 0 := by
  simp only [List.getD_eq_getElem?_getD, List.getElem?_drop]
def prE (t : List UInt8) (l : List Tri) : List (Nat × SV) := [(0, .v (.vs fun _ => t)), (4, .v (slT 85 l))]
theorem pr0_p0 (t : List UInt8) :
    isMore (evTill Tryd.prog sumsG 100 (behind Tryd.f52 0) 900 52 [.code (bodyOf Tryd.f52)] (envOf [.v (.vs fun _ => t)] Tryd.f52.ntmps) ([] ++ []) ⟨[.t, .s false], 80⟩) (moreP (headOf Tryd.f52 0) ([((85 : Nat), Rn.to (80 : Nat))]) Tryd.f52.ntmps (prE (t.drop (3 * 0)) (rts (gS t) 0)) (rowT 85 (rts (gS t) 0)) 160) =
    (OkL [(decide ((↑t.length : Int).tmod (3 : Int) > (0 : Int)), false)] ∧ headOf Tryd.f52 (0 : Nat) = headOf Tryd.f52 (0 : Nat) ∧ (List.drop (0 : Nat) t = t ∧ (0 : Nat) = (0 : Nat) ∧ (rts (gS t) (0 : Nat)).length = (0 : Nat)) ∧ (rts (gS t) (0 : Nat)).length = (0 : Nat) ∧ (∀ (i : Nat), i < (rts (gS t) (0 : Nat)).length → cF (rts (gS t) (0 : Nat)) [i] = (0 : Int)) ∧ ((∀ (i : Nat), i < (rts (gS t) (0 : Nat)).length → cL (rts (gS t) (0 : Nat)) [i] = (0 : Int)) ∧ ∀ (i : Nat), i < (rts (gS t) (0 : Nat)).length → cV (rts (gS t) (0 : Nat)) [i] = (0 : Int)) ∧ ∀ (i : Nat), i < (rts (gS t) (0 : Nat)).length → cA (rts (gS t) (0 : Nat)) [i] = false) := by kernel_rfl

set_option maxHeartbeats 4000000 in
theorem pr0 (t : List UInt8) (h3 : t.length % 3 = 0) (v : SV) (L' : HF) (next : RunsTo Tryd.prog 52 (headOf Tryd.f52 0) (envAt Tryd.f52.ntmps (prE (t.drop (3 * 0)) (rts (gS t) 0))) (Sx.look ([] ++ rowT 85 (rts (gS t) 0))) 80 v L' 160) :
    RunsTo Tryd.prog 52 [.code (bodyOf Tryd.f52)] (envOf [.v (.vs fun _ => t)] Tryd.f52.ntmps) (Sx.look ([] ++ [])) 80 v L' 160 := by
  have gg0 : (decide ((↑t.length : Int).tmod (3 : Int) > (0 : Int))) = false := by clear next; (simp only [dT, dF, nltT, nltF, nleT, nleF, neqT, neqF, ieqT, ieqF, ineT, ineF, notT, notF, andT, andF, orT, orF, Int.tmod_eq_emod_of_nonneg (Int.natCast_nonneg t.length)]; omega)
  refine runs_more baseG (More.of (pr0_p0 t) ⟨(okc gg0 okn), rfl, ?_⟩) (by kernel_rfl) (by kernel_rfl) rfl (gtL (by decide)) (by decide) next
  clear next
  simp [rts]

theorem prN_p0 (t : List UInt8) (m : Nat) :
    isMore (evTill Tryd.prog sumsG 100 (behind Tryd.f52 0) 900 52 (headOf Tryd.f52 0) (envAt Tryd.f52.ntmps (prE (t.drop (3 * m)) (rts (gS t) m))) ([] ++ rowT 85 (rts (gS t) m)) ⟨[.s true, .s true, .s true, .t, .s true, .s true, .t, .s false, .s true], 90⟩) (moreP (headOf Tryd.f52 0) ([]) Tryd.f52.ntmps (prE (t.drop (3 * (m + 1))) (rts (gS t) (m + 1))) (rowT 85 (rts (gS t) (m + 1))) 160) =
    (OkL [(decide ((↑(List.drop ((3 : Nat) * m) t).length : Int) > (0 : Int)), true), (decide ((0 : Int) ≤ (0 : Int) ∧ (0 : Int) < (↑(List.drop ((3 : Nat) * m) t).length : Int)), true), (decide ((0 : Int) ≤ (1 : Int) ∧ (1 : Int) < (↑(List.drop ((3 : Nat) * m) t).length : Int)), true), (decide ((0 : Int) ≤ (2 : Int) ∧ (2 : Int) < (↑(List.drop ((3 : Nat) * m) t).length : Int)), true), (decide ((0 : Int) ≤ (1 : Int) ∧ (1 : Int) < (↑(List.drop ((3 : Nat) * m) t).length : Int)), true), (rightT (IntKind.i64.wrap (↑((List.drop ((3 : Nat) * m) t).getD (0 : Nat) (0 : UInt8)).toNat : Int)) ((IntKind.i64.wrap (↑((List.drop ((3 : Nat) * m) t).getD (1 : Nat) (0 : UInt8)).toNat : Int)).tmod (4 : Int)) (IntKind.i64.wrap (↑((List.drop ((3 : Nat) * m) t).getD (2 : Nat) (0 : UInt8)).toNat : Int)), false), (decide ((0 : Int) ≤ (3 : Int) ∧ (3 : Int) ≤ (↑(List.drop ((3 : Nat) * m) t).length : Int)), true)] ∧ headOf Tryd.f52 (0 : Nat) = headOf Tryd.f52 (0 : Nat) ∧ (List.drop ((3 : Nat) * (m + (1 : Nat))) t = List.drop (3 : Nat) (List.take (List.drop ((3 : Nat) * m) t).length (List.drop ((3 : Nat) * m) t)) ∧ (0 : Nat) = (0 : Nat) ∧ (rts (gS t) (m + (1 : Nat))).length = (rts (gS t) m).length) ∧ (rts (gS t) (m + (1 : Nat))).length = (rts (gS t) m).length ∧ (∀ (i : Nat), i < (rts (gS t) (m + (1 : Nat))).length → cF (rts (gS t) (m + (1 : Nat))) [i] = cF (rts (gS t) m) [i]) ∧ ((∀ (i : Nat), i < (rts (gS t) (m + (1 : Nat))).length → cL (rts (gS t) (m + (1 : Nat))) [i] = cL (rts (gS t) m) [i]) ∧ ∀ (i : Nat), i < (rts (gS t) (m + (1 : Nat))).length → cV (rts (gS t) (m + (1 : Nat))) [i] = cV (rts (gS t) m) [i]) ∧ ∀ (i : Nat), i < (rts (gS t) (m + (1 : Nat))).length → cA (rts (gS t) (m + (1 : Nat))) [i] = cA (rts (gS t) m) [i]) := by kernel_rfl
theorem prN_p1 (t : List UInt8) (m : Nat) :
    isMore (evTill Tryd.prog sumsG 100 (behind Tryd.f52 0) 900 52 (headOf Tryd.f52 0) (envAt Tryd.f52.ntmps (prE (t.drop (3 * m)) (rts (gS t) m))) ([] ++ rowT 85 (rts (gS t) m)) ⟨[.s true, .s true, .s true, .t, .s true, .s true, .t, .s true, .t, .s true, .s true, .s true], 90⟩) (moreP (headOf Tryd.f52 0) ([((85 : Nat), Rn.to (132 : Nat))]) Tryd.f52.ntmps (prE (t.drop (3 * (m + 1))) (rts (gS t) (m + 1))) (rowT 85 (rts (gS t) (m + 1))) 160) =
    (OkL [(decide ((↑(List.drop ((3 : Nat) * m) t).length : Int) > (0 : Int)), true), (decide ((0 : Int) ≤ (0 : Int) ∧ (0 : Int) < (↑(List.drop ((3 : Nat) * m) t).length : Int)), true), (decide ((0 : Int) ≤ (1 : Int) ∧ (1 : Int) < (↑(List.drop ((3 : Nat) * m) t).length : Int)), true), (decide ((0 : Int) ≤ (2 : Int) ∧ (2 : Int) < (↑(List.drop ((3 : Nat) * m) t).length : Int)), true), (decide ((0 : Int) ≤ (1 : Int) ∧ (1 : Int) < (↑(List.drop ((3 : Nat) * m) t).length : Int)), true), (rightT (IntKind.i64.wrap (↑((List.drop ((3 : Nat) * m) t).getD (0 : Nat) (0 : UInt8)).toNat : Int)) ((IntKind.i64.wrap (↑((List.drop ((3 : Nat) * m) t).getD (1 : Nat) (0 : UInt8)).toNat : Int)).tmod (4 : Int)) (IntKind.i64.wrap (↑((List.drop ((3 : Nat) * m) t).getD (2 : Nat) (0 : UInt8)).toNat : Int)), true), (((0 : Nat) + (rts (gS t) m).length).ble (rts (gS t) m).length, true), (decide (((2 : Nat) * ((rts (gS t) m).length + (1 : Nat)) + (192 : Nat)) * (32 : Nat) ≤ (281474976710656 : Nat)), true), (decide ((0 : Int) ≤ (3 : Int) ∧ (3 : Int) ≤ (↑(List.drop ((3 : Nat) * m) t).length : Int)), true)] ∧ headOf Tryd.f52 (0 : Nat) = headOf Tryd.f52 (0 : Nat) ∧ (List.drop ((3 : Nat) * (m + (1 : Nat))) t = List.drop (3 : Nat) (List.take (List.drop ((3 : Nat) * m) t).length (List.drop ((3 : Nat) * m) t)) ∧ (0 : Nat) = (0 : Nat) ∧ (rts (gS t) (m + (1 : Nat))).length = (rts (gS t) m).length + (1 : Nat)) ∧ (rts (gS t) (m + (1 : Nat))).length = (rts (gS t) m).length + (1 : Nat) ∧ (∀ (i : Nat), i < (rts (gS t) (m + (1 : Nat))).length → cF (rts (gS t) (m + (1 : Nat))) [i] = appF (rts (gS t) m).length (0 : Nat) (cF (rts (gS t) m)) (fun js => IntKind.i64.wrap (↑((List.drop ((3 : Nat) * m) t).getD (0 : Nat) (0 : UInt8)).toNat : Int)) [i]) ∧ ((∀ (i : Nat), i < (rts (gS t) (m + (1 : Nat))).length → cL (rts (gS t) (m + (1 : Nat))) [i] = appF (rts (gS t) m).length (0 : Nat) (cL (rts (gS t) m)) (fun js => (IntKind.i64.wrap (↑((List.drop ((3 : Nat) * m) t).getD (1 : Nat) (0 : UInt8)).toNat : Int)).tmod (4 : Int)) [i]) ∧ ∀ (i : Nat), i < (rts (gS t) (m + (1 : Nat))).length → cV (rts (gS t) (m + (1 : Nat))) [i] = appF (rts (gS t) m).length (0 : Nat) (cV (rts (gS t) m)) (fun js => IntKind.i64.wrap (↑((List.drop ((3 : Nat) * m) t).getD (2 : Nat) (0 : UInt8)).toNat : Int)) [i]) ∧ ∀ (i : Nat), i < (rts (gS t) (m + (1 : Nat))).length → cA (rts (gS t) (m + (1 : Nat))) [i] = appF (rts (gS t) m).length (0 : Nat) (cA (rts (gS t) m)) (fun js => decide ((↑((List.drop ((3 : Nat) * m) t).getD (1 : Nat) (0 : UInt8)).toNat : Int) ≥ (128 : Int))) [i]) := by kernel_rfl

set_option maxHeartbeats 4000000 in
theorem prN (t : List UInt8) (m : Nat) (hi : 3 * m + 3 ≤ t.length) (hN : t.length ≤ 300) (v : SV) (L' : HF) (next : RunsTo Tryd.prog 52 (headOf Tryd.f52 0) (envAt Tryd.f52.ntmps (prE (t.drop (3 * (m + 1))) (rts (gS t) (m + 1)))) (Sx.look ([] ++ rowT 85 (rts (gS t) (m + 1)))) 80 v L' 160) :
    RunsTo Tryd.prog 52 (headOf Tryd.f52 0) (envAt Tryd.f52.ntmps (prE (t.drop (3 * m)) (rts (gS t) m))) (Sx.look ([] ++ rowT 85 (rts (gS t) m))) 80 v L' 160 := by
  have gg0 : (decide ((↑(List.drop ((3 : Nat) * m) t).length : Int) > (0 : Int))) = true := by clear next; have hrl := rts_len (gS t) m; (try simp only [Int.toNat_natCast, Nat.zero_add, List.length_drop]); first | assumption | (simp (disch := omega) only [dT, dF, nltT, nltF, nleT, nleF, neqT, neqF, ieqT, ieqF, ineT, ineF, notT, notF, andT, andF, orT, orF, wr64s, Int.toNat_natCast, Nat.zero_add, Nat.add_zero] at *; omega) | (simp (disch := omega) only [dT, dF, nltT, nltF, nleT, nleF, neqT, neqF, ieqT, ieqF, ineT, ineF, notT, notF, andT, andF, orT, orF, wr64s, Int.toNat_natCast, Nat.zero_add, Nat.add_zero] at *; done) | (simp_all; done)
  have gg1 : (decide ((0 : Int) ≤ (0 : Int) ∧ (0 : Int) < (↑(List.drop ((3 : Nat) * m) t).length : Int))) = true := by clear next; have hrl := rts_len (gS t) m; (try simp only [Int.toNat_natCast, Nat.zero_add, List.length_drop]); first | assumption | (simp (disch := omega) only [dT, dF, nltT, nltF, nleT, nleF, neqT, neqF, ieqT, ieqF, ineT, ineF, notT, notF, andT, andF, orT, orF, wr64s, Int.toNat_natCast, Nat.zero_add, Nat.add_zero] at *; omega) | (simp (disch := omega) only [dT, dF, nltT, nltF, nleT, nleF, neqT, neqF, ieqT, ieqF, ineT, ineF, notT, notF, andT, andF, orT, orF, wr64s, Int.toNat_natCast, Nat.zero_add, Nat.add_zero] at *; done) | (simp_all; done)
  have gg2 : (decide ((0 : Int) ≤ (1 : Int) ∧ (1 : Int) < (↑(List.drop ((3 : Nat) * m) t).length : Int))) = true := by clear next; have hrl := rts_len (gS t) m; (try simp only [Int.toNat_natCast, Nat.zero_add, List.length_drop]); first | assumption | (simp (disch := omega) only [dT, dF, nltT, nltF, nleT, nleF, neqT, neqF, ieqT, ieqF, ineT, ineF, notT, notF, andT, andF, orT, orF, wr64s, Int.toNat_natCast, Nat.zero_add, Nat.add_zero] at *; omega) | (simp (disch := omega) only [dT, dF, nltT, nltF, nleT, nleF, neqT, neqF, ieqT, ieqF, ineT, ineF, notT, notF, andT, andF, orT, orF, wr64s, Int.toNat_natCast, Nat.zero_add, Nat.add_zero] at *; done) | (simp_all; done)
  have gg3 : (decide ((0 : Int) ≤ (2 : Int) ∧ (2 : Int) < (↑(List.drop ((3 : Nat) * m) t).length : Int))) = true := by clear next; have hrl := rts_len (gS t) m; (try simp only [Int.toNat_natCast, Nat.zero_add, List.length_drop]); first | assumption | (simp (disch := omega) only [dT, dF, nltT, nltF, nleT, nleF, neqT, neqF, ieqT, ieqF, ineT, ineF, notT, notF, andT, andF, orT, orF, wr64s, Int.toNat_natCast, Nat.zero_add, Nat.add_zero] at *; omega) | (simp (disch := omega) only [dT, dF, nltT, nltF, nleT, nleF, neqT, neqF, ieqT, ieqF, ineT, ineF, notT, notF, andT, andF, orT, orF, wr64s, Int.toNat_natCast, Nat.zero_add, Nat.add_zero] at *; done) | (simp_all; done)
  refine bcase (c := (rightT (IntKind.i64.wrap (↑((List.drop ((3 : Nat) * m) t).getD (0 : Nat) (0 : UInt8)).toNat : Int)) ((IntKind.i64.wrap (↑((List.drop ((3 : Nat) * m) t).getD (1 : Nat) (0 : UInt8)).toNat : Int)).tmod (4 : Int)) (IntKind.i64.wrap (↑((List.drop ((3 : Nat) * m) t).getD (2 : Nat) (0 : UInt8)).toNat : Int)))) (fun gg4 => ?_) (fun gg4 => ?_)
  · have gg5 : (decide ((0 : Int) ≤ (3 : Int) ∧ (3 : Int) ≤ (↑(List.drop ((3 : Nat) * m) t).length : Int))) = true := by clear next; have hrl := rts_len (gS t) m; (try simp only [Int.toNat_natCast, Nat.zero_add, List.length_drop]); first | assumption | (simp (disch := omega) only [dT, dF, nltT, nltF, nleT, nleF, neqT, neqF, ieqT, ieqF, ineT, ineF, notT, notF, andT, andF, orT, orF, wr64s, Int.toNat_natCast, Nat.zero_add, Nat.add_zero] at *; omega) | (simp (disch := omega) only [dT, dF, nltT, nltF, nleT, nleF, neqT, neqF, ieqT, ieqF, ineT, ineF, notT, notF, andT, andF, orT, orF, wr64s, Int.toNat_natCast, Nat.zero_add, Nat.add_zero] at *; done) | (simp_all; done)
    refine runs_more baseG (More.of (prN_p0 t m) ⟨(okc gg0 (okc gg1 (okc gg2 (okc gg3 (okc gg2 (okc gg4 (okc gg5 okn))))))), rfl, ?_⟩) (by kernel_rfl) (by kernel_rfl) rfl (gtL (by decide)) (by decide) next
    clear next
    have g : ∀ j, ((((t.drop (3 * m)).getD j 0).toNat : Nat) : Int) = gS t (3 * m + j) := fun j => by rw [drop_get]; rfl
    have v0 : IntKind.i64.wrap (gS t (3 * m)) = gS t (3 * m) := wr64 (by have := gS_bnd t (3 * m); omega)
    have v1 : IntKind.i64.wrap (gS t (3 * m + 1)) = gS t (3 * m + 1) := wr64 (by have := gS_bnd t (3 * m + 1); omega)
    have v2 : IntKind.i64.wrap (gS t (3 * m + 2)) = gS t (3 * m + 2) := wr64 (by have := gS_bnd t (3 * m + 2); omega)
    have tm : (gS t (3 * m + 1)).tmod 4 = gS t (3 * m + 1) % 4 := Int.tmod_eq_emod_of_nonneg (gS_bnd t (3 * m + 1)).1
    have dd : List.drop (3 * (m + 1)) t = List.drop 3 (List.take (List.drop (3 * m) t).length (List.drop (3 * m) t)) := by rw [List.take_length, List.drop_drop]; congr 1
    simp only [g, Nat.add_zero, v0, v1, v2, tm] at *
    first
      | (have hk : okT (trG (gS t) m) = true := by
           unfold okT trG
           assumption
         simp only [rts_yes hk, app_len]
         repeat' apply And.intro
         all_goals first | trivial | exact dd | rfl | (intro p hp; first | trivial | rfl | exact cF_app hp | exact cL_app hp | exact cV_app hp | exact cA_app hp))
      | (have hk : okT (trG (gS t) m) = false := by
           unfold okT trG
           assumption
         simp only [rts_no hk]
         repeat' apply And.intro
         all_goals first | trivial | exact dd | rfl | (intro p hp; first | trivial | rfl))
  · have gg5 : (((0 : Nat) + (rts (gS t) m).length).ble (rts (gS t) m).length) = true := by clear next; have hrl := rts_len (gS t) m; (try simp only [Int.toNat_natCast, Nat.zero_add, List.length_drop]); first | assumption | (simp (disch := omega) only [dT, dF, nltT, nltF, nleT, nleF, neqT, neqF, ieqT, ieqF, ineT, ineF, notT, notF, andT, andF, orT, orF, wr64s, Int.toNat_natCast, Nat.zero_add, Nat.add_zero] at *; omega) | (simp (disch := omega) only [dT, dF, nltT, nltF, nleT, nleF, neqT, neqF, ieqT, ieqF, ineT, ineF, notT, notF, andT, andF, orT, orF, wr64s, Int.toNat_natCast, Nat.zero_add, Nat.add_zero] at *; done) | (simp_all; done)
    have gg6 : (decide (((2 : Nat) * ((rts (gS t) m).length + (1 : Nat)) + (192 : Nat)) * (32 : Nat) ≤ (281474976710656 : Nat))) = true := by clear next; have hrl := rts_len (gS t) m; (try simp only [Int.toNat_natCast, Nat.zero_add, List.length_drop]); first | assumption | (simp (disch := omega) only [dT, dF, nltT, nltF, nleT, nleF, neqT, neqF, ieqT, ieqF, ineT, ineF, notT, notF, andT, andF, orT, orF, wr64s, Int.toNat_natCast, Nat.zero_add, Nat.add_zero] at *; omega) | (simp (disch := omega) only [dT, dF, nltT, nltF, nleT, nleF, neqT, neqF, ieqT, ieqF, ineT, ineF, notT, notF, andT, andF, orT, orF, wr64s, Int.toNat_natCast, Nat.zero_add, Nat.add_zero] at *; done) | (simp_all; done)
    have gg7 : (decide ((0 : Int) ≤ (3 : Int) ∧ (3 : Int) ≤ (↑(List.drop ((3 : Nat) * m) t).length : Int))) = true := by clear next; have hrl := rts_len (gS t) m; (try simp only [Int.toNat_natCast, Nat.zero_add, List.length_drop]); first | assumption | (simp (disch := omega) only [dT, dF, nltT, nltF, nleT, nleF, neqT, neqF, ieqT, ieqF, ineT, ineF, notT, notF, andT, andF, orT, orF, wr64s, Int.toNat_natCast, Nat.zero_add, Nat.add_zero] at *; omega) | (simp (disch := omega) only [dT, dF, nltT, nltF, nleT, nleF, neqT, neqF, ieqT, ieqF, ineT, ineF, notT, notF, andT, andF, orT, orF, wr64s, Int.toNat_natCast, Nat.zero_add, Nat.add_zero] at *; done) | (simp_all; done)
    refine runs_more baseG (More.of (prN_p1 t m) ⟨(okc gg0 (okc gg1 (okc gg2 (okc gg3 (okc gg2 (okc gg4 (okc gg5 (okc gg6 (okc gg7 okn))))))))), rfl, ?_⟩) (by kernel_rfl) (by kernel_rfl) rfl (gtL (by decide)) (by decide) next
    clear next
    have g : ∀ j, ((((t.drop (3 * m)).getD j 0).toNat : Nat) : Int) = gS t (3 * m + j) := fun j => by rw [drop_get]; rfl
    have v0 : IntKind.i64.wrap (gS t (3 * m)) = gS t (3 * m) := wr64 (by have := gS_bnd t (3 * m); omega)
    have v1 : IntKind.i64.wrap (gS t (3 * m + 1)) = gS t (3 * m + 1) := wr64 (by have := gS_bnd t (3 * m + 1); omega)
    have v2 : IntKind.i64.wrap (gS t (3 * m + 2)) = gS t (3 * m + 2) := wr64 (by have := gS_bnd t (3 * m + 2); omega)
    have tm : (gS t (3 * m + 1)).tmod 4 = gS t (3 * m + 1) % 4 := Int.tmod_eq_emod_of_nonneg (gS_bnd t (3 * m + 1)).1
    have dd : List.drop (3 * (m + 1)) t = List.drop 3 (List.take (List.drop (3 * m) t).length (List.drop (3 * m) t)) := by rw [List.take_length, List.drop_drop]; congr 1
    simp only [g, Nat.add_zero, v0, v1, v2, tm] at *
    first
      | (have hk : okT (trG (gS t) m) = true := by
           unfold okT trG
           assumption
         simp only [rts_yes hk, app_len]
         repeat' apply And.intro
         all_goals first | trivial | exact dd | rfl | (intro p hp; first | trivial | rfl | exact cF_app hp | exact cL_app hp | exact cV_app hp | exact cA_app hp))
      | (have hk : okT (trG (gS t) m) = false := by
           unfold okT trG
           assumption
         simp only [rts_no hk]
         repeat' apply And.intro
         all_goals first | trivial | exact dd | rfl | (intro p hp; first | trivial | rfl))

theorem prE__p0 (t : List UInt8) (m : Nat) :
    isEnd (evTill Tryd.prog sumsG 100 (behind Tryd.f52 0) 900 52 (headOf Tryd.f52 0) (envAt Tryd.f52.ntmps (prE (t.drop (3 * m)) (rts (gS t) m))) ([] ++ rowT 85 (rts (gS t) m)) ⟨[.s false], 90⟩) (endP ([((101 : Nat), Rn.to (85 : Nat))]) (.tup [(false, slT 101 (rts (gS t) m)), (false, .vi .i64 fun _ => 0)]) (rowT 101 (rts (gS t) m)) 160) =
    (OkL [(decide ((↑(List.drop ((3 : Nat) * m) t).length : Int) > (0 : Int)), false)] ∧ (((0 : Nat) = (0 : Nat) ∧ (rts (gS t) m).length = (rts (gS t) m).length) ∧ (0 : Int) = (0 : Int) ∧ True) ∧ (rts (gS t) m).length = (rts (gS t) m).length ∧ (∀ (i : Nat), i < (rts (gS t) m).length → cF (rts (gS t) m) [i] = cF (rts (gS t) m) [i]) ∧ ((∀ (i : Nat), i < (rts (gS t) m).length → cL (rts (gS t) m) [i] = cL (rts (gS t) m) [i]) ∧ ∀ (i : Nat), i < (rts (gS t) m).length → cV (rts (gS t) m) [i] = cV (rts (gS t) m) [i]) ∧ ∀ (i : Nat), i < (rts (gS t) m).length → cA (rts (gS t) m) [i] = cA (rts (gS t) m) [i]) := by kernel_rfl

set_option maxHeartbeats 4000000 in
theorem prE_ (t : List UInt8) (m : Nat) (he : 3 * m = t.length) :
    RunsTo Tryd.prog 52 (headOf Tryd.f52 0) (envAt Tryd.f52.ntmps (prE (t.drop (3 * m)) (rts (gS t) m))) (Sx.look ([] ++ rowT 85 (rts (gS t) m))) 80 (.tup [(false, slT 101 (rts (gS t) m)), (false, .vi .i64 fun _ => 0)]) (Sx.look (rowT 101 (rts (gS t) m))) 160 := by
  have gg0 : (decide ((↑(List.drop ((3 : Nat) * m) t).length : Int) > (0 : Int))) = false := by (simp only [List.length_drop, dT, dF, nltT, nltF, nleT, nleF, neqT, neqF, ieqT, ieqF, ineT, ineF, notT, notF, andT, andF, orT, orF]; omega)
  refine runs_last baseG (Sx.Ends.of (prE__p0 t m) ⟨(okc gg0 okn), ?_⟩) (by kernel_rfl) rfl (gtL (by decide)) (by decide)
  simp

theorem prBad_p0 (t : List UInt8) :
    isEnd (evTill Tryd.prog sumsG 100 (99) 900 52 [.code (bodyOf Tryd.f52)] (envOf [.v (.vs fun _ => t)] Tryd.f52.ntmps) ([] ++ []) ⟨[.t, .s true], 80⟩) (endP ([((101 : Nat), Rn.nil (4 : Nat))]) (.tup [(false, slT 101 []), (false, .vi .i64 fun _ => 3)]) (rowT 101 []) 160) =
    (OkL [(decide ((↑t.length : Int).tmod (3 : Int) > (0 : Int)), true)] ∧ ((0 : Nat) = (0 : Nat) ∧ (3 : Int) = (3 : Int) ∧ True) ∧ (0 : Nat) = (0 : Nat)) := by kernel_rfl

set_option maxHeartbeats 4000000 in
theorem prBad (t : List UInt8) (h3 : t.length % 3 ≠ 0) :
    RunsTo Tryd.prog 52 [.code (bodyOf Tryd.f52)] (envOf [.v (.vs fun _ => t)] Tryd.f52.ntmps) (Sx.look ([] ++ [])) 80 (.tup [(false, slT 101 []), (false, .vi .i64 fun _ => 3)]) (Sx.look (rowT 101 [])) 160 := by
  have gg0 : (decide ((↑t.length : Int).tmod (3 : Int) > (0 : Int))) = true := by (simp only [dT, dF, nltT, nltF, nleT, nleF, neqT, neqF, ieqT, ieqF, ineT, ineF, notT, notF, andT, andF, orT, orF, Int.tmod_eq_emod_of_nonneg (Int.natCast_nonneg t.length)]; omega)
  refine runs_last baseG (Sx.Ends.of (prBad_p0 t) ⟨(okc gg0 okn), ?_⟩) (by kernel_rfl) rfl (gtL (by decide)) (by decide)
  simp

theorem prL (t : List UInt8) (hN : t.length ≤ 300) (q : Nat) (hq : 3 * q = t.length) : ∀ (k m : Nat), m + k = q → RunsTo Tryd.prog 52 (headOf Tryd.f52 0) (envAt Tryd.f52.ntmps (prE (t.drop (3 * m)) (rts (gS t) m))) (Sx.look ([] ++ rowT 85 (rts (gS t) m))) 80 (.tup [(false, slT 101 (rts (gS t) q)), (false, .vi .i64 fun _ => 0)]) (Sx.look (rowT 101 (rts (gS t) q))) 160 := by
  intro k
  induction k with
  | zero =>
    intro m hm
    obtain rfl : m = q := by omega
    exact prE_ t m (by omega)
  | succ k ih => intro m hm; exact prN t m (by omega) hN _ _ (ih (m + 1) (by omega))
theorem parseR_ok (t : List UInt8) (hN : t.length ≤ 300) (h3 : t.length % 3 = 0) : RunsTo Tryd.prog 52 [.code (bodyOf Tryd.f52)] (envOf [.v (.vs fun _ => t)] Tryd.f52.ntmps) (Sx.look ([] ++ [])) 80 (.tup [(false, slT 101 (rts (gS t) (t.length / 3))), (false, .vi .i64 fun _ => 0)]) (Sx.look (rowT 101 (rts (gS t) (t.length / 3)))) 160 :=
  pr0 t h3 _ _ (prL t hN (t.length / 3) (by omega) (t.length / 3) 0 (by omega))

end Go.Proofs.YtdmkdmaofgjelaaDoor
