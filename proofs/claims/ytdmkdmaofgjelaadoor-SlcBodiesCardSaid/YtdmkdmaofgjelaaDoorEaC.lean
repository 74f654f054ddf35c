/- Special characters: triples' bytes. -/
import Derived.Test.YtdmkdmaofgjelaaDoorDbC
set_option linter.unusedSimpArgs false
set_option linter.unusedVariables false
set_option maxRecDepth 100000
namespace Go.Proofs.YtdmkdmaofgjelaaDoor
open Go.Sx


def triE (p N : Nat) (F L V : Ix → Int) (A : Ix → Bool) : List Ent := [⟨p, false, none, 4, .ta N (.tc (.vi .i64 F) (.tc (.tc (.vi .i64 L) (.tc (.vi .i64 V) .t0)) (.tc (.vb A) .t0)))⟩]
def triV (p N : Nat) : SV := .v (.vl p (fun _ => 0) 4 [] (fun _ => N))
def b2 (l : Int) (a : Bool) : Int := if a = true then l + 128 else l
def bodyB (F L V : Ix → Int) (A : Ix → Bool) : Ix → Int := fun is => match is with | [p] => if p % 3 = 0 then F [p / 3] else if p % 3 = 1 then b2 (L [p / 3]) (A [p / 3]) else V [p / 3] | _ => 0
def rowU (p n : Nat) (B : Ix → Int) : List Ent := [⟨p, true, none, 1, .ta n (.vi .u8 B)⟩]
def bdE (N i : Nat) : List (Nat × SV) := [(0, triV 60 N), (4, .v (.vl 85 (fun _ => 0) 1 [] (fun _ => 3 * i))), (8, triV 60 N), (9, vN N), (10, vN i)]
theorem wr8 {x : Int} (h : 0 ≤ x ∧ x < 256) : IntKind.u8.wrap x = x := by
  simp [IntKind.wrap, IntKind.bits, IntKind.signed]
  omega
theorem or128 {l : Int} (h : 0 ≤ l ∧ l ≤ 3) : ior IntKind.u8 l 128 = l + 128 := by
  obtain rfl | rfl | rfl | rfl : l = 0 ∨ l = 1 ∨ l = 2 ∨ l = 3 := by omega
  all_goals decide
theorem rightT_ok' {f l v : Int} (h : rightT f l v = true) : 1 ≤ f ∧ f ≤ 18 ∧ 0 ≤ l ∧ l ≤ 3 ∧ 0 ≤ v ∧ v ≤ 255 := by
  simp only [rightT, fineB, Bool.and_eq_true, decide_eq_true_eq] at h
  omega
theorem body_step {F L V : Ix → Int} {A : Ix → Bool} {i : Nat} {g : Ix → Int} (h0 : g [0] = F [i]) (h1 : g [1] = b2 (L [i]) (A [i])) (h2 : g [2] = V [i]) (p : Nat) (hp : p < 3 * (i + 1)) : bodyB F L V A [p] = appF (3 * i) 0 (bodyB F L V A) g [p] := by
  simp only [appF, Nat.zero_add]
  by_cases h : p < 3 * i
  · rw [if_pos h]
  · rw [if_neg h]
    obtain rfl | rfl | rfl : p = 3 * i ∨ p = 3 * i + 1 ∨ p = 3 * i + 2 := by omega
    · rw [show 3 * i - 3 * i = 0 by omega, h0]; simp [bodyB]
    · rw [show 3 * i + 1 - 3 * i = 1 by omega, h1]
      simp only [bodyB, show (3 * i + 1) % 3 = 1 by omega, show (3 * i + 1) / 3 = i by omega]
      simp
    · rw [show 3 * i + 2 - 3 * i = 2 by omega, h2]
      simp only [bodyB, show (3 * i + 2) % 3 = 2 by omega, show (3 * i + 2) / 3 = i by omega]
      simp

theorem bd0_p0 (u t : List UInt8) (N : Nat) (F L V : Ix → Int) (A : Ix → Bool) :
    isMore (evTill Tryd.prog sumsG 100 (behind Tryd.f49 0) 900 49 [.code (bodyOf Tryd.f49)] (envOf [triV 60 N] Tryd.f49.ntmps) ((sentEnts 16 140 [(1, u), (3, t)] ++ triE 60 N F L V A) ++ []) ⟨[], 80⟩) (moreP (headOf Tryd.f49 0) ([((85 : Nat), Rn.nil (1 : Nat))]) Tryd.f49.ntmps (bdE N 0) (rowU 85 (3 * 0) (bodyB F L V A)) 160) =
    (OkL [] ∧ headOf Tryd.f49 (0 : Nat) = headOf Tryd.f49 (0 : Nat) ∧ (((0 : Nat) = (0 : Nat) ∧ N = N) ∧ (0 : Nat) = (0 : Nat) ∧ ((0 : Nat) = (0 : Nat) ∧ N = N) ∧ (↑N : Int) = (↑N : Int) ∧ (↑(0 : Nat) : Int) = (0 : Int)) ∧ (0 : Nat) = (0 : Nat)) := by kernel_rfl

set_option maxHeartbeats 4000000 in
theorem bd0 (u t : List UInt8) (N : Nat) (F L V : Ix → Int) (A : Ix → Bool) (v : SV) (L' : HF) (next : RunsTo Tryd.prog 49 (headOf Tryd.f49 0) (envAt Tryd.f49.ntmps (bdE N 0)) (Sx.look ((sentEnts 16 140 [(1, u), (3, t)] ++ triE 60 N F L V A) ++ rowU 85 (3 * 0) (bodyB F L V A))) 80 v L' 160) :
    RunsTo Tryd.prog 49 [.code (bodyOf Tryd.f49)] (envOf [triV 60 N] Tryd.f49.ntmps) (Sx.look ((sentEnts 16 140 [(1, u), (3, t)] ++ triE 60 N F L V A) ++ [])) 80 v L' 160 := by
  refine runs_more baseG (More.of (bd0_p0 u t N F L V A) ⟨okn, rfl, ?_⟩) (by kernel_rfl) (by kernel_rfl) rfl (gtL (by decide)) (by decide) next
  clear next
  simp

theorem bdN_p0 (u t : List UInt8) (N : Nat) (F L V : Ix → Int) (A : Ix → Bool) (i : Nat) :
    isMore (evTill Tryd.prog sumsG 100 (behind Tryd.f49 0) 900 49 (headOf Tryd.f49 0) (envAt Tryd.f49.ntmps (bdE N i)) ((sentEnts 16 140 [(1, u), (3, t)] ++ triE 60 N F L V A) ++ rowU 85 (3 * i) (bodyB F L V A)) ⟨[.s true, .s true, .s true, .s true, .t, .s false, .s false, .t, .s true, .s true], 90⟩) (moreP (headOf Tryd.f49 0) ([((85 : Nat), Rn.to (132 : Nat))]) Tryd.f49.ntmps (bdE N (i + 1)) (rowU 85 (3 * (i + 1)) (bodyB F L V A)) 160) =
    (OkL [(decide ((↑i : Int) < (↑N : Int)), true), (decide ((0 : Int) ≤ (↑i : Int) ∧ (↑i : Int) < (↑N : Int)), true), (((0 : Nat) + (↑i : Int).toNat).blt N, true), (((0 : Nat) + (↑i : Int).toNat).blt N, true), (!rightT (F [(0 : Nat) + (↑i : Int).toNat]) (L [(0 : Nat) + (↑i : Int).toNat]) (V [(0 : Nat) + (↑i : Int).toNat]), false), (A [(0 : Nat) + (↑i : Int).toNat], false), (((0 : Nat) + (3 : Nat) * i).ble ((3 : Nat) * i), true), (decide (((2 : Nat) * ((3 : Nat) * i + (3 : Nat)) + (192 : Nat)) * (1 : Nat) ≤ (281474976710656 : Nat)), true)] ∧   headOf Tryd.f49 (0 : Nat) = headOf Tryd.f49 (0 : Nat) ∧     (((0 : Nat) = (0 : Nat) ∧ N = N) ∧ ((0 : Nat) = (0 : Nat) ∧ (3 : Nat) * (i + (1 : Nat)) = (3 : Nat) * i + (3 : Nat)) ∧ ((0 : Nat) = (0 : Nat) ∧ N = N) ∧ (↑N : Int) = (↑N : Int) ∧ (↑(i + (1 : Nat)) : Int) = IntKind.i64.wrap ((↑i : Int) + (1 : Int))) ∧       (3 : Nat) * (i + (1 : Nat)) = (3 : Nat) * i + (3 : Nat) ∧         ∀ (i_1 : Nat),           i_1 < (3 : Nat) * (i + (1 : Nat)) →             bodyB F L V A [i_1] =               appF ((3 : Nat) * i) (0 : Nat) (bodyB F L V A)                 (fun js =>                   upd (upd (upd (fun is => (0 : Int)) [(0 : Nat)] (IntKind.u8.wrap (F [(0 : Nat) + (↑i : Int).toNat]))) [(1 : Nat)] (IntKind.u8.wrap (L [(0 : Nat) + (↑i : Int).toNat]))) [(2 : Nat)] (IntKind.u8.wrap (V [(0 : Nat) + (↑i : Int).toNat]))                     (match js with                     | j :: r => (sum [] + j) :: r                     | [] => []))                 [i_1]) := by kernel_rfl
theorem bdN_p1 (u t : List UInt8) (N : Nat) (F L V : Ix → Int) (A : Ix → Bool) (i : Nat) :
    isMore (evTill Tryd.prog sumsG 100 (behind Tryd.f49 0) 900 49 (headOf Tryd.f49 0) (envAt Tryd.f49.ntmps (bdE N i)) ((sentEnts 16 140 [(1, u), (3, t)] ++ triE 60 N F L V A) ++ rowU 85 (3 * i) (bodyB F L V A)) ⟨[.s true, .s true, .s true, .s true, .t, .s false, .s true, .t, .s true, .s true], 90⟩) (moreP (headOf Tryd.f49 0) ([((85 : Nat), Rn.to (132 : Nat))]) Tryd.f49.ntmps (bdE N (i + 1)) (rowU 85 (3 * (i + 1)) (bodyB F L V A)) 160) =
    (OkL [(decide ((↑i : Int) < (↑N : Int)), true), (decide ((0 : Int) ≤ (↑i : Int) ∧ (↑i : Int) < (↑N : Int)), true), (((0 : Nat) + (↑i : Int).toNat).blt N, true), (((0 : Nat) + (↑i : Int).toNat).blt N, true), (!rightT (F [(0 : Nat) + (↑i : Int).toNat]) (L [(0 : Nat) + (↑i : Int).toNat]) (V [(0 : Nat) + (↑i : Int).toNat]), false), (A [(0 : Nat) + (↑i : Int).toNat], true), (((0 : Nat) + (3 : Nat) * i).ble ((3 : Nat) * i), true), (decide (((2 : Nat) * ((3 : Nat) * i + (3 : Nat)) + (192 : Nat)) * (1 : Nat) ≤ (281474976710656 : Nat)), true)] ∧   headOf Tryd.f49 (0 : Nat) = headOf Tryd.f49 (0 : Nat) ∧     (((0 : Nat) = (0 : Nat) ∧ N = N) ∧ ((0 : Nat) = (0 : Nat) ∧ (3 : Nat) * (i + (1 : Nat)) = (3 : Nat) * i + (3 : Nat)) ∧ ((0 : Nat) = (0 : Nat) ∧ N = N) ∧ (↑N : Int) = (↑N : Int) ∧ (↑(i + (1 : Nat)) : Int) = IntKind.i64.wrap ((↑i : Int) + (1 : Int))) ∧       (3 : Nat) * (i + (1 : Nat)) = (3 : Nat) * i + (3 : Nat) ∧         ∀ (i_1 : Nat),           i_1 < (3 : Nat) * (i + (1 : Nat)) →             bodyB F L V A [i_1] =               appF ((3 : Nat) * i) (0 : Nat) (bodyB F L V A)                 (fun js =>                   upd (upd (upd (fun is => (0 : Int)) [(0 : Nat)] (IntKind.u8.wrap (F [(0 : Nat) + (↑i : Int).toNat]))) [(1 : Nat)] (ior IntKind.u8 (IntKind.u8.wrap (L [(0 : Nat) + (↑i : Int).toNat])) (128 : Int))) [(2 : Nat)] (IntKind.u8.wrap (V [(0 : Nat) + (↑i : Int).toNat]))                     (match js with                     | j :: r => (sum [] + j) :: r                     | [] => []))                 [i_1]) := by kernel_rfl

set_option maxHeartbeats 4000000 in
theorem bdN (u t : List UInt8) (N : Nat) (F L V : Ix → Int) (A : Ix → Bool) (i : Nat) (hi : i < N) (hN : N ≤ 100) (hr : rightT (F [i]) (L [i]) (V [i]) = true) (v : SV) (L' : HF) (next : RunsTo Tryd.prog 49 (headOf Tryd.f49 0) (envAt Tryd.f49.ntmps (bdE N (i + 1))) (Sx.look ((sentEnts 16 140 [(1, u), (3, t)] ++ triE 60 N F L V A) ++ rowU 85 (3 * (i + 1)) (bodyB F L V A))) 80 v L' 160) :
    RunsTo Tryd.prog 49 (headOf Tryd.f49 0) (envAt Tryd.f49.ntmps (bdE N i)) (Sx.look ((sentEnts 16 140 [(1, u), (3, t)] ++ triE 60 N F L V A) ++ rowU 85 (3 * i) (bodyB F L V A))) 80 v L' 160 := by
  have gg0 : (decide ((↑i : Int) < (↑N : Int))) = true := by clear next; (try simp only [Int.toNat_natCast, Nat.zero_add]); first | assumption | (simp (disch := omega) only [dT, dF, nltT, nltF, nleT, nleF, neqT, neqF, ieqT, ieqF, ineT, ineF, notT, notF, andT, andF, orT, orF, wr64s, Int.toNat_natCast, Nat.zero_add, Nat.add_zero] at *; omega) | (simp (disch := omega) only [dT, dF, nltT, nltF, nleT, nleF, neqT, neqF, ieqT, ieqF, ineT, ineF, notT, notF, andT, andF, orT, orF, wr64s, Int.toNat_natCast, Nat.zero_add, Nat.add_zero] at *; done) | (simp_all; done)
  have gg1 : (decide ((0 : Int) ≤ (↑i : Int) ∧ (↑i : Int) < (↑N : Int))) = true := by clear next; (try simp only [Int.toNat_natCast, Nat.zero_add]); first | assumption | (simp (disch := omega) only [dT, dF, nltT, nltF, nleT, nleF, neqT, neqF, ieqT, ieqF, ineT, ineF, notT, notF, andT, andF, orT, orF, wr64s, Int.toNat_natCast, Nat.zero_add, Nat.add_zero] at *; omega) | (simp (disch := omega) only [dT, dF, nltT, nltF, nleT, nleF, neqT, neqF, ieqT, ieqF, ineT, ineF, notT, notF, andT, andF, orT, orF, wr64s, Int.toNat_natCast, Nat.zero_add, Nat.add_zero] at *; done) | (simp_all; done)
  have gg2 : (((0 : Nat) + (↑i : Int).toNat).blt N) = true := by clear next; (try simp only [Int.toNat_natCast, Nat.zero_add]); first | assumption | (simp (disch := omega) only [dT, dF, nltT, nltF, nleT, nleF, neqT, neqF, ieqT, ieqF, ineT, ineF, notT, notF, andT, andF, orT, orF, wr64s, Int.toNat_natCast, Nat.zero_add, Nat.add_zero] at *; omega) | (simp (disch := omega) only [dT, dF, nltT, nltF, nleT, nleF, neqT, neqF, ieqT, ieqF, ineT, ineF, notT, notF, andT, andF, orT, orF, wr64s, Int.toNat_natCast, Nat.zero_add, Nat.add_zero] at *; done) | (simp_all; done)
  have gg3 : (!rightT (F [(0 : Nat) + (↑i : Int).toNat]) (L [(0 : Nat) + (↑i : Int).toNat]) (V [(0 : Nat) + (↑i : Int).toNat])) = false := by clear next; (try simp only [Int.toNat_natCast, Nat.zero_add]); first | assumption | (simp (disch := omega) only [dT, dF, nltT, nltF, nleT, nleF, neqT, neqF, ieqT, ieqF, ineT, ineF, notT, notF, andT, andF, orT, orF, wr64s, Int.toNat_natCast, Nat.zero_add, Nat.add_zero] at *; omega) | (simp (disch := omega) only [dT, dF, nltT, nltF, nleT, nleF, neqT, neqF, ieqT, ieqF, ineT, ineF, notT, notF, andT, andF, orT, orF, wr64s, Int.toNat_natCast, Nat.zero_add, Nat.add_zero] at *; done) | (simp_all; done)
  refine bcase (c := (A [(0 : Nat) + (↑i : Int).toNat])) (fun gg4 => ?_) (fun gg4 => ?_)
  · have gg5 : (((0 : Nat) + (3 : Nat) * i).ble ((3 : Nat) * i)) = true := by clear next; (try simp only [Int.toNat_natCast, Nat.zero_add]); first | assumption | (simp (disch := omega) only [dT, dF, nltT, nltF, nleT, nleF, neqT, neqF, ieqT, ieqF, ineT, ineF, notT, notF, andT, andF, orT, orF, wr64s, Int.toNat_natCast, Nat.zero_add, Nat.add_zero] at *; omega) | (simp (disch := omega) only [dT, dF, nltT, nltF, nleT, nleF, neqT, neqF, ieqT, ieqF, ineT, ineF, notT, notF, andT, andF, orT, orF, wr64s, Int.toNat_natCast, Nat.zero_add, Nat.add_zero] at *; done) | (simp_all; done)
    have gg6 : (decide (((2 : Nat) * ((3 : Nat) * i + (3 : Nat)) + (192 : Nat)) * (1 : Nat) ≤ (281474976710656 : Nat))) = true := by clear next; (try simp only [Int.toNat_natCast, Nat.zero_add]); first | assumption | (simp (disch := omega) only [dT, dF, nltT, nltF, nleT, nleF, neqT, neqF, ieqT, ieqF, ineT, ineF, notT, notF, andT, andF, orT, orF, wr64s, Int.toNat_natCast, Nat.zero_add, Nat.add_zero] at *; omega) | (simp (disch := omega) only [dT, dF, nltT, nltF, nleT, nleF, neqT, neqF, ieqT, ieqF, ineT, ineF, notT, notF, andT, andF, orT, orF, wr64s, Int.toNat_natCast, Nat.zero_add, Nat.add_zero] at *; done) | (simp_all; done)
    refine runs_more baseG (More.of (bdN_p0 u t N F L V A i) ⟨(okc gg0 (okc gg1 (okc gg2 (okc gg2 (okc gg3 (okc gg4 (okc gg5 (okc gg6 okn)))))))), rfl, ?_⟩) (by kernel_rfl) (by kernel_rfl) rfl (gtL (by decide)) (by decide) next
    clear next
    have hw : IntKind.i64.wrap ((i : Int) + 1) = ((i + 1 : Nat) : Int) := by rw [wr64 (by omega)]; rfl
    obtain ⟨r1, r2, r3, r4, r5, r6⟩ := rightT_ok' hr
    have q1 := wr8 (x := F [i]) (by omega)
    have q2 := wr8 (x := L [i]) (by omega)
    have q3 := wr8 (x := V [i]) (by omega)
    have q4 := or128 (l := L [i]) (by omega)
    simp only [Int.toNat_natCast, Nat.zero_add, hw] at *
    repeat' apply And.intro
    all_goals first | trivial | rfl | exact hw.symm | omega | (intro p hp; first | rfl | exact body_step (by simp [upd, Go.Sx.sum, *]) (by simp [upd, b2, Go.Sx.sum, *]) (by simp [upd, Go.Sx.sum, *]) p hp)
  · have gg5 : (((0 : Nat) + (3 : Nat) * i).ble ((3 : Nat) * i)) = true := by clear next; (try simp only [Int.toNat_natCast, Nat.zero_add]); first | assumption | (simp (disch := omega) only [dT, dF, nltT, nltF, nleT, nleF, neqT, neqF, ieqT, ieqF, ineT, ineF, notT, notF, andT, andF, orT, orF, wr64s, Int.toNat_natCast, Nat.zero_add, Nat.add_zero] at *; omega) | (simp (disch := omega) only [dT, dF, nltT, nltF, nleT, nleF, neqT, neqF, ieqT, ieqF, ineT, ineF, notT, notF, andT, andF, orT, orF, wr64s, Int.toNat_natCast, Nat.zero_add, Nat.add_zero] at *; done) | (simp_all; done)
    have gg6 : (decide (((2 : Nat) * ((3 : Nat) * i + (3 : Nat)) + (192 : Nat)) * (1 : Nat) ≤ (281474976710656 : Nat))) = true := by clear next; (try simp only [Int.toNat_natCast, Nat.zero_add]); first | assumption | (simp (disch := omega) only [dT, dF, nltT, nltF, nleT, nleF, neqT, neqF, ieqT, ieqF, ineT, ineF, notT, notF, andT, andF, orT, orF, wr64s, Int.toNat_natCast, Nat.zero_add, Nat.add_zero] at *; omega) | (simp (disch := omega) only [dT, dF, nltT, nltF, nleT, nleF, neqT, neqF, ieqT, ieqF, ineT, ineF, notT, notF, andT, andF, orT, orF, wr64s, Int.toNat_natCast, Nat.zero_add, Nat.add_zero] at *; done) | (simp_all; done)
    refine runs_more baseG (More.of (bdN_p1 u t N F L V A i) ⟨(okc gg0 (okc gg1 (okc gg2 (okc gg2 (okc gg3 (okc gg4 (okc gg5 (okc gg6 okn)))))))), rfl, ?_⟩) (by kernel_rfl) (by kernel_rfl) rfl (gtL (by decide)) (by decide) next
    clear next
    have hw : IntKind.i64.wrap ((i : Int) + 1) = ((i + 1 : Nat) : Int) := by rw [wr64 (by omega)]; rfl
    obtain ⟨r1, r2, r3, r4, r5, r6⟩ := rightT_ok' hr
    have q1 := wr8 (x := F [i]) (by omega)
    have q2 := wr8 (x := L [i]) (by omega)
    have q3 := wr8 (x := V [i]) (by omega)
    have q4 := or128 (l := L [i]) (by omega)
    simp only [Int.toNat_natCast, Nat.zero_add, hw] at *
    repeat' apply And.intro
    all_goals first | trivial | rfl | exact hw.symm | omega | (intro p hp; first | rfl | exact body_step (by simp [upd, Go.Sx.sum, *]) (by simp [upd, b2, Go.Sx.sum, *]) (by simp [upd, Go.Sx.sum, *]) p hp)

theorem bdE__p0 (u t : List UInt8) (N : Nat) (F L V : Ix → Int) (A : Ix → Bool) (i : Nat) :
    isEnd (evTill Tryd.prog sumsG 100 (behind Tryd.f49 0) 900 49 (headOf Tryd.f49 0) (envAt Tryd.f49.ntmps (bdE N i)) ((sentEnts 16 140 [(1, u), (3, t)] ++ triE 60 N F L V A) ++ rowU 85 (3 * i) (bodyB F L V A)) ⟨[.s false, .s false], 90⟩) (endP ([((101 : Nat), Rn.to (85 : Nat))]) (.tup [(false, .vl 101 (fun _ => 0) 1 [] (fun _ => 3 * N)), (false, .ve0)]) (rowU 101 (3 * N) (bodyB F L V A)) 160) =
    (OkL [(decide ((↑i : Int) < (↑N : Int)), false), (decide ((↑N : Int) > (85 : Int)), false)] ∧ (((0 : Nat) = (0 : Nat) ∧ (3 : Nat) * N = (3 : Nat) * i) ∧ True ∧ True) ∧ (3 : Nat) * N = (3 : Nat) * i ∧ ∀ (i : Nat), i < (3 : Nat) * N → bodyB F L V A [i] = bodyB F L V A [i]) := by kernel_rfl

set_option maxHeartbeats 4000000 in
theorem bdE_ (u t : List UInt8) (N : Nat) (F L V : Ix → Int) (A : Ix → Bool) (i : Nat) (he : i = N) (hN : N ≤ 85) :
    RunsTo Tryd.prog 49 (headOf Tryd.f49 0) (envAt Tryd.f49.ntmps (bdE N i)) (Sx.look ((sentEnts 16 140 [(1, u), (3, t)] ++ triE 60 N F L V A) ++ rowU 85 (3 * i) (bodyB F L V A))) 80 (.tup [(false, .vl 101 (fun _ => 0) 1 [] (fun _ => 3 * N)), (false, .ve0)]) (Sx.look (rowU 101 (3 * N) (bodyB F L V A))) 160 := by
  have gg0 : (decide ((↑i : Int) < (↑N : Int))) = false := by first | (simp (disch := omega) only [dT, dF, nltT, nltF, nleT, nleF, neqT, neqF, ieqT, ieqF, ineT, ineF, notT, notF, andT, andF, orT, orF, wr64s, Int.toNat_natCast, Nat.zero_add, Nat.add_zero] at *; omega) | (simp (disch := omega) only [dT, dF, nltT, nltF, nleT, nleF, neqT, neqF, ieqT, ieqF, ineT, ineF, notT, notF, andT, andF, orT, orF, wr64s, Int.toNat_natCast, Nat.zero_add, Nat.add_zero] at *; done) | (simp_all; done)
  have gg1 : (decide ((↑N : Int) > (85 : Int))) = false := by first | (simp (disch := omega) only [dT, dF, nltT, nltF, nleT, nleF, neqT, neqF, ieqT, ieqF, ineT, ineF, notT, notF, andT, andF, orT, orF, wr64s, Int.toNat_natCast, Nat.zero_add, Nat.add_zero] at *; omega) | (simp (disch := omega) only [dT, dF, nltT, nltF, nleT, nleF, neqT, neqF, ieqT, ieqF, ineT, ineF, notT, notF, andT, andF, orT, orF, wr64s, Int.toNat_natCast, Nat.zero_add, Nat.add_zero] at *; done) | (simp_all; done)
  refine runs_last baseG (Sx.Ends.of (bdE__p0 u t N F L V A i) ⟨(okc gg0 (okc gg1 okn)), ?_⟩) (by kernel_rfl) rfl (gtL (by decide)) (by decide)
  subst he
  simp

theorem bdBad_p0 (u t : List UInt8) (N : Nat) (F L V : Ix → Int) (A : Ix → Bool) (i : Nat) :
    isEnd (evTill Tryd.prog sumsG 100 (behind Tryd.f49 0) 900 49 (headOf Tryd.f49 0) (envAt Tryd.f49.ntmps (bdE N i)) ((sentEnts 16 140 [(1, u), (3, t)] ++ triE 60 N F L V A) ++ rowU 85 (3 * i) (bodyB F L V A)) ⟨[.s true, .s true, .s true, .s true, .t, .s true], 90⟩) (endP ([]) (.tup [(false, .vl0), (false, .ve 140 (.vp 19 (fun _ => 0) []))]) [] 160) =
    (OkL [(decide ((↑i : Int) < (↑N : Int)), true), (decide ((0 : Int) ≤ (↑i : Int) ∧ (↑i : Int) < (↑N : Int)), true), (((0 : Nat) + (↑i : Int).toNat).blt N, true), (((0 : Nat) + (↑i : Int).toNat).blt N, true), (!rightT (F [(0 : Nat) + (↑i : Int).toNat]) (L [(0 : Nat) + (↑i : Int).toNat]) (V [(0 : Nat) + (↑i : Int).toNat]), true)] ∧ (True ∧ (0 : Nat) = (0 : Nat) ∧ True) ∧ True) := by kernel_rfl

set_option maxHeartbeats 4000000 in
theorem bdBad (u t : List UInt8) (N : Nat) (F L V : Ix → Int) (A : Ix → Bool) (i : Nat) (hi : i < N) (hr : rightT (F [i]) (L [i]) (V [i]) = false) :
    RunsTo Tryd.prog 49 (headOf Tryd.f49 0) (envAt Tryd.f49.ntmps (bdE N i)) (Sx.look ((sentEnts 16 140 [(1, u), (3, t)] ++ triE 60 N F L V A) ++ rowU 85 (3 * i) (bodyB F L V A))) 80 (.tup [(false, .vl0), (false, .ve 140 (.vp 19 (fun _ => 0) []))]) (Sx.look []) 160 := by
  have gg0 : (decide ((↑i : Int) < (↑N : Int))) = true := by (try simp only [Int.toNat_natCast, Nat.zero_add]); first | (simp only [hr]; done) | (simp (disch := omega) only [dT, dF, nltT, nltF, nleT, nleF, neqT, neqF, ieqT, ieqF, ineT, ineF, notT, notF, andT, andF, orT, orF, wr64s, Int.toNat_natCast, Nat.zero_add, Nat.add_zero] at *; omega) | (simp (disch := omega) only [dT, dF, nltT, nltF, nleT, nleF, neqT, neqF, ieqT, ieqF, ineT, ineF, notT, notF, andT, andF, orT, orF, wr64s, Int.toNat_natCast, Nat.zero_add, Nat.add_zero] at *; done) | (simp_all; done)
  have gg1 : (decide ((0 : Int) ≤ (↑i : Int) ∧ (↑i : Int) < (↑N : Int))) = true := by (try simp only [Int.toNat_natCast, Nat.zero_add]); first | (simp only [hr]; done) | (simp (disch := omega) only [dT, dF, nltT, nltF, nleT, nleF, neqT, neqF, ieqT, ieqF, ineT, ineF, notT, notF, andT, andF, orT, orF, wr64s, Int.toNat_natCast, Nat.zero_add, Nat.add_zero] at *; omega) | (simp (disch := omega) only [dT, dF, nltT, nltF, nleT, nleF, neqT, neqF, ieqT, ieqF, ineT, ineF, notT, notF, andT, andF, orT, orF, wr64s, Int.toNat_natCast, Nat.zero_add, Nat.add_zero] at *; done) | (simp_all; done)
  have gg2 : (((0 : Nat) + (↑i : Int).toNat).blt N) = true := by (try simp only [Int.toNat_natCast, Nat.zero_add]); first | (simp only [hr]; done) | (simp (disch := omega) only [dT, dF, nltT, nltF, nleT, nleF, neqT, neqF, ieqT, ieqF, ineT, ineF, notT, notF, andT, andF, orT, orF, wr64s, Int.toNat_natCast, Nat.zero_add, Nat.add_zero] at *; omega) | (simp (disch := omega) only [dT, dF, nltT, nltF, nleT, nleF, neqT, neqF, ieqT, ieqF, ineT, ineF, notT, notF, andT, andF, orT, orF, wr64s, Int.toNat_natCast, Nat.zero_add, Nat.add_zero] at *; done) | (simp_all; done)
  have gg3 : (!rightT (F [(0 : Nat) + (↑i : Int).toNat]) (L [(0 : Nat) + (↑i : Int).toNat]) (V [(0 : Nat) + (↑i : Int).toNat])) = true := by (try simp only [Int.toNat_natCast, Nat.zero_add]); first | (simp only [hr]; done) | (simp (disch := omega) only [dT, dF, nltT, nltF, nleT, nleF, neqT, neqF, ieqT, ieqF, ineT, ineF, notT, notF, andT, andF, orT, orF, wr64s, Int.toNat_natCast, Nat.zero_add, Nat.add_zero] at *; omega) | (simp (disch := omega) only [dT, dF, nltT, nltF, nleT, nleF, neqT, neqF, ieqT, ieqF, ineT, ineF, notT, notF, andT, andF, orT, orF, wr64s, Int.toNat_natCast, Nat.zero_add, Nat.add_zero] at *; done) | (simp_all; done)
  refine runs_last baseG (Sx.Ends.of (bdBad_p0 u t N F L V A i) ⟨(okc gg0 (okc gg1 (okc gg2 (okc gg2 (okc gg3 okn))))), ?_⟩) (by kernel_rfl) rfl (gtL (by decide)) (by decide)
  simp

theorem bdLong_p0 (u t : List UInt8) (N : Nat) (F L V : Ix → Int) (A : Ix → Bool) (i : Nat) :
    isEnd (evTill Tryd.prog sumsG 100 (behind Tryd.f49 0) 900 49 (headOf Tryd.f49 0) (envAt Tryd.f49.ntmps (bdE N i)) ((sentEnts 16 140 [(1, u), (3, t)] ++ triE 60 N F L V A) ++ rowU 85 (3 * i) (bodyB F L V A)) ⟨[.s false, .s true], 90⟩) (endP ([]) (.tup [(false, .vl0), (false, .ve 140 (.vp 17 (fun _ => 0) []))]) [] 160) =
    (OkL [(decide ((↑i : Int) < (↑N : Int)), false), (decide ((↑N : Int) > (85 : Int)), true)] ∧ (True ∧ (0 : Nat) = (0 : Nat) ∧ True) ∧ True) := by kernel_rfl

set_option maxHeartbeats 4000000 in
theorem bdLong (u t : List UInt8) (N : Nat) (F L V : Ix → Int) (A : Ix → Bool) (i : Nat) (he : i = N) (hN : 85 < N) :
    RunsTo Tryd.prog 49 (headOf Tryd.f49 0) (envAt Tryd.f49.ntmps (bdE N i)) (Sx.look ((sentEnts 16 140 [(1, u), (3, t)] ++ triE 60 N F L V A) ++ rowU 85 (3 * i) (bodyB F L V A))) 80 (.tup [(false, .vl0), (false, .ve 140 (.vp 17 (fun _ => 0) []))]) (Sx.look []) 160 := by
  have gg0 : (decide ((↑i : Int) < (↑N : Int))) = false := by first | (simp (disch := omega) only [dT, dF, nltT, nltF, nleT, nleF, neqT, neqF, ieqT, ieqF, ineT, ineF, notT, notF, andT, andF, orT, orF, wr64s, Int.toNat_natCast, Nat.zero_add, Nat.add_zero] at *; omega) | (simp (disch := omega) only [dT, dF, nltT, nltF, nleT, nleF, neqT, neqF, ieqT, ieqF, ineT, ineF, notT, notF, andT, andF, orT, orF, wr64s, Int.toNat_natCast, Nat.zero_add, Nat.add_zero] at *; done) | (simp_all; done)
  have gg1 : (decide ((↑N : Int) > (85 : Int))) = true := by first | (simp (disch := omega) only [dT, dF, nltT, nltF, nleT, nleF, neqT, neqF, ieqT, ieqF, ineT, ineF, notT, notF, andT, andF, orT, orF, wr64s, Int.toNat_natCast, Nat.zero_add, Nat.add_zero] at *; omega) | (simp (disch := omega) only [dT, dF, nltT, nltF, nleT, nleF, neqT, neqF, ieqT, ieqF, ineT, ineF, notT, notF, andT, andF, orT, orF, wr64s, Int.toNat_natCast, Nat.zero_add, Nat.add_zero] at *; done) | (simp_all; done)
  refine runs_last baseG (Sx.Ends.of (bdLong_p0 u t N F L V A i) ⟨(okc gg0 (okc gg1 okn)), ?_⟩) (by kernel_rfl) rfl (gtL (by decide)) (by decide)
  simp

def allR (F L V : Ix → Int) (N : Nat) : Bool := (List.range N).all fun i => rightT (F [i]) (L [i]) (V [i])
theorem allR_ok {F L V : Ix → Int} {N i : Nat} (h : allR F L V N = true) (hi : i < N) : rightT (F [i]) (L [i]) (V [i]) = true := List.all_eq_true.1 h i (List.mem_range.2 hi)
theorem allR_no {F L V : Ix → Int} {N : Nat} (h : allR F L V N = false) : ∃ i, i < N ∧ rightT (F [i]) (L [i]) (V [i]) = false ∧ ∀ j, j < i → rightT (F [j]) (L [j]) (V [j]) = true := by
  induction N with
  | zero => simp [allR] at h
  | succ N ih =>
    cases hN : allR F L V N with
    | false =>
      obtain ⟨i, h1, h2, h3⟩ := ih hN
      exact ⟨i, by omega, h2, h3⟩
    | true =>
      refine ⟨N, by omega, ?_, fun j hj => allR_ok hN hj⟩
      simp only [allR, List.range_succ, List.all_append, List.all_cons, List.all_nil, Bool.and_true] at h hN
      rw [hN] at h
      simpa using h

theorem bdL (u t : List UInt8) (N : Nat) (F L V : Ix → Int) (A : Ix → Bool) (hN : N ≤ 85) (hr : allR F L V N = true) : ∀ (k i : Nat), i + k = N → RunsTo Tryd.prog 49 (headOf Tryd.f49 0) (envAt Tryd.f49.ntmps (bdE N i)) (Sx.look ((sentEnts 16 140 [(1, u), (3, t)] ++ triE 60 N F L V A) ++ rowU 85 (3 * i) (bodyB F L V A))) 80 (.tup [(false, .vl 101 (fun _ => 0) 1 [] (fun _ => 3 * N)), (false, .ve0)]) (Sx.look (rowU 101 (3 * N) (bodyB F L V A))) 160 := by
  intro k
  induction k with
  | zero => intro i hi; exact bdE_ u t N F L V A i (by omega) hN
  | succ k ih => intro i hi; exact bdN u t N F L V A i (by omega) (by omega) (allR_ok hr (by omega)) _ _ (ih (i + 1) (by omega))
theorem bdF (u t : List UInt8) (N : Nat) (F L V : Ix → Int) (A : Ix → Bool) (hN : N ≤ 100) (q : Nat) (hq : q < N) (hb : rightT (F [q]) (L [q]) (V [q]) = false) (hr : ∀ j, j < q → rightT (F [j]) (L [j]) (V [j]) = true) : ∀ (k i : Nat), i + k = q → RunsTo Tryd.prog 49 (headOf Tryd.f49 0) (envAt Tryd.f49.ntmps (bdE N i)) (Sx.look ((sentEnts 16 140 [(1, u), (3, t)] ++ triE 60 N F L V A) ++ rowU 85 (3 * i) (bodyB F L V A))) 80 (.tup [(false, .vl0), (false, .ve 140 (.vp 19 (fun _ => 0) []))]) (Sx.look []) 160 := by
  intro k
  induction k with
  | zero =>
    intro i hi
    obtain rfl : i = q := by omega
    exact bdBad u t N F L V A i hq hb
  | succ k ih => intro i hi; exact bdN u t N F L V A i (by omega) hN (hr i (by omega)) _ _ (ih (i + 1) (by omega))
theorem bdG (u t : List UInt8) (N : Nat) (F L V : Ix → Int) (A : Ix → Bool) (hN : N ≤ 100) (h85 : 85 < N) (hr : allR F L V N = true) : ∀ (k i : Nat), i + k = N → RunsTo Tryd.prog 49 (headOf Tryd.f49 0) (envAt Tryd.f49.ntmps (bdE N i)) (Sx.look ((sentEnts 16 140 [(1, u), (3, t)] ++ triE 60 N F L V A) ++ rowU 85 (3 * i) (bodyB F L V A))) 80 (.tup [(false, .vl0), (false, .ve 140 (.vp 17 (fun _ => 0) []))]) (Sx.look []) 160 := by
  intro k
  induction k with
  | zero => intro i hi; exact bdLong u t N F L V A i (by omega) h85
  | succ k ih => intro i hi; exact bdN u t N F L V A i (by omega) hN (allR_ok hr (by omega)) _ _ (ih (i + 1) (by omega))

def flat (F L V : Ix → Int) (A : Ix → Bool) (i : Nat) : List UInt8 := (List.range i).flatMap fun j => [UInt8.ofNat (F [j]).toNat, UInt8.ofNat (b2 (L [j]) (A [j])).toNat, UInt8.ofNat (V [j]).toNat]
theorem flat_succ (F L V : Ix → Int) (A : Ix → Bool) (i : Nat) : flat F L V A (i + 1) = flat F L V A i ++ [UInt8.ofNat (F [i]).toNat, UInt8.ofNat (b2 (L [i]) (A [i])).toNat, UInt8.ofNat (V [i]).toNat] := by
  simp [flat, List.range_succ, List.flatMap_append]
theorem flat_len (F L V : Ix → Int) (A : Ix → Bool) : ∀ i, (flat F L V A i).length = 3 * i
  | 0 => rfl
  | i + 1 => by rw [flat_succ, List.length_append, flat_len F L V A i]; simp; omega
theorem three (g : Ix → Int) : bytesOf g [] 0 3 = [UInt8.ofNat (g [0]).toNat, UInt8.ofNat (g [1]).toNat, UInt8.ofNat (g [2]).toNat] := by simp [bytesOf, List.range_succ]
theorem bl_len (f : Ix → Int) (st n : Nat) : (bytesOf f [] st n).length = n := by simp [bytesOf]
theorem bytes_flat (F L V : Ix → Int) (A : Ix → Bool) : ∀ N, bytesOf (bodyB F L V A) [] 0 (3 * N) = flat F L V A N
  | 0 => rfl
  | N + 1 => by
    rw [flat_succ, ← bytes_flat F L V A N]
    simp only [bytesOf, show 3 * (N + 1) = 3 * N + 1 + 1 + 1 by omega, List.range_succ, List.map_append, List.map_cons, List.map_nil, List.append_assoc, List.nil_append, Nat.zero_add]
    simp only [bodyB, show (3 * N) % 3 = 0 by omega, show (3 * N + 1) % 3 = 1 by omega, show (3 * N + 1 + 1) % 3 = 2 by omega, show (3 * N) / 3 = N by omega, show (3 * N + 1) / 3 = N by omega, show (3 * N + 1 + 1) / 3 = N by omega]
    simp
def rbE (N i : Nat) (t : List UInt8) : List (Nat × SV) := [(0, triV 60 N), (4, .v (.vs fun _ => t)), (8, triV 60 N), (9, vN N), (10, vN i)]

theorem rb0_p0 (N : Nat) (F L V : Ix → Int) (A : Ix → Bool) :
    isMore (evTill Tryd.prog sumsG 100 (behind Tryd.f50 0) 900 50 [.code (bodyOf Tryd.f50)] (envOf [triV 60 N] Tryd.f50.ntmps) (triE 60 N F L V A ++ []) ⟨[], 80⟩) (moreP (headOf Tryd.f50 0) ([]) Tryd.f50.ntmps (rbE N 0 (flat F L V A 0)) [] 160) =
    (OkL [] ∧ headOf Tryd.f50 (0 : Nat) = headOf Tryd.f50 (0 : Nat) ∧ (((0 : Nat) = (0 : Nat) ∧ N = N) ∧ flat F L V A (0 : Nat) = [] ∧ ((0 : Nat) = (0 : Nat) ∧ N = N) ∧ (↑N : Int) = (↑N : Int) ∧ (↑(0 : Nat) : Int) = (0 : Int)) ∧ True) := by kernel_rfl

set_option maxHeartbeats 4000000 in
theorem rb0 (N : Nat) (F L V : Ix → Int) (A : Ix → Bool) (v : SV) (L' : HF) (next : RunsTo Tryd.prog 50 (headOf Tryd.f50 0) (envAt Tryd.f50.ntmps (rbE N 0 (flat F L V A 0))) (Sx.look (triE 60 N F L V A ++ [])) 80 v L' 160) :
    RunsTo Tryd.prog 50 [.code (bodyOf Tryd.f50)] (envOf [triV 60 N] Tryd.f50.ntmps) (Sx.look (triE 60 N F L V A ++ [])) 80 v L' 160 := by
  refine runs_more baseG (More.of (rb0_p0 N F L V A) ⟨okn, rfl, ?_⟩) (by kernel_rfl) (by kernel_rfl) rfl (gtL (by decide)) (by decide) next
  clear next
  simp [flat]

theorem rbN_p0 (N : Nat) (F L V : Ix → Int) (A : Ix → Bool) (i : Nat) :
    isMore (evTill Tryd.prog sumsG 100 (behind Tryd.f50 0) 900 50 (headOf Tryd.f50 0) (envAt Tryd.f50.ntmps (rbE N i (flat F L V A i))) (triE 60 N F L V A ++ []) ⟨[.s true, .s true, .s true, .s true, .t, .s false, .s false, .t, .s true], 90⟩) (moreP (headOf Tryd.f50 0) ([]) Tryd.f50.ntmps (rbE N (i + 1) (flat F L V A (i + 1))) [] 160) =
    (OkL [(decide ((↑i : Int) < (↑N : Int)), true), (decide ((0 : Int) ≤ (↑i : Int) ∧ (↑i : Int) < (↑N : Int)), true), (((0 : Nat) + (↑i : Int).toNat).blt N, true), (((0 : Nat) + (↑i : Int).toNat).blt N, true), (!rightT (F [(0 : Nat) + (↑i : Int).toNat]) (L [(0 : Nat) + (↑i : Int).toNat]) (V [(0 : Nat) + (↑i : Int).toNat]), false), (A [(0 : Nat) + (↑i : Int).toNat], false), (decide ((flat F L V A i).length + (bytesOf (upd (upd (upd (fun is => (0 : Int)) [(0 : Nat)] (IntKind.u8.wrap (F [(0 : Nat) + (↑i : Int).toNat]))) [(1 : Nat)] (IntKind.u8.wrap (L [(0 : Nat) + (↑i : Int).toNat]))) [(2 : Nat)] (IntKind.u8.wrap (V [(0 : Nat) + (↑i : Int).toNat]))) [] (0 : Nat) (3 : Nat)).length ≤ (9223372036854775807 : Nat)), true)] ∧ headOf Tryd.f50 (0 : Nat) = headOf Tryd.f50 (0 : Nat) ∧ (((0 : Nat) = (0 : Nat) ∧ N = N) ∧ flat F L V A (i + (1 : Nat)) = flat F L V A i ++ bytesOf (upd (upd (upd (fun is => (0 : Int)) [(0 : Nat)] (IntKind.u8.wrap (F [(0 : Nat) + (↑i : Int).toNat]))) [(1 : Nat)] (IntKind.u8.wrap (L [(0 : Nat) + (↑i : Int).toNat]))) [(2 : Nat)] (IntKind.u8.wrap (V [(0 : Nat) + (↑i : Int).toNat]))) [] (0 : Nat) (3 : Nat) ∧ ((0 : Nat) = (0 : Nat) ∧ N = N) ∧ (↑N : Int) = (↑N : Int) ∧ (↑(i + (1 : Nat)) : Int) = IntKind.i64.wrap ((↑i : Int) + (1 : Int))) ∧ True) := by kernel_rfl
theorem rbN_p1 (N : Nat) (F L V : Ix → Int) (A : Ix → Bool) (i : Nat) :
    isMore (evTill Tryd.prog sumsG 100 (behind Tryd.f50 0) 900 50 (headOf Tryd.f50 0) (envAt Tryd.f50.ntmps (rbE N i (flat F L V A i))) (triE 60 N F L V A ++ []) ⟨[.s true, .s true, .s true, .s true, .t, .s false, .s true, .t, .s true], 90⟩) (moreP (headOf Tryd.f50 0) ([]) Tryd.f50.ntmps (rbE N (i + 1) (flat F L V A (i + 1))) [] 160) =
    (OkL [(decide ((↑i : Int) < (↑N : Int)), true), (decide ((0 : Int) ≤ (↑i : Int) ∧ (↑i : Int) < (↑N : Int)), true), (((0 : Nat) + (↑i : Int).toNat).blt N, true), (((0 : Nat) + (↑i : Int).toNat).blt N, true), (!rightT (F [(0 : Nat) + (↑i : Int).toNat]) (L [(0 : Nat) + (↑i : Int).toNat]) (V [(0 : Nat) + (↑i : Int).toNat]), false), (A [(0 : Nat) + (↑i : Int).toNat], true), (decide ((flat F L V A i).length + (bytesOf (upd (upd (upd (fun is => (0 : Int)) [(0 : Nat)] (IntKind.u8.wrap (F [(0 : Nat) + (↑i : Int).toNat]))) [(1 : Nat)] (IntKind.u8.wrap (IntKind.i64.wrap (L [(0 : Nat) + (↑i : Int).toNat] + (128 : Int))))) [(2 : Nat)] (IntKind.u8.wrap (V [(0 : Nat) + (↑i : Int).toNat]))) [] (0 : Nat) (3 : Nat)).length ≤ (9223372036854775807 : Nat)), true)] ∧ headOf Tryd.f50 (0 : Nat) = headOf Tryd.f50 (0 : Nat) ∧ (((0 : Nat) = (0 : Nat) ∧ N = N) ∧ flat F L V A (i + (1 : Nat)) = flat F L V A i ++ bytesOf (upd (upd (upd (fun is => (0 : Int)) [(0 : Nat)] (IntKind.u8.wrap (F [(0 : Nat) + (↑i : Int).toNat]))) [(1 : Nat)] (IntKind.u8.wrap (IntKind.i64.wrap (L [(0 : Nat) + (↑i : Int).toNat] + (128 : Int))))) [(2 : Nat)] (IntKind.u8.wrap (V [(0 : Nat) + (↑i : Int).toNat]))) [] (0 : Nat) (3 : Nat) ∧ ((0 : Nat) = (0 : Nat) ∧ N = N) ∧ (↑N : Int) = (↑N : Int) ∧ (↑(i + (1 : Nat)) : Int) = IntKind.i64.wrap ((↑i : Int) + (1 : Int))) ∧ True) := by kernel_rfl

set_option maxHeartbeats 4000000 in
theorem rbN (N : Nat) (F L V : Ix → Int) (A : Ix → Bool) (i : Nat) (hi : i < N) (hN : N ≤ 100) (hr : rightT (F [i]) (L [i]) (V [i]) = true) (v : SV) (L' : HF) (next : RunsTo Tryd.prog 50 (headOf Tryd.f50 0) (envAt Tryd.f50.ntmps (rbE N (i + 1) (flat F L V A (i + 1)))) (Sx.look (triE 60 N F L V A ++ [])) 80 v L' 160) :
    RunsTo Tryd.prog 50 (headOf Tryd.f50 0) (envAt Tryd.f50.ntmps (rbE N i (flat F L V A i))) (Sx.look (triE 60 N F L V A ++ [])) 80 v L' 160 := by
  have gg0 : (decide ((↑i : Int) < (↑N : Int))) = true := by clear next; have hfl := flat_len F L V A i; (try simp only [Int.toNat_natCast, Nat.zero_add]); first | assumption | (simp only [bl_len, hfl]; simp only [dT, dF, nltT, nltF, nleT, nleF, neqT, neqF, ieqT, ieqF, ineT, ineF, notT, notF, andT, andF, orT, orF]; omega) | (simp (disch := omega) only [dT, dF, nltT, nltF, nleT, nleF, neqT, neqF, ieqT, ieqF, ineT, ineF, notT, notF, andT, andF, orT, orF, wr64s, Int.toNat_natCast, Nat.zero_add, Nat.add_zero] at *; omega) | (simp (disch := omega) only [dT, dF, nltT, nltF, nleT, nleF, neqT, neqF, ieqT, ieqF, ineT, ineF, notT, notF, andT, andF, orT, orF, wr64s, Int.toNat_natCast, Nat.zero_add, Nat.add_zero] at *; done) | (simp_all; done)
  have gg1 : (decide ((0 : Int) ≤ (↑i : Int) ∧ (↑i : Int) < (↑N : Int))) = true := by clear next; have hfl := flat_len F L V A i; (try simp only [Int.toNat_natCast, Nat.zero_add]); first | assumption | (simp only [bl_len, hfl]; simp only [dT, dF, nltT, nltF, nleT, nleF, neqT, neqF, ieqT, ieqF, ineT, ineF, notT, notF, andT, andF, orT, orF]; omega) | (simp (disch := omega) only [dT, dF, nltT, nltF, nleT, nleF, neqT, neqF, ieqT, ieqF, ineT, ineF, notT, notF, andT, andF, orT, orF, wr64s, Int.toNat_natCast, Nat.zero_add, Nat.add_zero] at *; omega) | (simp (disch := omega) only [dT, dF, nltT, nltF, nleT, nleF, neqT, neqF, ieqT, ieqF, ineT, ineF, notT, notF, andT, andF, orT, orF, wr64s, Int.toNat_natCast, Nat.zero_add, Nat.add_zero] at *; done) | (simp_all; done)
  have gg2 : (((0 : Nat) + (↑i : Int).toNat).blt N) = true := by clear next; have hfl := flat_len F L V A i; (try simp only [Int.toNat_natCast, Nat.zero_add]); first | assumption | (simp only [bl_len, hfl]; simp only [dT, dF, nltT, nltF, nleT, nleF, neqT, neqF, ieqT, ieqF, ineT, ineF, notT, notF, andT, andF, orT, orF]; omega) | (simp (disch := omega) only [dT, dF, nltT, nltF, nleT, nleF, neqT, neqF, ieqT, ieqF, ineT, ineF, notT, notF, andT, andF, orT, orF, wr64s, Int.toNat_natCast, Nat.zero_add, Nat.add_zero] at *; omega) | (simp (disch := omega) only [dT, dF, nltT, nltF, nleT, nleF, neqT, neqF, ieqT, ieqF, ineT, ineF, notT, notF, andT, andF, orT, orF, wr64s, Int.toNat_natCast, Nat.zero_add, Nat.add_zero] at *; done) | (simp_all; done)
  have gg3 : (!rightT (F [(0 : Nat) + (↑i : Int).toNat]) (L [(0 : Nat) + (↑i : Int).toNat]) (V [(0 : Nat) + (↑i : Int).toNat])) = false := by clear next; have hfl := flat_len F L V A i; (try simp only [Int.toNat_natCast, Nat.zero_add]); first | assumption | (simp only [bl_len, hfl]; simp only [dT, dF, nltT, nltF, nleT, nleF, neqT, neqF, ieqT, ieqF, ineT, ineF, notT, notF, andT, andF, orT, orF]; omega) | (simp (disch := omega) only [dT, dF, nltT, nltF, nleT, nleF, neqT, neqF, ieqT, ieqF, ineT, ineF, notT, notF, andT, andF, orT, orF, wr64s, Int.toNat_natCast, Nat.zero_add, Nat.add_zero] at *; omega) | (simp (disch := omega) only [dT, dF, nltT, nltF, nleT, nleF, neqT, neqF, ieqT, ieqF, ineT, ineF, notT, notF, andT, andF, orT, orF, wr64s, Int.toNat_natCast, Nat.zero_add, Nat.add_zero] at *; done) | (simp_all; done)
  refine bcase (c := (A [(0 : Nat) + (↑i : Int).toNat])) (fun gg4 => ?_) (fun gg4 => ?_)
  · have gg5 : (decide ((flat F L V A i).length + (bytesOf (upd (upd (upd (fun is => (0 : Int)) [(0 : Nat)] (IntKind.u8.wrap (F [(0 : Nat) + (↑i : Int).toNat]))) [(1 : Nat)] (IntKind.u8.wrap (L [(0 : Nat) + (↑i : Int).toNat]))) [(2 : Nat)] (IntKind.u8.wrap (V [(0 : Nat) + (↑i : Int).toNat]))) [] (0 : Nat) (3 : Nat)).length ≤ (9223372036854775807 : Nat))) = true := by clear next; have hfl := flat_len F L V A i; (try simp only [Int.toNat_natCast, Nat.zero_add]); first | assumption | (simp only [bl_len, hfl]; simp only [dT, dF, nltT, nltF, nleT, nleF, neqT, neqF, ieqT, ieqF, ineT, ineF, notT, notF, andT, andF, orT, orF]; omega) | (simp (disch := omega) only [dT, dF, nltT, nltF, nleT, nleF, neqT, neqF, ieqT, ieqF, ineT, ineF, notT, notF, andT, andF, orT, orF, wr64s, Int.toNat_natCast, Nat.zero_add, Nat.add_zero] at *; omega) | (simp (disch := omega) only [dT, dF, nltT, nltF, nleT, nleF, neqT, neqF, ieqT, ieqF, ineT, ineF, notT, notF, andT, andF, orT, orF, wr64s, Int.toNat_natCast, Nat.zero_add, Nat.add_zero] at *; done) | (simp_all; done)
    refine runs_more baseG (More.of (rbN_p0 N F L V A i) ⟨(okc gg0 (okc gg1 (okc gg2 (okc gg2 (okc gg3 (okc gg4 (okc gg5 okn))))))), rfl, ?_⟩) (by kernel_rfl) (by kernel_rfl) rfl (gtL (by decide)) (by decide) next
    clear next
    have hw : IntKind.i64.wrap ((i : Int) + 1) = ((i + 1 : Nat) : Int) := by rw [wr64 (by omega)]; rfl
    obtain ⟨r1, r2, r3, r4, r5, r6⟩ := rightT_ok' hr
    have q1 := wr8 (x := F [i]) (by omega)
    have q2 := wr8 (x := L [i]) (by omega)
    have q3 := wr8 (x := V [i]) (by omega)
    have q4 := wr8 (x := L [i] + 128) (by omega)
    have q5 : IntKind.i64.wrap (L [i] + 128) = L [i] + 128 := wr64 (by omega)
    simp only [Int.toNat_natCast, Nat.zero_add, hw] at *
    repeat' apply And.intro
    all_goals first | trivial | rfl | exact hw.symm | (rw [flat_succ, three]; simp [upd, b2, *]; done) | (intro p hp; rfl)
  · have gg5 : (decide ((flat F L V A i).length + (bytesOf (upd (upd (upd (fun is => (0 : Int)) [(0 : Nat)] (IntKind.u8.wrap (F [(0 : Nat) + (↑i : Int).toNat]))) [(1 : Nat)] (IntKind.u8.wrap (IntKind.i64.wrap (L [(0 : Nat) + (↑i : Int).toNat] + (128 : Int))))) [(2 : Nat)] (IntKind.u8.wrap (V [(0 : Nat) + (↑i : Int).toNat]))) [] (0 : Nat) (3 : Nat)).length ≤ (9223372036854775807 : Nat))) = true := by clear next; have hfl := flat_len F L V A i; (try simp only [Int.toNat_natCast, Nat.zero_add]); first | assumption | (simp only [bl_len, hfl]; simp only [dT, dF, nltT, nltF, nleT, nleF, neqT, neqF, ieqT, ieqF, ineT, ineF, notT, notF, andT, andF, orT, orF]; omega) | (simp (disch := omega) only [dT, dF, nltT, nltF, nleT, nleF, neqT, neqF, ieqT, ieqF, ineT, ineF, notT, notF, andT, andF, orT, orF, wr64s, Int.toNat_natCast, Nat.zero_add, Nat.add_zero] at *; omega) | (simp (disch := omega) only [dT, dF, nltT, nltF, nleT, nleF, neqT, neqF, ieqT, ieqF, ineT, ineF, notT, notF, andT, andF, orT, orF, wr64s, Int.toNat_natCast, Nat.zero_add, Nat.add_zero] at *; done) | (simp_all; done)
    refine runs_more baseG (More.of (rbN_p1 N F L V A i) ⟨(okc gg0 (okc gg1 (okc gg2 (okc gg2 (okc gg3 (okc gg4 (okc gg5 okn))))))), rfl, ?_⟩) (by kernel_rfl) (by kernel_rfl) rfl (gtL (by decide)) (by decide) next
    clear next
    have hw : IntKind.i64.wrap ((i : Int) + 1) = ((i + 1 : Nat) : Int) := by rw [wr64 (by omega)]; rfl
    obtain ⟨r1, r2, r3, r4, r5, r6⟩ := rightT_ok' hr
    have q1 := wr8 (x := F [i]) (by omega)
    have q2 := wr8 (x := L [i]) (by omega)
    have q3 := wr8 (x := V [i]) (by omega)
    have q4 := wr8 (x := L [i] + 128) (by omega)
    have q5 : IntKind.i64.wrap (L [i] + 128) = L [i] + 128 := wr64 (by omega)
    simp only [Int.toNat_natCast, Nat.zero_add, hw] at *
    repeat' apply And.intro
    all_goals first | trivial | rfl | exact hw.symm | (rw [flat_succ, three]; simp [upd, b2, *]; done) | (intro p hp; rfl)

theorem rbE__p0 (N : Nat) (F L V : Ix → Int) (A : Ix → Bool) (i : Nat) :
    isEnd (evTill Tryd.prog sumsG 100 (behind Tryd.f50 0) 900 50 (headOf Tryd.f50 0) (envAt Tryd.f50.ntmps (rbE N i (flat F L V A i))) (triE 60 N F L V A ++ []) ⟨[.s false, .s false], 90⟩) (endP ([]) (.tup [(false, .vs fun _ => flat F L V A N), (false, .vi .i64 fun _ => 0)]) [] 160) =
    (OkL [(decide ((↑i : Int) < (↑N : Int)), false), (decide ((↑N : Int) > (85 : Int)), false)] ∧ (flat F L V A N = flat F L V A i ∧ (0 : Int) = (0 : Int) ∧ True) ∧ True) := by kernel_rfl

set_option maxHeartbeats 4000000 in
theorem rbE_ (N : Nat) (F L V : Ix → Int) (A : Ix → Bool) (i : Nat) (he : i = N) (hN : N ≤ 85) :
    RunsTo Tryd.prog 50 (headOf Tryd.f50 0) (envAt Tryd.f50.ntmps (rbE N i (flat F L V A i))) (Sx.look (triE 60 N F L V A ++ [])) 80 (.tup [(false, .vs fun _ => flat F L V A N), (false, .vi .i64 fun _ => 0)]) (Sx.look []) 160 := by
  have gg0 : (decide ((↑i : Int) < (↑N : Int))) = false := by first | (simp (disch := omega) only [dT, dF, nltT, nltF, nleT, nleF, neqT, neqF, ieqT, ieqF, ineT, ineF, notT, notF, andT, andF, orT, orF, wr64s, Int.toNat_natCast, Nat.zero_add, Nat.add_zero] at *; omega) | (simp (disch := omega) only [dT, dF, nltT, nltF, nleT, nleF, neqT, neqF, ieqT, ieqF, ineT, ineF, notT, notF, andT, andF, orT, orF, wr64s, Int.toNat_natCast, Nat.zero_add, Nat.add_zero] at *; done) | (simp_all; done)
  have gg1 : (decide ((↑N : Int) > (85 : Int))) = false := by first | (simp (disch := omega) only [dT, dF, nltT, nltF, nleT, nleF, neqT, neqF, ieqT, ieqF, ineT, ineF, notT, notF, andT, andF, orT, orF, wr64s, Int.toNat_natCast, Nat.zero_add, Nat.add_zero] at *; omega) | (simp (disch := omega) only [dT, dF, nltT, nltF, nleT, nleF, neqT, neqF, ieqT, ieqF, ineT, ineF, notT, notF, andT, andF, orT, orF, wr64s, Int.toNat_natCast, Nat.zero_add, Nat.add_zero] at *; done) | (simp_all; done)
  refine runs_last baseG (Sx.Ends.of (rbE__p0 N F L V A i) ⟨(okc gg0 (okc gg1 okn)), ?_⟩) (by kernel_rfl) rfl (gtL (by decide)) (by decide)
  subst he
  simp

theorem rbBad_p0 (N : Nat) (F L V : Ix → Int) (A : Ix → Bool) (i : Nat) :
    isEnd (evTill Tryd.prog sumsG 100 (behind Tryd.f50 0) 900 50 (headOf Tryd.f50 0) (envAt Tryd.f50.ntmps (rbE N i (flat F L V A i))) (triE 60 N F L V A ++ []) ⟨[.s true, .s true, .s true, .s true, .t, .s true], 90⟩) (endP ([]) (.tup [(false, .vs fun _ => []), (false, .vi .i64 fun _ => 5)]) [] 160) =
    (OkL [(decide ((↑i : Int) < (↑N : Int)), true), (decide ((0 : Int) ≤ (↑i : Int) ∧ (↑i : Int) < (↑N : Int)), true), (((0 : Nat) + (↑i : Int).toNat).blt N, true), (((0 : Nat) + (↑i : Int).toNat).blt N, true), (!rightT (F [(0 : Nat) + (↑i : Int).toNat]) (L [(0 : Nat) + (↑i : Int).toNat]) (V [(0 : Nat) + (↑i : Int).toNat]), true)] ∧ (([] : List UInt8) = [] ∧ (5 : Int) = (5 : Int) ∧ True) ∧ True) := by kernel_rfl

set_option maxHeartbeats 4000000 in
theorem rbBad (N : Nat) (F L V : Ix → Int) (A : Ix → Bool) (i : Nat) (hi : i < N) (hr : rightT (F [i]) (L [i]) (V [i]) = false) :
    RunsTo Tryd.prog 50 (headOf Tryd.f50 0) (envAt Tryd.f50.ntmps (rbE N i (flat F L V A i))) (Sx.look (triE 60 N F L V A ++ [])) 80 (.tup [(false, .vs fun _ => []), (false, .vi .i64 fun _ => 5)]) (Sx.look []) 160 := by
  have gg0 : (decide ((↑i : Int) < (↑N : Int))) = true := by (try simp only [Int.toNat_natCast, Nat.zero_add]); first | (simp only [hr]; done) | (simp (disch := omega) only [dT, dF, nltT, nltF, nleT, nleF, neqT, neqF, ieqT, ieqF, ineT, ineF, notT, notF, andT, andF, orT, orF, wr64s, Int.toNat_natCast, Nat.zero_add, Nat.add_zero] at *; omega) | (simp (disch := omega) only [dT, dF, nltT, nltF, nleT, nleF, neqT, neqF, ieqT, ieqF, ineT, ineF, notT, notF, andT, andF, orT, orF, wr64s, Int.toNat_natCast, Nat.zero_add, Nat.add_zero] at *; done) | (simp_all; done)
  have gg1 : (decide ((0 : Int) ≤ (↑i : Int) ∧ (↑i : Int) < (↑N : Int))) = true := by (try simp only [Int.toNat_natCast, Nat.zero_add]); first | (simp only [hr]; done) | (simp (disch := omega) only [dT, dF, nltT, nltF, nleT, nleF, neqT, neqF, ieqT, ieqF, ineT, ineF, notT, notF, andT, andF, orT, orF, wr64s, Int.toNat_natCast, Nat.zero_add, Nat.add_zero] at *; omega) | (simp (disch := omega) only [dT, dF, nltT, nltF, nleT, nleF, neqT, neqF, ieqT, ieqF, ineT, ineF, notT, notF, andT, andF, orT, orF, wr64s, Int.toNat_natCast, Nat.zero_add, Nat.add_zero] at *; done) | (simp_all; done)
  have gg2 : (((0 : Nat) + (↑i : Int).toNat).blt N) = true := by (try simp only [Int.toNat_natCast, Nat.zero_add]); first | (simp only [hr]; done) | (simp (disch := omega) only [dT, dF, nltT, nltF, nleT, nleF, neqT, neqF, ieqT, ieqF, ineT, ineF, notT, notF, andT, andF, orT, orF, wr64s, Int.toNat_natCast, Nat.zero_add, Nat.add_zero] at *; omega) | (simp (disch := omega) only [dT, dF, nltT, nltF, nleT, nleF, neqT, neqF, ieqT, ieqF, ineT, ineF, notT, notF, andT, andF, orT, orF, wr64s, Int.toNat_natCast, Nat.zero_add, Nat.add_zero] at *; done) | (simp_all; done)
  have gg3 : (!rightT (F [(0 : Nat) + (↑i : Int).toNat]) (L [(0 : Nat) + (↑i : Int).toNat]) (V [(0 : Nat) + (↑i : Int).toNat])) = true := by (try simp only [Int.toNat_natCast, Nat.zero_add]); first | (simp only [hr]; done) | (simp (disch := omega) only [dT, dF, nltT, nltF, nleT, nleF, neqT, neqF, ieqT, ieqF, ineT, ineF, notT, notF, andT, andF, orT, orF, wr64s, Int.toNat_natCast, Nat.zero_add, Nat.add_zero] at *; omega) | (simp (disch := omega) only [dT, dF, nltT, nltF, nleT, nleF, neqT, neqF, ieqT, ieqF, ineT, ineF, notT, notF, andT, andF, orT, orF, wr64s, Int.toNat_natCast, Nat.zero_add, Nat.add_zero] at *; done) | (simp_all; done)
  refine runs_last baseG (Sx.Ends.of (rbBad_p0 N F L V A i) ⟨(okc gg0 (okc gg1 (okc gg2 (okc gg2 (okc gg3 okn))))), ?_⟩) (by kernel_rfl) rfl (gtL (by decide)) (by decide)
  simp

theorem rbLong_p0 (N : Nat) (F L V : Ix → Int) (A : Ix → Bool) (i : Nat) :
    isEnd (evTill Tryd.prog sumsG 100 (behind Tryd.f50 0) 900 50 (headOf Tryd.f50 0) (envAt Tryd.f50.ntmps (rbE N i (flat F L V A i))) (triE 60 N F L V A ++ []) ⟨[.s false, .s true], 90⟩) (endP ([]) (.tup [(false, .vs fun _ => []), (false, .vi .i64 fun _ => 4)]) [] 160) =
    (OkL [(decide ((↑i : Int) < (↑N : Int)), false), (decide ((↑N : Int) > (85 : Int)), true)] ∧ (([] : List UInt8) = [] ∧ (4 : Int) = (4 : Int) ∧ True) ∧ True) := by kernel_rfl

set_option maxHeartbeats 4000000 in
theorem rbLong (N : Nat) (F L V : Ix → Int) (A : Ix → Bool) (i : Nat) (he : i = N) (hN : 85 < N) :
    RunsTo Tryd.prog 50 (headOf Tryd.f50 0) (envAt Tryd.f50.ntmps (rbE N i (flat F L V A i))) (Sx.look (triE 60 N F L V A ++ [])) 80 (.tup [(false, .vs fun _ => []), (false, .vi .i64 fun _ => 4)]) (Sx.look []) 160 := by
  have gg0 : (decide ((↑i : Int) < (↑N : Int))) = false := by first | (simp (disch := omega) only [dT, dF, nltT, nltF, nleT, nleF, neqT, neqF, ieqT, ieqF, ineT, ineF, notT, notF, andT, andF, orT, orF, wr64s, Int.toNat_natCast, Nat.zero_add, Nat.add_zero] at *; omega) | (simp (disch := omega) only [dT, dF, nltT, nltF, nleT, nleF, neqT, neqF, ieqT, ieqF, ineT, ineF, notT, notF, andT, andF, orT, orF, wr64s, Int.toNat_natCast, Nat.zero_add, Nat.add_zero] at *; done) | (simp_all; done)
  have gg1 : (decide ((↑N : Int) > (85 : Int))) = true := by first | (simp (disch := omega) only [dT, dF, nltT, nltF, nleT, nleF, neqT, neqF, ieqT, ieqF, ineT, ineF, notT, notF, andT, andF, orT, orF, wr64s, Int.toNat_natCast, Nat.zero_add, Nat.add_zero] at *; omega) | (simp (disch := omega) only [dT, dF, nltT, nltF, nleT, nleF, neqT, neqF, ieqT, ieqF, ineT, ineF, notT, notF, andT, andF, orT, orF, wr64s, Int.toNat_natCast, Nat.zero_add, Nat.add_zero] at *; done) | (simp_all; done)
  refine runs_last baseG (Sx.Ends.of (rbLong_p0 N F L V A i) ⟨(okc gg0 (okc gg1 okn)), ?_⟩) (by kernel_rfl) rfl (gtL (by decide)) (by decide)
  simp

theorem rbL (N : Nat) (F L V : Ix → Int) (A : Ix → Bool) (hN : N ≤ 85) (hr : allR F L V N = true) : ∀ (k i : Nat), i + k = N → RunsTo Tryd.prog 50 (headOf Tryd.f50 0) (envAt Tryd.f50.ntmps (rbE N i (flat F L V A i))) (Sx.look (triE 60 N F L V A ++ [])) 80 (.tup [(false, .vs fun _ => flat F L V A N), (false, .vi .i64 fun _ => 0)]) (Sx.look []) 160 := by
  intro k
  induction k with
  | zero => intro i hi; exact rbE_ N F L V A i (by omega) hN
  | succ k ih => intro i hi; exact rbN N F L V A i (by omega) (by omega) (allR_ok hr (by omega)) _ _ (ih (i + 1) (by omega))
theorem rbF (N : Nat) (F L V : Ix → Int) (A : Ix → Bool) (hN : N ≤ 100) (q : Nat) (hq : q < N) (hb : rightT (F [q]) (L [q]) (V [q]) = false) (hr : ∀ j, j < q → rightT (F [j]) (L [j]) (V [j]) = true) : ∀ (k i : Nat), i + k = q → RunsTo Tryd.prog 50 (headOf Tryd.f50 0) (envAt Tryd.f50.ntmps (rbE N i (flat F L V A i))) (Sx.look (triE 60 N F L V A ++ [])) 80 (.tup [(false, .vs fun _ => []), (false, .vi .i64 fun _ => 5)]) (Sx.look []) 160 := by
  intro k
  induction k with
  | zero =>
    intro i hi
    obtain rfl : i = q := by omega
    exact rbBad N F L V A i hq hb
  | succ k ih => intro i hi; exact rbN N F L V A i (by omega) hN (hr i (by omega)) _ _ (ih (i + 1) (by omega))
theorem rbG (N : Nat) (F L V : Ix → Int) (A : Ix → Bool) (hN : N ≤ 100) (h85 : 85 < N) (hr : allR F L V N = true) : ∀ (k i : Nat), i + k = N → RunsTo Tryd.prog 50 (headOf Tryd.f50 0) (envAt Tryd.f50.ntmps (rbE N i (flat F L V A i))) (Sx.look (triE 60 N F L V A ++ [])) 80 (.tup [(false, .vs fun _ => []), (false, .vi .i64 fun _ => 4)]) (Sx.look []) 160 := by
  intro k
  induction k with
  | zero => intro i hi; exact rbLong N F L V A i (by omega) h85
  | succ k ih => intro i hi; exact rbN N F L V A i (by omega) hN (allR_ok hr (by omega)) _ _ (ih (i + 1) (by omega))
def txtB (F L V : Ix → Int) (A : Ix → Bool) (N : Nat) : List UInt8 := if allR F L V N = true then (if N ≤ 85 then flat F L V A N else []) else []
def numB (F L V : Ix → Int) (N : Nat) : Int := if allR F L V N = true then (if N ≤ 85 then 0 else 4) else 5
theorem bodyR (N : Nat) (F L V : Ix → Int) (A : Ix → Bool) (hN : N ≤ 100) : RunsTo Tryd.prog 50 [.code (bodyOf Tryd.f50)] (envOf [triV 60 N] Tryd.f50.ntmps) (Sx.look (triE 60 N F L V A ++ [])) 80 (.tup [(false, .vs fun _ => txtB F L V A N), (false, .vi .i64 fun _ => numB F L V N)]) (Sx.look []) 160 := by
  cases hr : allR F L V N with
  | true =>
    by_cases h : N ≤ 85
    · rw [show txtB F L V A N = flat F L V A N by simp [txtB, hr, h], show numB F L V N = 0 by simp [numB, hr, h]]
      exact rb0 N F L V A _ _ (rbL N F L V A h hr N 0 (by omega))
    · rw [show txtB F L V A N = [] by simp [txtB, hr, h], show numB F L V N = 4 by simp [numB, hr, h]]
      exact rb0 N F L V A _ _ (rbG N F L V A hN (by omega) hr N 0 (by omega))
  | false =>
    obtain ⟨q, h1, h2, h3⟩ := allR_no hr
    rw [show txtB F L V A N = [] by simp [txtB, hr], show numB F L V N = 5 by simp [numB, hr]]
    exact rb0 N F L V A _ _ (rbF N F L V A hN q h1 h2 h3 q 0 (by omega))

end Go.Proofs.YtdmkdmaofgjelaaDoor
