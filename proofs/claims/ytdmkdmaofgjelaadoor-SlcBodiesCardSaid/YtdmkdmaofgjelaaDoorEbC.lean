/- Special characters: bytes' triples. -/
import Derived.Test.YtdmkdmaofgjelaaDoorEaC
set_option linter.unusedSimpArgs false
set_option linter.unusedVariables false
set_option maxRecDepth 100000
namespace Go.Proofs.YtdmkdmaofgjelaaDoor
open Go.Sx


abbrev Tri := Int × Int × Int × Bool
def trG (G : Nat → Int) (m : Nat) : Tri := (G (3 * m), G (3 * m + 1) % 4, G (3 * m + 2), decide (128 ≤ G (3 * m + 1)))
def okT (t : Tri) : Bool := rightT t.1 t.2.1 t.2.2.1
def rts (G : Nat → Int) (m : Nat) : List Tri := ((List.range m).map (trG G)).filter okT
def d0 : Tri := (0, 0, 0, false)
def cF (l : List Tri) : Ix → Int := fun is => (l.getD (is.headD 0) d0).1
def cL (l : List Tri) : Ix → Int := fun is => (l.getD (is.headD 0) d0).2.1
def cV (l : List Tri) : Ix → Int := fun is => (l.getD (is.headD 0) d0).2.2.1
def cA (l : List Tri) : Ix → Bool := fun is => (l.getD (is.headD 0) d0).2.2.2
def rowT (p : Nat) (l : List Tri) : List Ent := [⟨p, true, none, 4, .ta l.length (.tc (.vi .i64 (cF l)) (.tc (.tc (.vi .i64 (cL l)) (.tc (.vi .i64 (cV l)) .t0)) (.tc (.vb (cA l)) .t0)))⟩]
def slT (p : Nat) (l : List Tri) : Tr := .vl p (fun _ => 0) 4 [] (fun _ => l.length)
def bytE (p n : Nat) (B : Ix → Int) : List Ent := [⟨p, false, none, 1, .ta n (.vi .u8 B)⟩]
def byV (p n : Nat) : SV := .v (.vl p (fun _ => 0) 1 [] (fun _ => n))
def gB (B : Ix → Int) (p : Nat) : Int := B [p]
theorem rts_yes {G : Nat → Int} {m : Nat} (h : okT (trG G m) = true) : rts G (m + 1) = rts G m ++ [trG G m] := by
  simp [rts, List.range_succ, List.filter_append, h]
theorem rts_no {G : Nat → Int} {m : Nat} (h : okT (trG G m) = false) : rts G (m + 1) = rts G m := by
  simp [rts, List.range_succ, List.filter_append, h]
theorem rts_len (G : Nat → Int) (m : Nat) : (rts G m).length ≤ m := by
  unfold rts
  exact Nat.le_trans (List.length_filter_le _ _) (by simp)
theorem getD_app {l : List Tri} {t : Tri} {p : Nat} (hp : p < l.length + 1) : (l ++ [t]).getD p d0 = if p < l.length then l.getD p d0 else t := by
  by_cases h : p < l.length
  · rw [if_pos h, List.getD_eq_getElem?_getD, List.getElem?_append_left h, List.getD_eq_getElem?_getD]
  · rw [if_neg h, List.getD_eq_getElem?_getD, List.getElem?_append_right (by omega), show p - l.length = 0 by omega]
    rfl
theorem and3 {x : Int} (h : 0 ≤ x ∧ x < 256) : iand IntKind.u8 x 3 = x % 4 := by
  obtain ⟨n, rfl⟩ := Int.eq_ofNat_of_zero_le h.1
  have hn : n < 256 := by omega
  have : ∀ k : Fin 256, iand IntKind.u8 ((k.val : Nat) : Int) 3 = ((k.val : Nat) : Int) % 4 := by decide
  exact this ⟨n, hn⟩
theorem and128 {x : Int} (h : 0 ≤ x ∧ x < 256) : (iand IntKind.u8 x 128 != 0) = decide (128 ≤ x) := by
  obtain ⟨n, rfl⟩ := Int.eq_ofNat_of_zero_le h.1
  have hn : n < 256 := by omega
  have : ∀ k : Fin 256, (iand IntKind.u8 ((k.val : Nat) : Int) 128 != 0) = decide (128 ≤ ((k.val : Nat) : Int)) := by decide
  exact this ⟨n, hn⟩
theorem cF_app {l : List Tri} {t : Tri} {p : Nat} (hp : p < l.length + 1) : cF (l ++ [t]) [p] = appF l.length 0 (cF l) (fun _ => t.1) [p] := by
  simp only [cF, appF, List.headD_cons, getD_app hp, Nat.zero_add]; split <;> rfl
theorem cL_app {l : List Tri} {t : Tri} {p : Nat} (hp : p < l.length + 1) : cL (l ++ [t]) [p] = appF l.length 0 (cL l) (fun _ => t.2.1) [p] := by
  simp only [cL, appF, List.headD_cons, getD_app hp, Nat.zero_add]; split <;> rfl
theorem cV_app {l : List Tri} {t : Tri} {p : Nat} (hp : p < l.length + 1) : cV (l ++ [t]) [p] = appF l.length 0 (cV l) (fun _ => t.2.2.1) [p] := by
  simp only [cV, appF, List.headD_cons, getD_app hp, Nat.zero_add]; split <;> rfl
theorem cA_app {l : List Tri} {t : Tri} {p : Nat} (hp : p < l.length + 1) : cA (l ++ [t]) [p] = appF l.length 0 (cA l) (fun _ => t.2.2.2) [p] := by
  simp only [cA, appF, List.headD_cons, getD_app hp, Nat.zero_add]; split <;> rfl
theorem app_len (l : List Tri) (t : Tri) : (l ++ [t]).length = l.length + 1 := by simp
def paE (n m : Nat) (l : List Tri) : List (Nat × SV) := [(0, byV 60 n), (4, .v (slT 85 l)), (5, vN ((3 * m : Nat) : Int))]
theorem pa0_p0 (n : Nat) (B : Ix → Int) :
    isMore (evTill Tryd.prog sumsG 100 (behind Tryd.f51 0) 900 51 [.code (bodyOf Tryd.f51)] (envOf [byV 60 n] Tryd.f51.ntmps) (bytE 60 n B ++ []) ⟨[.t, .s false], 80⟩) (moreP (headOf Tryd.f51 0) ([((85 : Nat), Rn.nil (4 : Nat))]) Tryd.f51.ntmps (paE n 0 (rts (gB B) 0)) (rowT 85 (rts (gB B) 0)) 160) =
    (OkL [((↑n : Int).tmod (3 : Int) != (0 : Int), false)] ∧ headOf Tryd.f51 (0 : Nat) = headOf Tryd.f51 (0 : Nat) ∧ (((0 : Nat) = (0 : Nat) ∧ n = n) ∧ (rts (gB B) (0 : Nat)).length = (0 : Nat) ∧ (↑(0 : Nat) : Int) = (0 : Int)) ∧ (rts (gB B) (0 : Nat)).length = (0 : Nat)) := by kernel_rfl

set_option maxHeartbeats 4000000 in
theorem pa0 (n : Nat) (B : Ix → Int) (h3 : n % 3 = 0) (v : SV) (L' : HF) (next : RunsTo Tryd.prog 51 (headOf Tryd.f51 0) (envAt Tryd.f51.ntmps (paE n 0 (rts (gB B) 0))) (Sx.look (bytE 60 n B ++ rowT 85 (rts (gB B) 0))) 80 v L' 160) :
    RunsTo Tryd.prog 51 [.code (bodyOf Tryd.f51)] (envOf [byV 60 n] Tryd.f51.ntmps) (Sx.look (bytE 60 n B ++ [])) 80 v L' 160 := by
  have gg0 : ((↑n : Int).tmod (3 : Int) != (0 : Int)) = false := by clear next; (simp only [dT, dF, nltT, nltF, nleT, nleF, neqT, neqF, ieqT, ieqF, ineT, ineF, notT, notF, andT, andF, orT, orF, Int.tmod_eq_emod_of_nonneg (Int.natCast_nonneg n)]; omega)
  refine runs_more baseG (More.of (pa0_p0 n B) ⟨(okc gg0 okn), rfl, ?_⟩) (by kernel_rfl) (by kernel_rfl) rfl (gtL (by decide)) (by decide) next
  clear next
  simp [rts]

theorem paN_p0 (n : Nat) (B : Ix → Int) (m : Nat) :
    isMore (evTill Tryd.prog sumsG 100 (behind Tryd.f51 0) 900 51 (headOf Tryd.f51 0) (envAt Tryd.f51.ntmps (paE n m (rts (gB B) m))) (bytE 60 n B ++ rowT 85 (rts (gB B) m)) ⟨[.s true, .s true, .s true, .s true, .s true, .s true, .s true, .s true, .s true, .s true, .s true, .s true, .s true, .t, .s false], 90⟩) (moreP (headOf Tryd.f51 0) ([]) Tryd.f51.ntmps (paE n (m + 1) (rts (gB B) (m + 1))) (rowT 85 (rts (gB B) (m + 1))) 160) =
    (OkL [(decide ((↑((3 : Nat) * m) : Int) < (↑n : Int)), true), (decide ((0 : Int) ≤ (↑((3 : Nat) * m) : Int) ∧ (↑((3 : Nat) * m) : Int) < (↑n : Int)), true), (((0 : Nat) + (↑((3 : Nat) * m) : Int).toNat).blt n, true), (((0 : Nat) + (↑((3 : Nat) * m) : Int).toNat).blt n, true), (decide ((0 : Int) ≤ IntKind.i64.wrap ((↑((3 : Nat) * m) : Int) + (1 : Int)) ∧ IntKind.i64.wrap ((↑((3 : Nat) * m) : Int) + (1 : Int)) < (↑n : Int)), true), (((0 : Nat) + (IntKind.i64.wrap ((↑((3 : Nat) * m) : Int) + (1 : Int))).toNat).blt n, true), (((0 : Nat) + (IntKind.i64.wrap ((↑((3 : Nat) * m) : Int) + (1 : Int))).toNat).blt n, true), (decide ((0 : Int) ≤ IntKind.i64.wrap ((↑((3 : Nat) * m) : Int) + (2 : Int)) ∧ IntKind.i64.wrap ((↑((3 : Nat) * m) : Int) + (2 : Int)) < (↑n : Int)), true), (((0 : Nat) + (IntKind.i64.wrap ((↑((3 : Nat) * m) : Int) + (2 : Int))).toNat).blt n, true), (((0 : Nat) + (IntKind.i64.wrap ((↑((3 : Nat) * m) : Int) + (2 : Int))).toNat).blt n, true), (decide ((0 : Int) ≤ IntKind.i64.wrap ((↑((3 : Nat) * m) : Int) + (1 : Int)) ∧ IntKind.i64.wrap ((↑((3 : Nat) * m) : Int) + (1 : Int)) < (↑n : Int)), true), (((0 : Nat) + (IntKind.i64.wrap ((↑((3 : Nat) * m) : Int) + (1 : Int))).toNat).blt n, true), (((0 : Nat) + (IntKind.i64.wrap ((↑((3 : Nat) * m) : Int) + (1 : Int))).toNat).blt n, true), (rightT (IntKind.i64.wrap (B [(0 : Nat) + (↑((3 : Nat) * m) : Int).toNat])) (IntKind.i64.wrap (iand IntKind.u8 (B [(0 : Nat) + (IntKind.i64.wrap ((↑((3 : Nat) * m) : Int) + (1 : Int))).toNat]) (3 : Int))) (IntKind.i64.wrap (B [(0 : Nat) + (IntKind.i64.wrap ((↑((3 : Nat) * m) : Int) + (2 : Int))).toNat])), false)] ∧ headOf Tryd.f51 (0 : Nat) = headOf Tryd.f51 (0 : Nat) ∧ (((0 : Nat) = (0 : Nat) ∧ n = n) ∧ ((0 : Nat) = (0 : Nat) ∧ (rts (gB B) (m + (1 : Nat))).length = (rts (gB B) m).length) ∧ (↑((3 : Nat) * (m + (1 : Nat))) : Int) = IntKind.i64.wrap ((↑((3 : Nat) * m) : Int) + (3 : Int))) ∧ (rts (gB B) (m + (1 : Nat))).length = (rts (gB B) m).length ∧ (∀ (i : Nat), i < (rts (gB B) (m + (1 : Nat))).length → cF (rts (gB B) (m + (1 : Nat))) [i] = cF (rts (gB B) m) [i]) ∧ ((∀ (i : Nat), i < (rts (gB B) (m + (1 : Nat))).length → cL (rts (gB B) (m + (1 : Nat))) [i] = cL (rts (gB B) m) [i]) ∧ ∀ (i : Nat), i < (rts (gB B) (m + (1 : Nat))).length → cV (rts (gB B) (m + (1 : Nat))) [i] = cV (rts (gB B) m) [i]) ∧ ∀ (i : Nat), i < (rts (gB B) (m + (1 : Nat))).length → cA (rts (gB B) (m + (1 : Nat))) [i] = cA (rts (gB B) m) [i]) := by kernel_rfl
theorem paN_p1 (n : Nat) (B : Ix → Int) (m : Nat) :
    isMore (evTill Tryd.prog sumsG 100 (behind Tryd.f51 0) 900 51 (headOf Tryd.f51 0) (envAt Tryd.f51.ntmps (paE n m (rts (gB B) m))) (bytE 60 n B ++ rowT 85 (rts (gB B) m)) ⟨[.s true, .s true, .s true, .s true, .s true, .s true, .s true, .s true, .s true, .s true, .s true, .s true, .s true, .t, .s true, .t, .s true, .s true], 90⟩) (moreP (headOf Tryd.f51 0) ([((85 : Nat), Rn.to (132 : Nat))]) Tryd.f51.ntmps (paE n (m + 1) (rts (gB B) (m + 1))) (rowT 85 (rts (gB B) (m + 1))) 160) =
    (OkL [(decide ((↑((3 : Nat) * m) : Int) < (↑n : Int)), true), (decide ((0 : Int) ≤ (↑((3 : Nat) * m) : Int) ∧ (↑((3 : Nat) * m) : Int) < (↑n : Int)), true), (((0 : Nat) + (↑((3 : Nat) * m) : Int).toNat).blt n, true), (((0 : Nat) + (↑((3 : Nat) * m) : Int).toNat).blt n, true), (decide ((0 : Int) ≤ IntKind.i64.wrap ((↑((3 : Nat) * m) : Int) + (1 : Int)) ∧ IntKind.i64.wrap ((↑((3 : Nat) * m) : Int) + (1 : Int)) < (↑n : Int)), true), (((0 : Nat) + (IntKind.i64.wrap ((↑((3 : Nat) * m) : Int) + (1 : Int))).toNat).blt n, true), (((0 : Nat) + (IntKind.i64.wrap ((↑((3 : Nat) * m) : Int) + (1 : Int))).toNat).blt n, true), (decide ((0 : Int) ≤ IntKind.i64.wrap ((↑((3 : Nat) * m) : Int) + (2 : Int)) ∧ IntKind.i64.wrap ((↑((3 : Nat) * m) : Int) + (2 : Int)) < (↑n : Int)), true), (((0 : Nat) + (IntKind.i64.wrap ((↑((3 : Nat) * m) : Int) + (2 : Int))).toNat).blt n, true), (((0 : Nat) + (IntKind.i64.wrap ((↑((3 : Nat) * m) : Int) + (2 : Int))).toNat).blt n, true), (decide ((0 : Int) ≤ IntKind.i64.wrap ((↑((3 : Nat) * m) : Int) + (1 : Int)) ∧ IntKind.i64.wrap ((↑((3 : Nat) * m) : Int) + (1 : Int)) < (↑n : Int)), true), (((0 : Nat) + (IntKind.i64.wrap ((↑((3 : Nat) * m) : Int) + (1 : Int))).toNat).blt n, true), (((0 : Nat) + (IntKind.i64.wrap ((↑((3 : Nat) * m) : Int) + (1 : Int))).toNat).blt n, true), (rightT (IntKind.i64.wrap (B [(0 : Nat) + (↑((3 : Nat) * m) : Int).toNat])) (IntKind.i64.wrap (iand IntKind.u8 (B [(0 : Nat) + (IntKind.i64.wrap ((↑((3 : Nat) * m) : Int) + (1 : Int))).toNat]) (3 : Int))) (IntKind.i64.wrap (B [(0 : Nat) + (IntKind.i64.wrap ((↑((3 : Nat) * m) : Int) + (2 : Int))).toNat])), true), (((0 : Nat) + (rts (gB B) m).length).ble (rts (gB B) m).length, true), (decide (((2 : Nat) * ((rts (gB B) m).length + (1 : Nat)) + (192 : Nat)) * (32 : Nat) ≤ (281474976710656 : Nat)), true)] ∧ headOf Tryd.f51 (0 : Nat) = headOf Tryd.f51 (0 : Nat) ∧ (((0 : Nat) = (0 : Nat) ∧ n = n) ∧ ((0 : Nat) = (0 : Nat) ∧ (rts (gB B) (m + (1 : Nat))).length = (rts (gB B) m).length + (1 : Nat)) ∧ (↑((3 : Nat) * (m + (1 : Nat))) : Int) = IntKind.i64.wrap ((↑((3 : Nat) * m) : Int) + (3 : Int))) ∧ (rts (gB B) (m + (1 : Nat))).length = (rts (gB B) m).length + (1 : Nat) ∧ (∀ (i : Nat), i < (rts (gB B) (m + (1 : Nat))).length → cF (rts (gB B) (m + (1 : Nat))) [i] = appF (rts (gB B) m).length (0 : Nat) (cF (rts (gB B) m)) (fun js => IntKind.i64.wrap (B [(0 : Nat) + (↑((3 : Nat) * m) : Int).toNat])) [i]) ∧ ((∀ (i : Nat), i < (rts (gB B) (m + (1 : Nat))).length → cL (rts (gB B) (m + (1 : Nat))) [i] = appF (rts (gB B) m).length (0 : Nat) (cL (rts (gB B) m)) (fun js => IntKind.i64.wrap (iand IntKind.u8 (B [(0 : Nat) + (IntKind.i64.wrap ((↑((3 : Nat) * m) : Int) + (1 : Int))).toNat]) (3 : Int))) [i]) ∧ ∀ (i : Nat), i < (rts (gB B) (m + (1 : Nat))).length → cV (rts (gB B) (m + (1 : Nat))) [i] = appF (rts (gB B) m).length (0 : Nat) (cV (rts (gB B) m)) (fun js => IntKind.i64.wrap (B [(0 : Nat) + (IntKind.i64.wrap ((↑((3 : Nat) * m) : Int) + (2 : Int))).toNat])) [i]) ∧ ∀ (i : Nat), i < (rts (gB B) (m + (1 : Nat))).length → cA (rts (gB B) (m + (1 : Nat))) [i] = appF (rts (gB B) m).length (0 : Nat) (cA (rts (gB B) m)) (fun js => iand IntKind.u8 (B [(0 : Nat) + (IntKind.i64.wrap ((↑((3 : Nat) * m) : Int) + (1 : Int))).toNat]) (128 : Int) != (0 : Int)) [i]) := by kernel_rfl

set_option maxHeartbeats 4000000 in
theorem paN (n : Nat) (B : Ix → Int) (m : Nat) (hi : 3 * m + 3 ≤ n) (hN : n ≤ 300) (hB : ∀ i, i < n → 0 ≤ B [i] ∧ B [i] < 256) (v : SV) (L' : HF) (next : RunsTo Tryd.prog 51 (headOf Tryd.f51 0) (envAt Tryd.f51.ntmps (paE n (m + 1) (rts (gB B) (m + 1)))) (Sx.look (bytE 60 n B ++ rowT 85 (rts (gB B) (m + 1)))) 80 v L' 160) :
    RunsTo Tryd.prog 51 (headOf Tryd.f51 0) (envAt Tryd.f51.ntmps (paE n m (rts (gB B) m))) (Sx.look (bytE 60 n B ++ rowT 85 (rts (gB B) m))) 80 v L' 160 := by
  have gg0 : (decide ((↑((3 : Nat) * m) : Int) < (↑n : Int))) = true := by clear next; have hrl := rts_len (gB B) m; (try simp only [Int.toNat_natCast, Nat.zero_add]); first | assumption | (simp (disch := omega) only [dT, dF, nltT, nltF, nleT, nleF, neqT, neqF, ieqT, ieqF, ineT, ineF, notT, notF, andT, andF, orT, orF, wr64s, Int.toNat_natCast, Nat.zero_add, Nat.add_zero] at *; omega) | (simp (disch := omega) only [dT, dF, nltT, nltF, nleT, nleF, neqT, neqF, ieqT, ieqF, ineT, ineF, notT, notF, andT, andF, orT, orF, wr64s, Int.toNat_natCast, Nat.zero_add, Nat.add_zero] at *; done) | (simp_all; done)
  have gg1 : (decide ((0 : Int) ≤ (↑((3 : Nat) * m) : Int) ∧ (↑((3 : Nat) * m) : Int) < (↑n : Int))) = true := by clear next; have hrl := rts_len (gB B) m; (try simp only [Int.toNat_natCast, Nat.zero_add]); first | assumption | (simp (disch := omega) only [dT, dF, nltT, nltF, nleT, nleF, neqT, neqF, ieqT, ieqF, ineT, ineF, notT, notF, andT, andF, orT, orF, wr64s, Int.toNat_natCast, Nat.zero_add, Nat.add_zero] at *; omega) | (simp (disch := omega) only [dT, dF, nltT, nltF, nleT, nleF, neqT, neqF, ieqT, ieqF, ineT, ineF, notT, notF, andT, andF, orT, orF, wr64s, Int.toNat_natCast, Nat.zero_add, Nat.add_zero] at *; done) | (simp_all; done)
  have gg2 : (((0 : Nat) + (↑((3 : Nat) * m) : Int).toNat).blt n) = true := by clear next; have hrl := rts_len (gB B) m; (try simp only [Int.toNat_natCast, Nat.zero_add]); first | assumption | (simp (disch := omega) only [dT, dF, nltT, nltF, nleT, nleF, neqT, neqF, ieqT, ieqF, ineT, ineF, notT, notF, andT, andF, orT, orF, wr64s, Int.toNat_natCast, Nat.zero_add, Nat.add_zero] at *; omega) | (simp (disch := omega) only [dT, dF, nltT, nltF, nleT, nleF, neqT, neqF, ieqT, ieqF, ineT, ineF, notT, notF, andT, andF, orT, orF, wr64s, Int.toNat_natCast, Nat.zero_add, Nat.add_zero] at *; done) | (simp_all; done)
  have gg3 : (decide ((0 : Int) ≤ IntKind.i64.wrap ((↑((3 : Nat) * m) : Int) + (1 : Int)) ∧ IntKind.i64.wrap ((↑((3 : Nat) * m) : Int) + (1 : Int)) < (↑n : Int))) = true := by clear next; have hrl := rts_len (gB B) m; (try simp only [Int.toNat_natCast, Nat.zero_add]); first | assumption | (simp (disch := omega) only [dT, dF, nltT, nltF, nleT, nleF, neqT, neqF, ieqT, ieqF, ineT, ineF, notT, notF, andT, andF, orT, orF, wr64s, Int.toNat_natCast, Nat.zero_add, Nat.add_zero] at *; omega) | (simp (disch := omega) only [dT, dF, nltT, nltF, nleT, nleF, neqT, neqF, ieqT, ieqF, ineT, ineF, notT, notF, andT, andF, orT, orF, wr64s, Int.toNat_natCast, Nat.zero_add, Nat.add_zero] at *; done) | (simp_all; done)
  have gg4 : (((0 : Nat) + (IntKind.i64.wrap ((↑((3 : Nat) * m) : Int) + (1 : Int))).toNat).blt n) = true := by clear next; have hrl := rts_len (gB B) m; (try simp only [Int.toNat_natCast, Nat.zero_add]); first | assumption | (simp (disch := omega) only [dT, dF, nltT, nltF, nleT, nleF, neqT, neqF, ieqT, ieqF, ineT, ineF, notT, notF, andT, andF, orT, orF, wr64s, Int.toNat_natCast, Nat.zero_add, Nat.add_zero] at *; omega) | (simp (disch := omega) only [dT, dF, nltT, nltF, nleT, nleF, neqT, neqF, ieqT, ieqF, ineT, ineF, notT, notF, andT, andF, orT, orF, wr64s, Int.toNat_natCast, Nat.zero_add, Nat.add_zero] at *; done) | (simp_all; done)
  have gg5 : (decide ((0 : Int) ≤ IntKind.i64.wrap ((↑((3 : Nat) * m) : Int) + (2 : Int)) ∧ IntKind.i64.wrap ((↑((3 : Nat) * m) : Int) + (2 : Int)) < (↑n : Int))) = true := by clear next; have hrl := rts_len (gB B) m; (try simp only [Int.toNat_natCast, Nat.zero_add]); first | assumption | (simp (disch := omega) only [dT, dF, nltT, nltF, nleT, nleF, neqT, neqF, ieqT, ieqF, ineT, ineF, notT, notF, andT, andF, orT, orF, wr64s, Int.toNat_natCast, Nat.zero_add, Nat.add_zero] at *; omega) | (simp (disch := omega) only [dT, dF, nltT, nltF, nleT, nleF, neqT, neqF, ieqT, ieqF, ineT, ineF, notT, notF, andT, andF, orT, orF, wr64s, Int.toNat_natCast, Nat.zero_add, Nat.add_zero] at *; done) | (simp_all; done)
  have gg6 : (((0 : Nat) + (IntKind.i64.wrap ((↑((3 : Nat) * m) : Int) + (2 : Int))).toNat).blt n) = true := by clear next; have hrl := rts_len (gB B) m; (try simp only [Int.toNat_natCast, Nat.zero_add]); first | assumption | (simp (disch := omega) only [dT, dF, nltT, nltF, nleT, nleF, neqT, neqF, ieqT, ieqF, ineT, ineF, notT, notF, andT, andF, orT, orF, wr64s, Int.toNat_natCast, Nat.zero_add, Nat.add_zero] at *; omega) | (simp (disch := omega) only [dT, dF, nltT, nltF, nleT, nleF, neqT, neqF, ieqT, ieqF, ineT, ineF, notT, notF, andT, andF, orT, orF, wr64s, Int.toNat_natCast, Nat.zero_add, Nat.add_zero] at *; done) | (simp_all; done)
  refine bcase (c := (rightT (IntKind.i64.wrap (B [(0 : Nat) + (↑((3 : Nat) * m) : Int).toNat])) (IntKind.i64.wrap (iand IntKind.u8 (B [(0 : Nat) + (IntKind.i64.wrap ((↑((3 : Nat) * m) : Int) + (1 : Int))).toNat]) (3 : Int))) (IntKind.i64.wrap (B [(0 : Nat) + (IntKind.i64.wrap ((↑((3 : Nat) * m) : Int) + (2 : Int))).toNat])))) (fun gg7 => ?_) (fun gg7 => ?_)
  · refine runs_more baseG (More.of (paN_p0 n B m) ⟨(okc gg0 (okc gg1 (okc gg2 (okc gg2 (okc gg3 (okc gg4 (okc gg4 (okc gg5 (okc gg6 (okc gg6 (okc gg3 (okc gg4 (okc gg4 (okc gg7 okn)))))))))))))), rfl, ?_⟩) (by kernel_rfl) (by kernel_rfl) rfl (gtL (by decide)) (by decide) next
    clear next
    have b0 := hB (3 * m) (by omega)
    have b1 := hB (3 * m + 1) (by omega)
    have b2' := hB (3 * m + 2) (by omega)
    have n0 : (((3 * m : Nat)) : Int).toNat = 3 * m := Int.toNat_natCast _
    have w1 : (IntKind.i64.wrap (((3 * m : Nat) : Int) + 1)).toNat = 3 * m + 1 := by rw [wr64 (by omega)]; omega
    have w2 : (IntKind.i64.wrap (((3 * m : Nat) : Int) + 2)).toNat = 3 * m + 2 := by rw [wr64 (by omega)]; omega
    have w3 : IntKind.i64.wrap (((3 * m : Nat) : Int) + 3) = ((3 * (m + 1) : Nat) : Int) := by rw [wr64 (by omega)]; omega
    have v0 : IntKind.i64.wrap (B [3 * m]) = B [3 * m] := wr64 (by omega)
    have v1 : IntKind.i64.wrap (B [3 * m + 1] % 4) = B [3 * m + 1] % 4 := wr64 (by omega)
    have v2 : IntKind.i64.wrap (B [3 * m + 2]) = B [3 * m + 2] := wr64 (by omega)
    simp only [n0, w1, w2, w3, Nat.zero_add, and3 b1, and128 b1, v0, v1, v2] at gg7 ⊢
    first
      | (have hk : okT (trG (gB B) m) = true := gg7
         simp only [rts_yes hk, app_len]
         repeat' apply And.intro
         all_goals first | trivial | rfl | (intro p hp; first | trivial | rfl | exact cF_app hp | exact cL_app hp | exact cV_app hp | exact cA_app hp))
      | (have hk : okT (trG (gB B) m) = false := gg7
         simp only [rts_no hk]
         repeat' apply And.intro
         all_goals first | trivial | rfl | (intro p hp; first | trivial | rfl))
  · have gg8 : (((0 : Nat) + (rts (gB B) m).length).ble (rts (gB B) m).length) = true := by clear next; have hrl := rts_len (gB B) m; (try simp only [Int.toNat_natCast, Nat.zero_add]); first | assumption | (simp (disch := omega) only [dT, dF, nltT, nltF, nleT, nleF, neqT, neqF, ieqT, ieqF, ineT, ineF, notT, notF, andT, andF, orT, orF, wr64s, Int.toNat_natCast, Nat.zero_add, Nat.add_zero] at *; omega) | (simp (disch := omega) only [dT, dF, nltT, nltF, nleT, nleF, neqT, neqF, ieqT, ieqF, ineT, ineF, notT, notF, andT, andF, orT, orF, wr64s, Int.toNat_natCast, Nat.zero_add, Nat.add_zero] at *; done) | (simp_all; done)
    have gg9 : (decide (((2 : Nat) * ((rts (gB B) m).length + (1 : Nat)) + (192 : Nat)) * (32 : Nat) ≤ (281474976710656 : Nat))) = true := by clear next; have hrl := rts_len (gB B) m; (try simp only [Int.toNat_natCast, Nat.zero_add]); first | assumption | (simp (disch := omega) only [dT, dF, nltT, nltF, nleT, nleF, neqT, neqF, ieqT, ieqF, ineT, ineF, notT, notF, andT, andF, orT, orF, wr64s, Int.toNat_natCast, Nat.zero_add, Nat.add_zero] at *; omega) | (simp (disch := omega) only [dT, dF, nltT, nltF, nleT, nleF, neqT, neqF, ieqT, ieqF, ineT, ineF, notT, notF, andT, andF, orT, orF, wr64s, Int.toNat_natCast, Nat.zero_add, Nat.add_zero] at *; done) | (simp_all; done)
    refine runs_more baseG (More.of (paN_p1 n B m) ⟨(okc gg0 (okc gg1 (okc gg2 (okc gg2 (okc gg3 (okc gg4 (okc gg4 (okc gg5 (okc gg6 (okc gg6 (okc gg3 (okc gg4 (okc gg4 (okc gg7 (okc gg8 (okc gg9 okn)))))))))))))))), rfl, ?_⟩) (by kernel_rfl) (by kernel_rfl) rfl (gtL (by decide)) (by decide) next
    clear next
    have b0 := hB (3 * m) (by omega)
    have b1 := hB (3 * m + 1) (by omega)
    have b2' := hB (3 * m + 2) (by omega)
    have n0 : (((3 * m : Nat)) : Int).toNat = 3 * m := Int.toNat_natCast _
    have w1 : (IntKind.i64.wrap (((3 * m : Nat) : Int) + 1)).toNat = 3 * m + 1 := by rw [wr64 (by omega)]; omega
    have w2 : (IntKind.i64.wrap (((3 * m : Nat) : Int) + 2)).toNat = 3 * m + 2 := by rw [wr64 (by omega)]; omega
    have w3 : IntKind.i64.wrap (((3 * m : Nat) : Int) + 3) = ((3 * (m + 1) : Nat) : Int) := by rw [wr64 (by omega)]; omega
    have v0 : IntKind.i64.wrap (B [3 * m]) = B [3 * m] := wr64 (by omega)
    have v1 : IntKind.i64.wrap (B [3 * m + 1] % 4) = B [3 * m + 1] % 4 := wr64 (by omega)
    have v2 : IntKind.i64.wrap (B [3 * m + 2]) = B [3 * m + 2] := wr64 (by omega)
    simp only [n0, w1, w2, w3, Nat.zero_add, and3 b1, and128 b1, v0, v1, v2] at gg7 ⊢
    first
      | (have hk : okT (trG (gB B) m) = true := gg7
         simp only [rts_yes hk, app_len]
         repeat' apply And.intro
         all_goals first | trivial | rfl | (intro p hp; first | trivial | rfl | exact cF_app hp | exact cL_app hp | exact cV_app hp | exact cA_app hp))
      | (have hk : okT (trG (gB B) m) = false := gg7
         simp only [rts_no hk]
         repeat' apply And.intro
         all_goals first | trivial | rfl | (intro p hp; first | trivial | rfl))

theorem paE__p0 (n : Nat) (B : Ix → Int) (m : Nat) :
    isEnd (evTill Tryd.prog sumsG 100 (behind Tryd.f51 0) 900 51 (headOf Tryd.f51 0) (envAt Tryd.f51.ntmps (paE n m (rts (gB B) m))) (bytE 60 n B ++ rowT 85 (rts (gB B) m)) ⟨[.s false], 90⟩) (endP ([((101 : Nat), Rn.to (85 : Nat))]) (.tup [(false, slT 101 (rts (gB B) m)), (false, .ve0)]) (rowT 101 (rts (gB B) m)) 160) =
    (OkL [(decide ((↑((3 : Nat) * m) : Int) < (↑n : Int)), false)] ∧ (((0 : Nat) = (0 : Nat) ∧ (rts (gB B) m).length = (rts (gB B) m).length) ∧ True ∧ True) ∧ (rts (gB B) m).length = (rts (gB B) m).length ∧ (∀ (i : Nat), i < (rts (gB B) m).length → cF (rts (gB B) m) [i] = cF (rts (gB B) m) [i]) ∧ ((∀ (i : Nat), i < (rts (gB B) m).length → cL (rts (gB B) m) [i] = cL (rts (gB B) m) [i]) ∧ ∀ (i : Nat), i < (rts (gB B) m).length → cV (rts (gB B) m) [i] = cV (rts (gB B) m) [i]) ∧ ∀ (i : Nat), i < (rts (gB B) m).length → cA (rts (gB B) m) [i] = cA (rts (gB B) m) [i]) := by kernel_rfl

set_option maxHeartbeats 4000000 in
theorem paE_ (n : Nat) (B : Ix → Int) (m : Nat) (he : 3 * m = n) :
    RunsTo Tryd.prog 51 (headOf Tryd.f51 0) (envAt Tryd.f51.ntmps (paE n m (rts (gB B) m))) (Sx.look (bytE 60 n B ++ rowT 85 (rts (gB B) m))) 80 (.tup [(false, slT 101 (rts (gB B) m)), (false, .ve0)]) (Sx.look (rowT 101 (rts (gB B) m))) 160 := by
  have gg0 : (decide ((↑((3 : Nat) * m) : Int) < (↑n : Int))) = false := by first | (simp (disch := omega) only [dT, dF, nltT, nltF, nleT, nleF, neqT, neqF, ieqT, ieqF, ineT, ineF, notT, notF, andT, andF, orT, orF, wr64s, Int.toNat_natCast, Nat.zero_add, Nat.add_zero] at *; omega) | (simp (disch := omega) only [dT, dF, nltT, nltF, nleT, nleF, neqT, neqF, ieqT, ieqF, ineT, ineF, notT, notF, andT, andF, orT, orF, wr64s, Int.toNat_natCast, Nat.zero_add, Nat.add_zero] at *; done) | (simp_all; done)
  refine runs_last baseG (Sx.Ends.of (paE__p0 n B m) ⟨(okc gg0 okn), ?_⟩) (by kernel_rfl) rfl (gtL (by decide)) (by decide)
  simp

theorem paBad_p0 (t : List UInt8) (n : Nat) (B : Ix → Int) :
    isEnd (evTill Tryd.prog sumsG 100 (99) 900 51 [.code (bodyOf Tryd.f51)] (envOf [byV 60 n] Tryd.f51.ntmps) ((sentEnts 16 140 [(0, t)] ++ bytE 60 n B)) ⟨[.t, .s true], 80⟩) (endP ([]) (.tup [(false, .vl0), (false, .ve 140 (.vp 16 (fun _ => 0) []))]) [] 160) =
    (OkL [((↑n : Int).tmod (3 : Int) != (0 : Int), true)] ∧ (True ∧ (0 : Nat) = (0 : Nat) ∧ True) ∧ True) := by kernel_rfl

set_option maxHeartbeats 4000000 in
theorem paBad (t : List UInt8) (n : Nat) (B : Ix → Int) (h3 : n % 3 ≠ 0) :
    RunsTo Tryd.prog 51 [.code (bodyOf Tryd.f51)] (envOf [byV 60 n] Tryd.f51.ntmps) (Sx.look (sentEnts 16 140 [(0, t)] ++ bytE 60 n B)) 80 (.tup [(false, .vl0), (false, .ve 140 (.vp 16 (fun _ => 0) []))]) (Sx.look []) 160 := by
  have gg0 : ((↑n : Int).tmod (3 : Int) != (0 : Int)) = true := by (simp only [dT, dF, nltT, nltF, nleT, nleF, neqT, neqF, ieqT, ieqF, ineT, ineF, notT, notF, andT, andF, orT, orF, Int.tmod_eq_emod_of_nonneg (Int.natCast_nonneg n)]; omega)
  refine runs_last baseG (Sx.Ends.of (paBad_p0 t n B) ⟨(okc gg0 okn), ?_⟩) (by kernel_rfl) rfl (gtL (by decide)) (by decide)
  simp

theorem paL (n : Nat) (B : Ix → Int) (hN : n ≤ 300) (hB : ∀ i, i < n → 0 ≤ B [i] ∧ B [i] < 256) (q : Nat) (hq : 3 * q = n) : ∀ (k m : Nat), m + k = q → RunsTo Tryd.prog 51 (headOf Tryd.f51 0) (envAt Tryd.f51.ntmps (paE n m (rts (gB B) m))) (Sx.look (bytE 60 n B ++ rowT 85 (rts (gB B) m))) 80 (.tup [(false, slT 101 (rts (gB B) q)), (false, .ve0)]) (Sx.look (rowT 101 (rts (gB B) q))) 160 := by
  intro k
  induction k with
  | zero =>
    intro m hm
    obtain rfl : m = q := by omega
    exact paE_ n B m (by omega)
  | succ k ih => intro m hm; exact paN n B m (by omega) hN hB _ _ (ih (m + 1) (by omega))
theorem parse_ok (n : Nat) (B : Ix → Int) (hN : n ≤ 300) (hB : ∀ i, i < n → 0 ≤ B [i] ∧ B [i] < 256) (h3 : n % 3 = 0) : RunsTo Tryd.prog 51 [.code (bodyOf Tryd.f51)] (envOf [byV 60 n] Tryd.f51.ntmps) (Sx.look (bytE 60 n B ++ [])) 80 (.tup [(false, slT 101 (rts (gB B) (n / 3))), (false, .ve0)]) (Sx.look (rowT 101 (rts (gB B) (n / 3)))) 160 :=
  pa0 n B h3 _ _ (paL n B hN hB (n / 3) (by omega) (n / 3) 0 (by omega))

end Go.Proofs.YtdmkdmaofgjelaaDoor
