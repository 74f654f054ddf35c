/- Words: the document's quoted pieces. -/
import Derived.Test.YtaleenklamognaaDoorPaC
import Derived.Test.YtaleenklamognaaDoorPcC
import Derived.Test.YtaleenklamognaaDoorPbC
set_option linter.unusedSimpArgs false
set_option linter.unusedVariables false
set_option maxRecDepth 100000
namespace Go.Proofs.YtaleenklamognaaDoor
open Go.Sx

open WordR
theorem slc1 (s : List UInt8) {a : Nat} (h : a < s.length) : (s.take (a + 1)).drop a = [s.getD a 0] := by
  rw [List.drop_take, show a + 1 - a = 1 by omega, drop_at s h]; rfl
theorem hx_all : ((List.range 16).all fun n => decide ((hexS.take (n + 1)).drop n = [hexS.getD n 0])) = true := by kernel_rfl
theorem hx_at {n : Nat} (h : n < 16) : (hexS.take (n + 1)).drop n = [hexS.getD n 0] := of_decide_eq_true (List.all_eq_true.1 hx_all n (List.mem_range.2 h))
def sumsQG : List (FuncId × Summ) := [(53, lrP.summ 46), (55, frP.summ 46)]
theorem baseQG : Base0 Tryd.prog sumsQG := ((baseO.cons Tryd.func55 (by kernel_rfl) (PC.summ_ok frP_pc gtopG)).cons Tryd.func53 (by kernel_rfl) (PC.summ_ok lrP_pc gtopG))

variable (M : Nat) (V : Ix → List UInt8) (b : List UInt8) (i k n : Nat) (o : List UInt8)
abbrev qd1 := (↑(b.getD (k : Int).toNat (0 : UInt8)).toNat : Int)
abbrev qd44 := (qd1 b k).tdiv (16 : Int)
abbrev qd27 := List.take (IntKind.u8.wrap (IntKind.u8.wrap (qd44 b k) + 1)).toNat [(48 : UInt8), (49 : UInt8), (50 : UInt8), (51 : UInt8), (52 : UInt8), (53 : UInt8), (54 : UInt8), (55 : UInt8), (56 : UInt8), (57 : UInt8), (97 : UInt8), (98 : UInt8), (99 : UInt8), (100 : UInt8), (101 : UInt8), (102 : UInt8)]
abbrev qd36 := List.take (IntKind.u8.wrap ((qd1 b k).tmod (16 : Int) + 1)).toNat [(48 : UInt8), (49 : UInt8), (50 : UInt8), (51 : UInt8), (52 : UInt8), (53 : UInt8), (54 : UInt8), (55 : UInt8), (56 : UInt8), (57 : UInt8), (97 : UInt8), (98 : UInt8), (99 : UInt8), (100 : UInt8), (101 : UInt8), (102 : UInt8)]
abbrev qd2 := [(92 : UInt8), (120 : UInt8)] ++ List.drop (IntKind.u8.wrap (qd44 b k)).toNat (qd27 b k) ++ List.drop ((qd1 b k).tmod (16 : Int)).toNat (qd36 b k)
abbrev qd3 := (decide (([(92 : UInt8), (120 : UInt8)] ++ List.drop (IntKind.u8.wrap (qd44 b k)).toNat (qd27 b k)).length + (List.drop ((qd1 b k).tmod (16 : Int)).toNat (qd36 b k)).length ≤ (9223372036854775807 : Nat)), true)
abbrev qd41 := 0 = 0 ∧ n = n
abbrev qd52 := (k : Int) + 1
abbrev qd42 := List.take (IntKind.i64.wrap (qd52 k)).toNat b
abbrev qd49 := (↑(k + (1 : Nat)) : Int)
abbrev qd50 := ([] : List UInt8)
abbrev qd4 := ((qd41 n) ∧ o ++ [(92 : UInt8), b.getD k (0 : UInt8)] = o ++ ([(92 : UInt8)] ++ List.drop (k : Int).toNat (qd42 b k)) ∧ (i : Int) = (i : Int) ∧ 0 = 0 ∧ (qd49 k) = IntKind.i64.wrap (qd52 k) ∧ (qd41 n) ∧ (n : Int) = (n : Int) ∧ (i : Int) = (i : Int)) ∧ qd50 = [] ∧ b = b
abbrev qd5 := ((qd41 n) ∧ o ++ [(92 : UInt8), (120 : UInt8), hexS.getD ((↑(b.getD k (0 : UInt8)).toNat : Int) / (16 : Int)).toNat (0 : UInt8), hexS.getD ((↑(b.getD k (0 : UInt8)).toNat : Int) % (16 : Int)).toNat (0 : UInt8)] = o ++ (qd2 b k) ∧ (i : Int) = (i : Int) ∧ 0 = 0 ∧ (qd49 k) = IntKind.i64.wrap (qd52 k) ∧ (qd41 n) ∧ (n : Int) = (n : Int) ∧ (i : Int) = (i : Int)) ∧ qd50 = [] ∧ b = b
abbrev qd6 := (decide (2 + (List.drop (IntKind.u8.wrap (qd44 b k)).toNat (qd27 b k)).length ≤ (9223372036854775807 : Nat)), true)
abbrev qd7 := (decide (0 ≤ (k : Int) ∧ (k : Int) < (↑b.length : Int)), true)
abbrev qd8 := IntKind.i64.wrap ((i : Int) - 1)
abbrev qd9 := (decide (0 ≤ IntKind.i64.wrap ((i : Int) - 1) ∧ IntKind.i64.wrap ((i : Int) - 1) < (n : Int)), true)
abbrev qd10 := (decide (0 ≤ IntKind.i64.wrap (qd52 k) ∧ IntKind.i64.wrap (qd52 k) ≤ (↑b.length : Int)), true)
abbrev qd11 := (decide (o.length + ([(92 : UInt8)] ++ List.drop (k : Int).toNat (qd42 b k)).length ≤ (9223372036854775807 : Nat)), true)
abbrev qd12 := (decide ((0 : Int) ≤ 0 ∧ (0 : Int) < (↑(V [0 + (qd8 i).toNat]).length : Int)), true)
abbrev qd13 := (decide (0 ≤ IntKind.u8.wrap (IntKind.u8.wrap (qd44 b k) + 1) ∧ IntKind.u8.wrap (IntKind.u8.wrap (qd44 b k) + 1) ≤ (↑(16 : Nat) : Int)), true)
abbrev qd14 := (decide (0 ≤ IntKind.u8.wrap (qd44 b k) ∧ IntKind.u8.wrap (qd44 b k) ≤ IntKind.u8.wrap (IntKind.u8.wrap (qd44 b k) + 1)), true)
abbrev qd15 := (decide (1 + (List.drop (k : Int).toNat (qd42 b k)).length ≤ (9223372036854775807 : Nat)), true)
abbrev qd16 := (decide ((k : Int) < (↑b.length : Int)), true)
abbrev qd17 := ((qd41 n) ∧ o ++ [b.getD k (0 : UInt8)] = o ++ List.drop (k : Int).toNat (qd42 b k) ∧ (i : Int) = (i : Int) ∧ 0 = 0 ∧ (qd49 k) = IntKind.i64.wrap (qd52 k) ∧ (qd41 n) ∧ (n : Int) = (n : Int) ∧ (i : Int) = (i : Int)) ∧ qd50 = [] ∧ b = b
abbrev qd18 := (decide (0 ≤ IntKind.u8.wrap ((qd1 b k).tmod (16 : Int) + 1) ∧ IntKind.u8.wrap ((qd1 b k).tmod (16 : Int) + 1) ≤ (↑(16 : Nat) : Int)), true)
abbrev qd19 := (decide (0 ≤ (k : Int) ∧ (k : Int) ≤ IntKind.i64.wrap (qd52 k)), true)
abbrev qd20 := (↑((V [0 + (qd8 i).toNat]).getD (0 : Nat) (0 : UInt8)).toNat : Int)
abbrev qd21 := (decide (0 ≤ (qd1 b k).tmod (16 : Int) ∧ (qd1 b k).tmod (16 : Int) ≤ IntKind.u8.wrap ((qd1 b k).tmod (16 : Int) + 1)), true)
abbrev qd22 := ((0 + (qd8 i).toNat).blt M, true)
abbrev qd23 := ((qd41 n) ∧ o ++ [(92 : UInt8), (110 : UInt8)] = o ++ [(92 : UInt8), (110 : UInt8)] ∧ (i : Int) = (i : Int) ∧ 0 = 0 ∧ (qd49 k) = IntKind.i64.wrap (qd52 k) ∧ (qd41 n) ∧ (n : Int) = (n : Int) ∧ (i : Int) = (i : Int)) ∧ qd50 = [] ∧ b = b
abbrev qd24 := ((qd41 n) ∧ o ++ [(92 : UInt8), (114 : UInt8)] = o ++ [(92 : UInt8), (114 : UInt8)] ∧ (i : Int) = (i : Int) ∧ 0 = 0 ∧ (qd49 k) = IntKind.i64.wrap (qd52 k) ∧ (qd41 n) ∧ (n : Int) = (n : Int) ∧ (i : Int) = (i : Int)) ∧ qd50 = [] ∧ b = b
abbrev qd25 := ((qd41 n) ∧ o ++ [(92 : UInt8), (116 : UInt8)] = o ++ [(92 : UInt8), (116 : UInt8)] ∧ (i : Int) = (i : Int) ∧ 0 = 0 ∧ (qd49 k) = IntKind.i64.wrap (qd52 k) ∧ (qd41 n) ∧ (n : Int) = (n : Int) ∧ (i : Int) = (i : Int)) ∧ qd50 = [] ∧ b = b
abbrev qd26 := (decide (o.length + (2 : Nat) ≤ (9223372036854775807 : Nat)), true)
abbrev qd28 := (decide (o.length + (qd2 b k).length ≤ (9223372036854775807 : Nat)), true)
abbrev qd29 := (decide (o.length + (List.drop (k : Int).toNat (qd42 b k)).length ≤ (9223372036854775807 : Nat)), true)
abbrev qd30 := ((qd1 b k) == 10, false)
abbrev qd31 := (decide ((i : Int) > 0), true)
abbrev qd32 := ((k : Int) == 0, true)
abbrev qd33 := ((qd1 b k) == 13, false)
abbrev qd34 := ((qd1 b k) == 9, false)
abbrev qd35 := ((qd1 b k) == 34, false)
abbrev qd37 := ((qd1 b k) == 36, false)
abbrev qd38 := (decide ((qd1 b k) ≥ 32), true)
abbrev qd39 := (decide ((i : Int) > 0), false)
abbrev qd40 := ((qd1 b k) == 92, false)
abbrev qd43 := ((k : Int) == 0, false)
abbrev qd45 := (decide ((qd1 b k) < 127), true)
abbrev qd46 := (ltrI (qd20 V i), true)
abbrev qd47 := (ltrI (qd20 V i), false)
abbrev qd48 := (ltrI (qd1 b k), false)
abbrev qd51 := ((0 + (i : Int).toNat).blt M, true)
set_option maxHeartbeats 4000000 in
theorem g0 (n M : Nat) (V L : Ix → List UInt8) (hM : n ≤ M) (hn : n ≤ 100)  (v : SV) (L' : HF) (next : RunsTo Tryd.prog 23 (headOf Tryd.f23 0) (envAt Tryd.f23.ntmps ([(0, vL 61 2 n), (3, vS ([34])), (9, vL 61 2 n), (10, vN n), (11, vN (0 : Nat))])) (Sx.look (prX 61 M V L ++ ([]))) 80 (v) (L') 330) :
    RunsTo Tryd.prog 23 [.code (bodyOf Tryd.f23)] (envOf [vL 61 2 n] Tryd.f23.ntmps) (Sx.look (prX 61 M V L ++ ([]))) 80 (v) (L') 330 := by
  refine rMo baseQG 600 (behind Tryd.f23 0) 900 80 (hI 0 0) ([]) [] (((qd41 n) ∧ [(34 : UInt8)] = [(34 : UInt8)] ∧ (qd41 n) ∧ (n : Int) = (n : Int) ∧ (↑(0 : Nat) : Int) = (0 : Int)) ∧ True) next okn ?_
  all_goals clear next; try dsimp only [qd41]
  all_goals exact sc47

set_option maxHeartbeats 4000000 in
theorem gV (n M : Nat) (V L : Ix → List UInt8) (o : List UInt8) (i : Nat) (hi : i < n) (hM : n ≤ M) (hn : n ≤ 100) (ho : o.length ≤ 900000) (hvl : (V [i]).length ≤ 1000) (h : 0 < (V [i]).length)  (v : SV) (L' : HF) (next : RunsTo Tryd.prog 23 (headOf Tryd.f23 0) (envAt Tryd.f23.ntmps ([(0, vL 61 2 n), (3, vS (o ++ (36 :: V [i]))), (9, vL 61 2 n), (10, vN n), (11, vN (i + 1 : Nat))])) (Sx.look (prX 61 M V L ++ ([]))) 80 (v) (L') 330) :
    RunsTo Tryd.prog 23 (headOf Tryd.f23 0) (envAt Tryd.f23.ntmps ([(0, vL 61 2 n), (3, vS (o)), (9, vL 61 2 n), (10, vN n), (11, vN (i : Nat))])) (Sx.look (prX 61 M V L ++ ([]))) 80 (v) (L') 330 := by
  have hw : IntKind.i64.wrap ((i : Int) + 1) = ((i + 1 : Nat) : Int) := by rw [wr64 (by omega)]; rfl
  have E' := hw
  refine rMo baseQG 600 (behind Tryd.f23 0) 900 120 (hI 7 5461) ([]) [(decide ((i : Int) < (n : Int)), true), (decide (0 ≤ (i : Int) ∧ (i : Int) < (n : Int)), true), (qd51 M i), (qd51 M i), (decide ((↑(V [0 + (i : Int).toNat]).length : Int) > 0), true), (decide (1 + (V [0 + (i : Int).toNat]).length ≤ (9223372036854775807 : Nat)), true), (decide (o.length + ([(36 : UInt8)] ++ V [0 + (i : Int).toNat]).length ≤ (9223372036854775807 : Nat)), true)] (((qd41 n) ∧ o ++ (36 : UInt8) :: V [i] = o ++ ([(36 : UInt8)] ++ V [0 + (i : Int).toNat]) ∧ (qd41 n) ∧ (n : Int) = (n : Int) ∧ (↑(i + (1 : Nat)) : Int) = IntKind.i64.wrap ((i : Int) + 1)) ∧ True) next (oc7 ?_ ?_ ?_ ?_ ?_ ?_ ?_ okn) ?_
  all_goals clear next; try dsimp only [qd51, qd41]
  all_goals exact sc41

set_option maxHeartbeats 4000000 in
theorem gL (n M : Nat) (V L : Ix → List UInt8) (b o : List UInt8) (i : Nat) (hi : i < n) (hM : n ≤ M) (hn : n ≤ 100) (h : V [i] = []) (hB : L [i] = b)  (v : SV) (L' : HF) (next : RunsTo Tryd.prog 23 (headOf Tryd.f23 1) (envAt Tryd.f23.ntmps ([(0, vL 61 2 n), (3, vS (o)), (4, vN (i : Nat)), (5, vP 101), (6, vN (0 : Nat)), (9, vL 61 2 n), (10, vN n), (11, vN (i : Nat))])) (Sx.look (prX 61 M V L ++ ([⟨101, true, none, 2, .tc (.vs fun _ => []) (.tc (.vs fun _ => b) .t0)⟩]))) 80 (v) (L') 330) :
    RunsTo Tryd.prog 23 (headOf Tryd.f23 0) (envAt Tryd.f23.ntmps ([(0, vL 61 2 n), (3, vS (o)), (9, vL 61 2 n), (10, vN n), (11, vN (i : Nat))])) (Sx.look (prX 61 M V L ++ ([]))) 80 (v) (L') 330 := by
  have hw : IntKind.i64.wrap ((i : Int) + 1) = ((i + 1 : Nat) : Int) := by rw [wr64 (by omega)]; rfl
  have E' := (⟨hw, h, hB⟩ : _ ∧ _ ∧ _)
  refine rMo baseQG 600 (behind Tryd.f23 1) 900 120 (hI 5 85) ([((101 : Nat), Rn.to (120 : Nat))]) [(decide ((i : Int) < (n : Int)), true), (decide (0 ≤ (i : Int) ∧ (i : Int) < (n : Int)), true), (qd51 M i), (qd51 M i), (decide ((↑(V [0 + (i : Int).toNat]).length : Int) > 0), false)] (((qd41 n) ∧ o = o ∧ (i : Int) = (i : Int) ∧ 0 = 0 ∧ (↑(0 : Nat) : Int) = (0 : Int) ∧ (qd41 n) ∧ (n : Int) = (n : Int) ∧ (i : Int) = (i : Int)) ∧ [] = V [0 + (i : Int).toNat] ∧ b = L [0 + (i : Int).toNat]) next (oc5 ?_ ?_ ?_ ?_ ?_ okn) ?_
  all_goals clear next; try dsimp only [qd51, qd41]
  all_goals exact sc41

set_option maxHeartbeats 4000000 in
theorem gN (n M : Nat) (V L : Ix → List UInt8) (b o : List UInt8) (i k : Nat) (hi : i < n) (hM : n ≤ M) (hn : n ≤ 100) (hk : k < b.length) (hbl : b.length ≤ 1000) (ho : o.length ≤ 900000) (hv : 0 < i → 0 < (V [i - 1]).length) (h : ((b.getD k 0).toNat : Int) = 10)  (v : SV) (L' : HF) (next : RunsTo Tryd.prog 23 (headOf Tryd.f23 1) (envAt Tryd.f23.ntmps ([(0, vL 61 2 n), (3, vS (o ++ [92, 110])), (4, vN (i : Nat)), (5, vP 101), (6, vN (k + 1 : Nat)), (9, vL 61 2 n), (10, vN n), (11, vN (i : Nat))])) (Sx.look (prX 61 M V L ++ ([⟨101, true, none, 2, .tc (.vs fun _ => []) (.tc (.vs fun _ => b) .t0)⟩]))) 80 (v) (L') 330) :
    RunsTo Tryd.prog 23 (headOf Tryd.f23 1) (envAt Tryd.f23.ntmps ([(0, vL 61 2 n), (3, vS (o)), (4, vN (i : Nat)), (5, vP 101), (6, vN (k : Nat)), (9, vL 61 2 n), (10, vN n), (11, vN (i : Nat))])) (Sx.look (prX 61 M V L ++ ([⟨101, true, none, 2, .tc (.vs fun _ => []) (.tc (.vs fun _ => b) .t0)⟩]))) 80 (v) (L') 330 := by
  have hw : IntKind.i64.wrap ((k : Int) + 1) = ((k + 1 : Nat) : Int) := by rw [wr64 (by omega)]; rfl
  have hji : 0 < i → IntKind.i64.wrap ((i : Int) - 1) = ((i - 1 : Nat) : Int) := fun h => by rw [wr64 (by omega)]; omega
  have hu := u8nat (b.getD k 0)
  have hu2 := u8nat ((V [i - 1]).getD 0 0)
  have hsl := slc1 b hk
  have hg0 : goI 10 = false := by decide
  have hl0 : ltrI 10 = false := by decide
  have hf0 : figI 10 = false := by decide
  have E' := (⟨hw, hji, hsl, h⟩ : _ ∧ _ ∧ _ ∧ _)
  refine bcase (fun gg0 => (rMo baseQG 600 (behind Tryd.f23 1) 900 120 (hI 5 325) ([]) [(qd16 b k), (qd7 b k), (qd43 k), ((qd1 b k) == 10, true), (qd26 o)] (qd23 b i k n o) next (oc5 ?_ ?_ gg0 ?_ ?_ okn) ?_)) fun gg0 => (bcase (fun gg1 => (rMo baseQG 600 (behind Tryd.f23 1) 900 120 (hI 6 1301) ([]) [(qd16 b k), (qd7 b k), (qd32 k), (qd39 i), ((qd1 b k) == 10, true), (qd26 o)] (qd23 b i k n o) next (oc6 ?_ ?_ gg0 gg1 ?_ ?_ okn) ?_)) fun gg1 => (bcase (fun gg2 => (rMo baseQG 600 (behind Tryd.f23 1) 900 120 (hI 12 5461333) ([]) [(qd16 b k), (qd7 b k), (qd32 k), (qd31 i), (qd9 i n), (qd22 M i), (qd22 M i), (qd12 V i), (qd47 V i), ((qd1 b k) == 10, true), (qd26 o)] (qd23 b i k n o) next (oc2 ?_ ?_ (oc9 gg0 gg1 ?_ ?_ ?_ ?_ gg2 ?_ ?_ okn)) ?_)) fun gg2 => (rMo baseQG 600 (behind Tryd.f23 1) 900 120 (hI 15 389502293) ([]) [(qd16 b k), (qd7 b k), (qd32 k), (qd31 i), (qd9 i n), (qd22 M i), (qd22 M i), (qd12 V i), (qd46 V i), (qd48 b k), ((qd1 b k) == 10, true), (qd26 o)] (qd23 b i k n o) next (oc3 ?_ ?_ gg0 (oc9 gg1 ?_ ?_ ?_ ?_ gg2 ?_ ?_ ?_ okn)) ?_)))
  all_goals clear next; try dsimp only [qd16, qd7, qd43, qd1, qd26, qd23, qd41, qd49, qd52, qd50, qd32, qd39, qd31, qd9, qd22, qd8, qd12, qd47, qd20, qd46, qd48] at *
  all_goals exact sc48

set_option maxHeartbeats 4000000 in
theorem gR (n M : Nat) (V L : Ix → List UInt8) (b o : List UInt8) (i k : Nat) (hi : i < n) (hM : n ≤ M) (hn : n ≤ 100) (hk : k < b.length) (hbl : b.length ≤ 1000) (ho : o.length ≤ 900000) (hv : 0 < i → 0 < (V [i - 1]).length) (h : ((b.getD k 0).toNat : Int) = 13)  (v : SV) (L' : HF) (next : RunsTo Tryd.prog 23 (headOf Tryd.f23 1) (envAt Tryd.f23.ntmps ([(0, vL 61 2 n), (3, vS (o ++ [92, 114])), (4, vN (i : Nat)), (5, vP 101), (6, vN (k + 1 : Nat)), (9, vL 61 2 n), (10, vN n), (11, vN (i : Nat))])) (Sx.look (prX 61 M V L ++ ([⟨101, true, none, 2, .tc (.vs fun _ => []) (.tc (.vs fun _ => b) .t0)⟩]))) 80 (v) (L') 330) :
    RunsTo Tryd.prog 23 (headOf Tryd.f23 1) (envAt Tryd.f23.ntmps ([(0, vL 61 2 n), (3, vS (o)), (4, vN (i : Nat)), (5, vP 101), (6, vN (k : Nat)), (9, vL 61 2 n), (10, vN n), (11, vN (i : Nat))])) (Sx.look (prX 61 M V L ++ ([⟨101, true, none, 2, .tc (.vs fun _ => []) (.tc (.vs fun _ => b) .t0)⟩]))) 80 (v) (L') 330 := by
  have hw : IntKind.i64.wrap ((k : Int) + 1) = ((k + 1 : Nat) : Int) := by rw [wr64 (by omega)]; rfl
  have hji : 0 < i → IntKind.i64.wrap ((i : Int) - 1) = ((i - 1 : Nat) : Int) := fun h => by rw [wr64 (by omega)]; omega
  have hu := u8nat (b.getD k 0)
  have hu2 := u8nat ((V [i - 1]).getD 0 0)
  have hsl := slc1 b hk
  have hg0 : goI 13 = false := by decide
  have hl0 : ltrI 13 = false := by decide
  have hf0 : figI 13 = false := by decide
  have E' := (⟨hw, hji, hsl, h⟩ : _ ∧ _ ∧ _ ∧ _)
  refine bcase (fun gg0 => (rMo baseQG 600 (behind Tryd.f23 1) 900 120 (hI 6 1285) ([]) [(qd16 b k), (qd7 b k), (qd43 k), (qd30 b k), ((qd1 b k) == 13, true), (qd26 o)] (qd24 b i k n o) next (oc6 ?_ ?_ gg0 ?_ ?_ ?_ okn) ?_)) fun gg0 => (bcase (fun gg1 => (rMo baseQG 600 (behind Tryd.f23 1) 900 120 (hI 7 5141) ([]) [(qd16 b k), (qd7 b k), (qd32 k), (qd39 i), (qd30 b k), ((qd1 b k) == 13, true), (qd26 o)] (qd24 b i k n o) next (oc7 ?_ ?_ gg0 gg1 ?_ ?_ ?_ okn) ?_)) fun gg1 => (bcase (fun gg2 => (rMo baseQG 600 (behind Tryd.f23 1) 900 120 (hI 13 21189973) ([]) [(qd16 b k), (qd7 b k), (qd32 k), (qd31 i), (qd9 i n), (qd22 M i), (qd22 M i), (qd12 V i), (qd47 V i), (qd30 b k), ((qd1 b k) == 13, true), (qd26 o)] (qd24 b i k n o) next (oc3 ?_ ?_ gg0 (oc9 gg1 ?_ ?_ ?_ ?_ gg2 ?_ ?_ ?_ okn)) ?_)) fun gg2 => (rMo baseQG 600 (behind Tryd.f23 1) 900 120 (hI 16 1396135253) ([]) [(qd16 b k), (qd7 b k), (qd32 k), (qd31 i), (qd9 i n), (qd22 M i), (qd22 M i), (qd12 V i), (qd46 V i), (qd48 b k), (qd30 b k), ((qd1 b k) == 13, true), (qd26 o)] (qd24 b i k n o) next (oc4 ?_ ?_ gg0 gg1 (oc9 ?_ ?_ ?_ ?_ gg2 ?_ ?_ ?_ ?_ okn)) ?_)))
  all_goals clear next; try dsimp only [qd16, qd7, qd43, qd30, qd1, qd26, qd24, qd41, qd49, qd52, qd50, qd32, qd39, qd31, qd9, qd22, qd8, qd12, qd47, qd20, qd46, qd48] at *
  all_goals exact sc48

set_option maxHeartbeats 4000000 in
theorem gT (n M : Nat) (V L : Ix → List UInt8) (b o : List UInt8) (i k : Nat) (hi : i < n) (hM : n ≤ M) (hn : n ≤ 100) (hk : k < b.length) (hbl : b.length ≤ 1000) (ho : o.length ≤ 900000) (hv : 0 < i → 0 < (V [i - 1]).length) (h : ((b.getD k 0).toNat : Int) = 9)  (v : SV) (L' : HF) (next : RunsTo Tryd.prog 23 (headOf Tryd.f23 1) (envAt Tryd.f23.ntmps ([(0, vL 61 2 n), (3, vS (o ++ [92, 116])), (4, vN (i : Nat)), (5, vP 101), (6, vN (k + 1 : Nat)), (9, vL 61 2 n), (10, vN n), (11, vN (i : Nat))])) (Sx.look (prX 61 M V L ++ ([⟨101, true, none, 2, .tc (.vs fun _ => []) (.tc (.vs fun _ => b) .t0)⟩]))) 80 (v) (L') 330) :
    RunsTo Tryd.prog 23 (headOf Tryd.f23 1) (envAt Tryd.f23.ntmps ([(0, vL 61 2 n), (3, vS (o)), (4, vN (i : Nat)), (5, vP 101), (6, vN (k : Nat)), (9, vL 61 2 n), (10, vN n), (11, vN (i : Nat))])) (Sx.look (prX 61 M V L ++ ([⟨101, true, none, 2, .tc (.vs fun _ => []) (.tc (.vs fun _ => b) .t0)⟩]))) 80 (v) (L') 330 := by
  have hw : IntKind.i64.wrap ((k : Int) + 1) = ((k + 1 : Nat) : Int) := by rw [wr64 (by omega)]; rfl
  have hji : 0 < i → IntKind.i64.wrap ((i : Int) - 1) = ((i - 1 : Nat) : Int) := fun h => by rw [wr64 (by omega)]; omega
  have hu := u8nat (b.getD k 0)
  have hu2 := u8nat ((V [i - 1]).getD 0 0)
  have hsl := slc1 b hk
  have hg0 : goI 9 = false := by decide
  have hl0 : ltrI 9 = false := by decide
  have hf0 : figI 9 = false := by decide
  have E' := (⟨hw, hji, hsl, h⟩ : _ ∧ _ ∧ _ ∧ _)
  refine bcase (fun gg0 => (rMo baseQG 600 (behind Tryd.f23 1) 900 120 (hI 7 5125) ([]) [(qd16 b k), (qd7 b k), (qd43 k), (qd30 b k), (qd33 b k), ((qd1 b k) == 9, true), (qd26 o)] (qd25 b i k n o) next (oc7 ?_ ?_ gg0 ?_ ?_ ?_ ?_ okn) ?_)) fun gg0 => (bcase (fun gg1 => (rMo baseQG 600 (behind Tryd.f23 1) 900 120 (hI 8 20501) ([]) [(qd16 b k), (qd7 b k), (qd32 k), (qd39 i), (qd30 b k), (qd33 b k), ((qd1 b k) == 9, true), (qd26 o)] (qd25 b i k n o) next (oc8 ?_ ?_ gg0 gg1 ?_ ?_ ?_ ?_ okn) ?_)) fun gg1 => (bcase (fun gg2 => (rMo baseQG 600 (behind Tryd.f23 1) 900 120 (hI 14 84104533) ([]) [(qd16 b k), (qd7 b k), (qd32 k), (qd31 i), (qd9 i n), (qd22 M i), (qd22 M i), (qd12 V i), (qd47 V i), (qd30 b k), (qd33 b k), ((qd1 b k) == 9, true), (qd26 o)] (qd25 b i k n o) next (oc4 ?_ ?_ gg0 gg1 (oc9 ?_ ?_ ?_ ?_ gg2 ?_ ?_ ?_ ?_ okn)) ?_)) fun gg2 => (rMo baseQG 600 (behind Tryd.f23 1) 900 120 (hI 17 5422667093) ([]) [(qd16 b k), (qd7 b k), (qd32 k), (qd31 i), (qd9 i n), (qd22 M i), (qd22 M i), (qd12 V i), (qd46 V i), (qd48 b k), (qd30 b k), (qd33 b k), ((qd1 b k) == 9, true), (qd26 o)] (qd25 b i k n o) next (oc5 ?_ ?_ gg0 gg1 ?_ (oc9 ?_ ?_ ?_ gg2 ?_ ?_ ?_ ?_ ?_ okn)) ?_)))
  all_goals clear next; try dsimp only [qd16, qd7, qd43, qd30, qd1, qd33, qd26, qd25, qd41, qd49, qd52, qd50, qd32, qd39, qd31, qd9, qd22, qd8, qd12, qd47, qd20, qd46, qd48] at *
  all_goals exact sc48

set_option maxHeartbeats 4000000 in
theorem gQ (n M : Nat) (V L : Ix → List UInt8) (b o : List UInt8) (i k : Nat) (hi : i < n) (hM : n ≤ M) (hn : n ≤ 100) (hk : k < b.length) (hbl : b.length ≤ 1000) (ho : o.length ≤ 900000) (hv : 0 < i → 0 < (V [i - 1]).length) (h : ((b.getD k 0).toNat : Int) = 34)  (v : SV) (L' : HF) (next : RunsTo Tryd.prog 23 (headOf Tryd.f23 1) (envAt Tryd.f23.ntmps ([(0, vL 61 2 n), (3, vS (o ++ [92, b.getD k 0])), (4, vN (i : Nat)), (5, vP 101), (6, vN (k + 1 : Nat)), (9, vL 61 2 n), (10, vN n), (11, vN (i : Nat))])) (Sx.look (prX 61 M V L ++ ([⟨101, true, none, 2, .tc (.vs fun _ => []) (.tc (.vs fun _ => b) .t0)⟩]))) 80 (v) (L') 330) :
    RunsTo Tryd.prog 23 (headOf Tryd.f23 1) (envAt Tryd.f23.ntmps ([(0, vL 61 2 n), (3, vS (o)), (4, vN (i : Nat)), (5, vP 101), (6, vN (k : Nat)), (9, vL 61 2 n), (10, vN n), (11, vN (i : Nat))])) (Sx.look (prX 61 M V L ++ ([⟨101, true, none, 2, .tc (.vs fun _ => []) (.tc (.vs fun _ => b) .t0)⟩]))) 80 (v) (L') 330 := by
  have hw : IntKind.i64.wrap ((k : Int) + 1) = ((k + 1 : Nat) : Int) := by rw [wr64 (by omega)]; rfl
  have hji : 0 < i → IntKind.i64.wrap ((i : Int) - 1) = ((i - 1 : Nat) : Int) := fun h => by rw [wr64 (by omega)]; omega
  have hu := u8nat (b.getD k 0)
  have hu2 := u8nat ((V [i - 1]).getD 0 0)
  have hsl := slc1 b hk
  have hl0 : ltrI 34 = false := by decide
  have hf0 : figI 34 = false := by decide
  have E' := (⟨hw, hji, hsl, h⟩ : _ ∧ _ ∧ _ ∧ _)
  refine bcase (fun gg0 => (rMo baseQG 600 (behind Tryd.f23 1) 900 120 (hI 11 1396741) ([]) [(qd16 b k), (qd7 b k), (qd43 k), (qd30 b k), (qd33 b k), (qd34 b k), ((qd1 b k) == 34, true), (qd10 b k), (qd19 k), (qd15 b k), (qd11 b k o)] (qd4 b i k n o) next (oc2 ?_ ?_ (oc9 gg0 ?_ ?_ ?_ ?_ ?_ ?_ ?_ ?_ okn)) ?_)) fun gg0 => (bcase (fun gg1 => (rMo baseQG 600 (behind Tryd.f23 1) 900 120 (hI 12 5586965) ([]) [(qd16 b k), (qd7 b k), (qd32 k), (qd39 i), (qd30 b k), (qd33 b k), (qd34 b k), ((qd1 b k) == 34, true), (qd10 b k), (qd19 k), (qd15 b k), (qd11 b k o)] (qd4 b i k n o) next (oc3 ?_ ?_ gg0 (oc9 gg1 ?_ ?_ ?_ ?_ ?_ ?_ ?_ ?_ okn)) ?_)) fun gg1 => (bcase (fun gg2 => (rMo baseQG 600 (behind Tryd.f23 1) 900 120 (hI 18 22884341077) ([]) [(qd16 b k), (qd7 b k), (qd32 k), (qd31 i), (qd9 i n), (qd22 M i), (qd22 M i), (qd12 V i), (qd47 V i), (qd30 b k), (qd33 b k), (qd34 b k), ((qd1 b k) == 34, true), (qd10 b k), (qd19 k), (qd15 b k), (qd11 b k o)] (qd4 b i k n o) next (oc8 ?_ ?_ gg0 gg1 ?_ ?_ ?_ ?_ (oc9 gg2 ?_ ?_ ?_ ?_ ?_ ?_ ?_ ?_ okn)) ?_)) fun gg2 => (rMo baseQG 600 (behind Tryd.f23 1) 900 120 (hI 21 1464637805909) ([]) [(qd16 b k), (qd7 b k), (qd32 k), (qd31 i), (qd9 i n), (qd22 M i), (qd22 M i), (qd12 V i), (qd46 V i), (qd48 b k), (qd30 b k), (qd33 b k), (qd34 b k), ((qd1 b k) == 34, true), (qd10 b k), (qd19 k), (qd15 b k), (qd11 b k o)] (qd4 b i k n o) next (oc9 ?_ ?_ gg0 gg1 ?_ ?_ ?_ ?_ gg2 (oc9 ?_ ?_ ?_ ?_ ?_ ?_ ?_ ?_ ?_ okn)) ?_)))
  all_goals clear next; try dsimp only [qd16, qd7, qd43, qd30, qd1, qd33, qd34, qd10, qd52, qd19, qd15, qd42, qd11, qd4, qd41, qd49, qd50, qd32, qd39, qd31, qd9, qd22, qd8, qd12, qd47, qd20, qd46, qd48] at *
  all_goals exact sc48

set_option maxHeartbeats 4000000 in
theorem gD (n M : Nat) (V L : Ix → List UInt8) (b o : List UInt8) (i k : Nat) (hi : i < n) (hM : n ≤ M) (hn : n ≤ 100) (hk : k < b.length) (hbl : b.length ≤ 1000) (ho : o.length ≤ 900000) (hv : 0 < i → 0 < (V [i - 1]).length) (h : ((b.getD k 0).toNat : Int) = 36)  (v : SV) (L' : HF) (next : RunsTo Tryd.prog 23 (headOf Tryd.f23 1) (envAt Tryd.f23.ntmps ([(0, vL 61 2 n), (3, vS (o ++ [92, b.getD k 0])), (4, vN (i : Nat)), (5, vP 101), (6, vN (k + 1 : Nat)), (9, vL 61 2 n), (10, vN n), (11, vN (i : Nat))])) (Sx.look (prX 61 M V L ++ ([⟨101, true, none, 2, .tc (.vs fun _ => []) (.tc (.vs fun _ => b) .t0)⟩]))) 80 (v) (L') 330) :
    RunsTo Tryd.prog 23 (headOf Tryd.f23 1) (envAt Tryd.f23.ntmps ([(0, vL 61 2 n), (3, vS (o)), (4, vN (i : Nat)), (5, vP 101), (6, vN (k : Nat)), (9, vL 61 2 n), (10, vN n), (11, vN (i : Nat))])) (Sx.look (prX 61 M V L ++ ([⟨101, true, none, 2, .tc (.vs fun _ => []) (.tc (.vs fun _ => b) .t0)⟩]))) 80 (v) (L') 330 := by
  have hw : IntKind.i64.wrap ((k : Int) + 1) = ((k + 1 : Nat) : Int) := by rw [wr64 (by omega)]; rfl
  have hji : 0 < i → IntKind.i64.wrap ((i : Int) - 1) = ((i - 1 : Nat) : Int) := fun h => by rw [wr64 (by omega)]; omega
  have hu := u8nat (b.getD k 0)
  have hu2 := u8nat ((V [i - 1]).getD 0 0)
  have hsl := slc1 b hk
  have hl0 : ltrI 36 = false := by decide
  have hf0 : figI 36 = false := by decide
  have E' := (⟨hw, hji, hsl, h⟩ : _ ∧ _ ∧ _ ∧ _)
  refine bcase (fun gg0 => (rMo baseQG 600 (behind Tryd.f23 1) 900 120 (hI 12 5586949) ([]) [(qd16 b k), (qd7 b k), (qd43 k), (qd30 b k), (qd33 b k), (qd34 b k), (qd35 b k), ((qd1 b k) == 36, true), (qd10 b k), (qd19 k), (qd15 b k), (qd11 b k o)] (qd4 b i k n o) next (oc3 ?_ ?_ gg0 (oc9 ?_ ?_ ?_ ?_ ?_ ?_ ?_ ?_ ?_ okn)) ?_)) fun gg0 => (bcase (fun gg1 => (rMo baseQG 600 (behind Tryd.f23 1) 900 120 (hI 13 22347797) ([]) [(qd16 b k), (qd7 b k), (qd32 k), (qd39 i), (qd30 b k), (qd33 b k), (qd34 b k), (qd35 b k), ((qd1 b k) == 36, true), (qd10 b k), (qd19 k), (qd15 b k), (qd11 b k o)] (qd4 b i k n o) next (oc4 ?_ ?_ gg0 gg1 (oc9 ?_ ?_ ?_ ?_ ?_ ?_ ?_ ?_ ?_ okn)) ?_)) fun gg1 => (bcase (fun gg2 => (rMo baseQG 600 (behind Tryd.f23 1) 900 120 (hI 19 91536708949) ([]) [(qd16 b k), (qd7 b k), (qd32 k), (qd31 i), (qd9 i n), (qd22 M i), (qd22 M i), (qd12 V i), (qd47 V i), (qd30 b k), (qd33 b k), (qd34 b k), (qd35 b k), ((qd1 b k) == 36, true), (qd10 b k), (qd19 k), (qd15 b k), (qd11 b k o)] (qd4 b i k n o) next (oc9 ?_ ?_ gg0 gg1 ?_ ?_ ?_ ?_ gg2 (oc9 ?_ ?_ ?_ ?_ ?_ ?_ ?_ ?_ ?_ okn)) ?_)) fun gg2 => (rMo baseQG 600 (behind Tryd.f23 1) 900 120 (hI 22 5858389349717) ([]) [(qd16 b k), (qd7 b k), (qd32 k), (qd31 i), (qd9 i n), (qd22 M i), (qd22 M i), (qd12 V i), (qd46 V i), (qd48 b k), (qd30 b k), (qd33 b k), (qd34 b k), (qd35 b k), ((qd1 b k) == 36, true), (qd10 b k), (qd19 k), (qd15 b k), (qd11 b k o)] (qd4 b i k n o) next (oc1 ?_ (oc9 ?_ gg0 gg1 ?_ ?_ ?_ ?_ gg2 ?_ (oc9 ?_ ?_ ?_ ?_ ?_ ?_ ?_ ?_ ?_ okn))) ?_)))
  all_goals clear next; try dsimp only [qd16, qd7, qd43, qd30, qd1, qd33, qd34, qd35, qd10, qd52, qd19, qd15, qd42, qd11, qd4, qd41, qd49, qd50, qd32, qd39, qd31, qd9, qd22, qd8, qd12, qd47, qd20, qd46, qd48] at *
  all_goals exact sc48

set_option maxHeartbeats 4000000 in
theorem gB (n M : Nat) (V L : Ix → List UInt8) (b o : List UInt8) (i k : Nat) (hi : i < n) (hM : n ≤ M) (hn : n ≤ 100) (hk : k < b.length) (hbl : b.length ≤ 1000) (ho : o.length ≤ 900000) (hv : 0 < i → 0 < (V [i - 1]).length) (h : ((b.getD k 0).toNat : Int) = 92)  (v : SV) (L' : HF) (next : RunsTo Tryd.prog 23 (headOf Tryd.f23 1) (envAt Tryd.f23.ntmps ([(0, vL 61 2 n), (3, vS (o ++ [92, b.getD k 0])), (4, vN (i : Nat)), (5, vP 101), (6, vN (k + 1 : Nat)), (9, vL 61 2 n), (10, vN n), (11, vN (i : Nat))])) (Sx.look (prX 61 M V L ++ ([⟨101, true, none, 2, .tc (.vs fun _ => []) (.tc (.vs fun _ => b) .t0)⟩]))) 80 (v) (L') 330) :
    RunsTo Tryd.prog 23 (headOf Tryd.f23 1) (envAt Tryd.f23.ntmps ([(0, vL 61 2 n), (3, vS (o)), (4, vN (i : Nat)), (5, vP 101), (6, vN (k : Nat)), (9, vL 61 2 n), (10, vN n), (11, vN (i : Nat))])) (Sx.look (prX 61 M V L ++ ([⟨101, true, none, 2, .tc (.vs fun _ => []) (.tc (.vs fun _ => b) .t0)⟩]))) 80 (v) (L') 330 := by
  have hw : IntKind.i64.wrap ((k : Int) + 1) = ((k + 1 : Nat) : Int) := by rw [wr64 (by omega)]; rfl
  have hji : 0 < i → IntKind.i64.wrap ((i : Int) - 1) = ((i - 1 : Nat) : Int) := fun h => by rw [wr64 (by omega)]; omega
  have hu := u8nat (b.getD k 0)
  have hu2 := u8nat ((V [i - 1]).getD 0 0)
  have hsl := slc1 b hk
  have hl0 : ltrI 92 = false := by decide
  have hf0 : figI 92 = false := by decide
  have E' := (⟨hw, hji, hsl, h⟩ : _ ∧ _ ∧ _ ∧ _)
  refine bcase (fun gg0 => (rMo baseQG 600 (behind Tryd.f23 1) 900 120 (hI 13 22347781) ([]) [(qd16 b k), (qd7 b k), (qd43 k), (qd30 b k), (qd33 b k), (qd34 b k), (qd35 b k), (qd37 b k), ((qd1 b k) == 92, true), (qd10 b k), (qd19 k), (qd15 b k), (qd11 b k o)] (qd4 b i k n o) next (oc4 ?_ ?_ gg0 ?_ (oc9 ?_ ?_ ?_ ?_ ?_ ?_ ?_ ?_ ?_ okn)) ?_)) fun gg0 => (bcase (fun gg1 => (rMo baseQG 600 (behind Tryd.f23 1) 900 120 (hI 14 89391125) ([]) [(qd16 b k), (qd7 b k), (qd32 k), (qd39 i), (qd30 b k), (qd33 b k), (qd34 b k), (qd35 b k), (qd37 b k), ((qd1 b k) == 92, true), (qd10 b k), (qd19 k), (qd15 b k), (qd11 b k o)] (qd4 b i k n o) next (oc5 ?_ ?_ gg0 gg1 ?_ (oc9 ?_ ?_ ?_ ?_ ?_ ?_ ?_ ?_ ?_ okn)) ?_)) fun gg1 => (bcase (fun gg2 => (rMo baseQG 600 (behind Tryd.f23 1) 900 120 (hI 20 366146180437) ([]) [(qd16 b k), (qd7 b k), (qd32 k), (qd31 i), (qd9 i n), (qd22 M i), (qd22 M i), (qd12 V i), (qd47 V i), (qd30 b k), (qd33 b k), (qd34 b k), (qd35 b k), (qd37 b k), ((qd1 b k) == 92, true), (qd10 b k), (qd19 k), (qd15 b k), (qd11 b k o)] (qd4 b i k n o) next (oc1 ?_ (oc9 ?_ gg0 gg1 ?_ ?_ ?_ ?_ gg2 ?_ (oc9 ?_ ?_ ?_ ?_ ?_ ?_ ?_ ?_ ?_ okn))) ?_)) fun gg2 => (rMo baseQG 600 (behind Tryd.f23 1) 900 120 (hI 23 23433395524949) ([]) [(qd16 b k), (qd7 b k), (qd32 k), (qd31 i), (qd9 i n), (qd22 M i), (qd22 M i), (qd12 V i), (qd46 V i), (qd48 b k), (qd30 b k), (qd33 b k), (qd34 b k), (qd35 b k), (qd37 b k), ((qd1 b k) == 92, true), (qd10 b k), (qd19 k), (qd15 b k), (qd11 b k o)] (qd4 b i k n o) next (oc2 ?_ ?_ (oc9 gg0 gg1 ?_ ?_ ?_ ?_ gg2 ?_ ?_ (oc9 ?_ ?_ ?_ ?_ ?_ ?_ ?_ ?_ ?_ okn))) ?_)))
  all_goals clear next; try dsimp only [qd16, qd7, qd43, qd30, qd1, qd33, qd34, qd35, qd37, qd10, qd52, qd19, qd15, qd42, qd11, qd4, qd41, qd49, qd50, qd32, qd39, qd31, qd9, qd22, qd8, qd12, qd47, qd20, qd46, qd48] at *
  all_goals exact sc48

set_option maxHeartbeats 4000000 in
theorem gC1 (n M : Nat) (V L : Ix → List UInt8) (b o : List UInt8) (i k : Nat) (hi : i < n) (hM : n ≤ M) (hn : n ≤ 100) (hk : k < b.length) (hbl : b.length ≤ 1000) (ho : o.length ≤ 900000) (hv : 0 < i → 0 < (V [i - 1]).length) (n1 : ((b.getD k 0).toNat : Int) ≠ 10) (n2 : ((b.getD k 0).toNat : Int) ≠ 13) (n3 : ((b.getD k 0).toNat : Int) ≠ 9) (n4 : ((b.getD k 0).toNat : Int) ≠ 34) (n5 : ((b.getD k 0).toNat : Int) ≠ 36) (n6 : ((b.getD k 0).toNat : Int) ≠ 92) (h : 32 ≤ ((b.getD k 0).toNat : Int) ∧ ((b.getD k 0).toNat : Int) ≤ 126) (h0 : 0 < k ∨ i = 0)  (v : SV) (L' : HF) (next : RunsTo Tryd.prog 23 (headOf Tryd.f23 1) (envAt Tryd.f23.ntmps ([(0, vL 61 2 n), (3, vS (o ++ [b.getD k 0])), (4, vN (i : Nat)), (5, vP 101), (6, vN (k + 1 : Nat)), (9, vL 61 2 n), (10, vN n), (11, vN (i : Nat))])) (Sx.look (prX 61 M V L ++ ([⟨101, true, none, 2, .tc (.vs fun _ => []) (.tc (.vs fun _ => b) .t0)⟩]))) 80 (v) (L') 330) :
    RunsTo Tryd.prog 23 (headOf Tryd.f23 1) (envAt Tryd.f23.ntmps ([(0, vL 61 2 n), (3, vS (o)), (4, vN (i : Nat)), (5, vP 101), (6, vN (k : Nat)), (9, vL 61 2 n), (10, vN n), (11, vN (i : Nat))])) (Sx.look (prX 61 M V L ++ ([⟨101, true, none, 2, .tc (.vs fun _ => []) (.tc (.vs fun _ => b) .t0)⟩]))) 80 (v) (L') 330 := by
  have hw : IntKind.i64.wrap ((k : Int) + 1) = ((k + 1 : Nat) : Int) := by rw [wr64 (by omega)]; rfl
  have hji : 0 < i → IntKind.i64.wrap ((i : Int) - 1) = ((i - 1 : Nat) : Int) := fun h => by rw [wr64 (by omega)]; omega
  have hu := u8nat (b.getD k 0)
  have hu2 := u8nat ((V [i - 1]).getD 0 0)
  have hsl := slc1 b hk
  have E' := (⟨hw, hji, hsl⟩ : _ ∧ _ ∧ _)
  refine bcase (fun gg0 => (rMo baseQG 600 (behind Tryd.f23 1) 900 120 (hI 14 89391109) ([]) [(qd16 b k), (qd7 b k), (qd43 k), (qd30 b k), (qd33 b k), (qd34 b k), (qd35 b k), (qd37 b k), (qd40 b k), (qd38 b k), (qd45 b k), (qd10 b k), (qd19 k), (qd29 b k o)] (qd17 b i k n o) next (oc5 ?_ ?_ gg0 ?_ ?_ (oc9 ?_ ?_ ?_ ?_ ?_ ?_ ?_ ?_ ?_ okn)) ?_)) fun gg0 => (rMo baseQG 600 (behind Tryd.f23 1) 900 120 (hI 15 357564437) ([]) [(qd16 b k), (qd7 b k), (qd32 k), (qd39 i), (qd30 b k), (qd33 b k), (qd34 b k), (qd35 b k), (qd37 b k), (qd40 b k), (qd38 b k), (qd45 b k), (qd10 b k), (qd19 k), (qd29 b k o)] (qd17 b i k n o) next (oc6 ?_ ?_ gg0 ?_ ?_ ?_ (oc9 ?_ ?_ ?_ ?_ ?_ ?_ ?_ ?_ ?_ okn)) ?_)
  all_goals clear next; try dsimp only [qd16, qd7, qd43, qd30, qd1, qd33, qd34, qd35, qd37, qd40, qd38, qd45, qd10, qd52, qd19, qd29, qd42, qd17, qd41, qd49, qd50, qd32, qd39] at *
  all_goals exact sc48

set_option maxHeartbeats 4000000 in
theorem gC2 (n M : Nat) (V L : Ix → List UInt8) (b o : List UInt8) (i k : Nat) (hi : i < n) (hM : n ≤ M) (hn : n ≤ 100) (hk : k < b.length) (hbl : b.length ≤ 1000) (ho : o.length ≤ 900000) (hv : 0 < i → 0 < (V [i - 1]).length) (n1 : ((b.getD k 0).toNat : Int) ≠ 10) (n2 : ((b.getD k 0).toNat : Int) ≠ 13) (n3 : ((b.getD k 0).toNat : Int) ≠ 9) (n4 : ((b.getD k 0).toNat : Int) ≠ 34) (n5 : ((b.getD k 0).toNat : Int) ≠ 36) (n6 : ((b.getD k 0).toNat : Int) ≠ 92) (h : 32 ≤ ((b.getD k 0).toNat : Int) ∧ ((b.getD k 0).toNat : Int) ≤ 126) (h0 : k = 0) (h1 : 0 < i) (h2 : ltrI (((V [i - 1]).getD 0 0).toNat : Int) = false)  (v : SV) (L' : HF) (next : RunsTo Tryd.prog 23 (headOf Tryd.f23 1) (envAt Tryd.f23.ntmps ([(0, vL 61 2 n), (3, vS (o ++ [b.getD k 0])), (4, vN (i : Nat)), (5, vP 101), (6, vN (k + 1 : Nat)), (9, vL 61 2 n), (10, vN n), (11, vN (i : Nat))])) (Sx.look (prX 61 M V L ++ ([⟨101, true, none, 2, .tc (.vs fun _ => []) (.tc (.vs fun _ => b) .t0)⟩]))) 80 (v) (L') 330) :
    RunsTo Tryd.prog 23 (headOf Tryd.f23 1) (envAt Tryd.f23.ntmps ([(0, vL 61 2 n), (3, vS (o)), (4, vN (i : Nat)), (5, vP 101), (6, vN (k : Nat)), (9, vL 61 2 n), (10, vN n), (11, vN (i : Nat))])) (Sx.look (prX 61 M V L ++ ([⟨101, true, none, 2, .tc (.vs fun _ => []) (.tc (.vs fun _ => b) .t0)⟩]))) 80 (v) (L') 330 := by
  have hw : IntKind.i64.wrap ((k : Int) + 1) = ((k + 1 : Nat) : Int) := by rw [wr64 (by omega)]; rfl
  have hji : 0 < i → IntKind.i64.wrap ((i : Int) - 1) = ((i - 1 : Nat) : Int) := fun h => by rw [wr64 (by omega)]; omega
  have hu := u8nat (b.getD k 0)
  have hu2 := u8nat ((V [i - 1]).getD 0 0)
  have hsl := slc1 b hk
  have E' := (⟨hw, hji, hsl, h2⟩ : _ ∧ _ ∧ _ ∧ _)
  refine rMo baseQG 600 (behind Tryd.f23 1) 900 120 (hI 21 1464584066389) ([]) [(qd16 b k), (qd7 b k), (qd32 k), (qd31 i), (qd9 i n), (qd22 M i), (qd22 M i), (qd12 V i), (qd47 V i), (qd30 b k), (qd33 b k), (qd34 b k), (qd35 b k), (qd37 b k), (qd40 b k), (qd38 b k), (qd45 b k), (qd10 b k), (qd19 k), (qd29 b k o)] (qd17 b i k n o) next (oc2 ?_ ?_ (oc9 ?_ ?_ ?_ ?_ ?_ ?_ ?_ ?_ ?_ (oc9 ?_ ?_ ?_ ?_ ?_ ?_ ?_ ?_ ?_ okn))) ?_
  all_goals clear next; try dsimp only [qd16, qd7, qd32, qd31, qd9, qd22, qd8, qd12, qd47, qd20, qd30, qd1, qd33, qd34, qd35, qd37, qd40, qd38, qd45, qd10, qd52, qd19, qd29, qd42, qd17, qd41, qd49, qd50]
  all_goals exact sc48

set_option maxHeartbeats 4000000 in
theorem gC3 (n M : Nat) (V L : Ix → List UInt8) (b o : List UInt8) (i k : Nat) (hi : i < n) (hM : n ≤ M) (hn : n ≤ 100) (hk : k < b.length) (hbl : b.length ≤ 1000) (ho : o.length ≤ 900000) (hv : 0 < i → 0 < (V [i - 1]).length) (n1 : ((b.getD k 0).toNat : Int) ≠ 10) (n2 : ((b.getD k 0).toNat : Int) ≠ 13) (n3 : ((b.getD k 0).toNat : Int) ≠ 9) (n4 : ((b.getD k 0).toNat : Int) ≠ 34) (n5 : ((b.getD k 0).toNat : Int) ≠ 36) (n6 : ((b.getD k 0).toNat : Int) ≠ 92) (h : 32 ≤ ((b.getD k 0).toNat : Int) ∧ ((b.getD k 0).toNat : Int) ≤ 126) (h0 : k = 0) (h1 : 0 < i) (h3 : ltrI ((b.getD k 0).toNat : Int) = false) (h4 : figI ((b.getD k 0).toNat : Int) = false)  (v : SV) (L' : HF) (next : RunsTo Tryd.prog 23 (headOf Tryd.f23 1) (envAt Tryd.f23.ntmps ([(0, vL 61 2 n), (3, vS (o ++ [b.getD k 0])), (4, vN (i : Nat)), (5, vP 101), (6, vN (k + 1 : Nat)), (9, vL 61 2 n), (10, vN n), (11, vN (i : Nat))])) (Sx.look (prX 61 M V L ++ ([⟨101, true, none, 2, .tc (.vs fun _ => []) (.tc (.vs fun _ => b) .t0)⟩]))) 80 (v) (L') 330) :
    RunsTo Tryd.prog 23 (headOf Tryd.f23 1) (envAt Tryd.f23.ntmps ([(0, vL 61 2 n), (3, vS (o)), (4, vN (i : Nat)), (5, vP 101), (6, vN (k : Nat)), (9, vL 61 2 n), (10, vN n), (11, vN (i : Nat))])) (Sx.look (prX 61 M V L ++ ([⟨101, true, none, 2, .tc (.vs fun _ => []) (.tc (.vs fun _ => b) .t0)⟩]))) 80 (v) (L') 330 := by
  have hw : IntKind.i64.wrap ((k : Int) + 1) = ((k + 1 : Nat) : Int) := by rw [wr64 (by omega)]; rfl
  have hji : 0 < i → IntKind.i64.wrap ((i : Int) - 1) = ((i - 1 : Nat) : Int) := fun h => by rw [wr64 (by omega)]; omega
  have hu := u8nat (b.getD k 0)
  have hu2 := u8nat ((V [i - 1]).getD 0 0)
  have hsl := slc1 b hk
  have E' := (⟨hw, hji, hsl, h3, h4⟩ : _ ∧ _ ∧ _ ∧ _ ∧ _)
  refine bcase (fun gg0 => (rMo baseQG 600 (behind Tryd.f23 1) 900 120 (hI 21 1464584066389) ([]) [(qd16 b k), (qd7 b k), (qd32 k), (qd31 i), (qd9 i n), (qd22 M i), (qd22 M i), (qd12 V i), (qd47 V i), (qd30 b k), (qd33 b k), (qd34 b k), (qd35 b k), (qd37 b k), (qd40 b k), (qd38 b k), (qd45 b k), (qd10 b k), (qd19 k), (qd29 b k o)] (qd17 b i k n o) next (oc2 ?_ ?_ (oc9 ?_ ?_ ?_ ?_ ?_ ?_ gg0 ?_ ?_ (oc9 ?_ ?_ ?_ ?_ ?_ ?_ ?_ ?_ ?_ okn))) ?_)) fun gg0 => (rMo baseQG 600 (behind Tryd.f23 1) 900 120 (hI 25 375208396936533) ([]) [(qd16 b k), (qd7 b k), (qd32 k), (qd31 i), (qd9 i n), (qd22 M i), (qd22 M i), (qd12 V i), (qd46 V i), (qd48 b k), (qd30 b k), (qd33 b k), (qd34 b k), (qd35 b k), (qd37 b k), (qd40 b k), (qd38 b k), (qd45 b k), (!figI (qd1 b k), true), (qd10 b k), (qd19 k), (qd29 b k o)] (qd17 b i k n o) next (oc4 ?_ ?_ ?_ ?_ (oc9 ?_ ?_ ?_ ?_ gg0 ?_ ?_ ?_ ?_ (oc9 ?_ ?_ ?_ ?_ ?_ ?_ ?_ ?_ ?_ okn))) ?_)
  all_goals clear next; try dsimp only [qd16, qd7, qd32, qd31, qd9, qd22, qd8, qd12, qd47, qd20, qd30, qd1, qd33, qd34, qd35, qd37, qd40, qd38, qd45, qd10, qd52, qd19, qd29, qd42, qd17, qd41, qd49, qd50, qd46, qd48] at *
  all_goals exact sc48

set_option maxHeartbeats 4000000 in
theorem gX1 (n M : Nat) (V L : Ix → List UInt8) (b o : List UInt8) (i k : Nat) (hi : i < n) (hM : n ≤ M) (hn : n ≤ 100) (hk : k < b.length) (hbl : b.length ≤ 1000) (ho : o.length ≤ 900000) (hv : 0 < i → 0 < (V [i - 1]).length) (n1 : ((b.getD k 0).toNat : Int) ≠ 10) (n2 : ((b.getD k 0).toNat : Int) ≠ 13) (n3 : ((b.getD k 0).toNat : Int) ≠ 9) (n4 : ((b.getD k 0).toNat : Int) ≠ 34) (n5 : ((b.getD k 0).toNat : Int) ≠ 36) (n6 : ((b.getD k 0).toNat : Int) ≠ 92) (h : ¬ (32 ≤ ((b.getD k 0).toNat : Int) ∧ ((b.getD k 0).toNat : Int) ≤ 126)) (h3 : ltrI ((b.getD k 0).toNat : Int) = false) (h4 : figI ((b.getD k 0).toNat : Int) = false)  (v : SV) (L' : HF) (next : RunsTo Tryd.prog 23 (headOf Tryd.f23 1) (envAt Tryd.f23.ntmps ([(0, vL 61 2 n), (3, vS (o ++ [92, 120, hexS.getD (((b.getD k 0).toNat : Int) / 16).toNat 0, hexS.getD (((b.getD k 0).toNat : Int) % 16).toNat 0])), (4, vN (i : Nat)), (5, vP 101), (6, vN (k + 1 : Nat)), (9, vL 61 2 n), (10, vN n), (11, vN (i : Nat))])) (Sx.look (prX 61 M V L ++ ([⟨101, true, none, 2, .tc (.vs fun _ => []) (.tc (.vs fun _ => b) .t0)⟩]))) 80 (v) (L') 330) :
    RunsTo Tryd.prog 23 (headOf Tryd.f23 1) (envAt Tryd.f23.ntmps ([(0, vL 61 2 n), (3, vS (o)), (4, vN (i : Nat)), (5, vP 101), (6, vN (k : Nat)), (9, vL 61 2 n), (10, vN n), (11, vN (i : Nat))])) (Sx.look (prX 61 M V L ++ ([⟨101, true, none, 2, .tc (.vs fun _ => []) (.tc (.vs fun _ => b) .t0)⟩]))) 80 (v) (L') 330 := by
  have hw : IntKind.i64.wrap ((k : Int) + 1) = ((k + 1 : Nat) : Int) := by rw [wr64 (by omega)]; rfl
  have hji : 0 < i → IntKind.i64.wrap ((i : Int) - 1) = ((i - 1 : Nat) : Int) := fun h => by rw [wr64 (by omega)]; omega
  have hu := u8nat (b.getD k 0)
  have hu2 := u8nat ((V [i - 1]).getD 0 0)
  have hsl := slc1 b hk
  have hx1 : (((b.getD k 0).toNat : Int) / 16).toNat < 16 := by omega
  have hx2 : (((b.getD k 0).toNat : Int) % 16).toNat < 16 := by omega
  have e20 : ((b.getD k 0).toNat : Int).tmod 16 = ((b.getD k 0).toNat : Int) % 16 := Int.tmod_eq_emod_of_nonneg (by omega)
  have e11 : IntKind.u8.wrap (((b.getD k 0).toNat : Int) / 16) = ((b.getD k 0).toNat : Int) / 16 := u8id (by omega)
  have e12 : IntKind.u8.wrap (((b.getD k 0).toNat : Int) / 16 + 1) = ((b.getD k 0).toNat : Int) / 16 + 1 := u8id (by omega)
  have e13 : (((b.getD k 0).toNat : Int) / 16 + 1).toNat = (((b.getD k 0).toNat : Int) / 16).toNat + 1 := by omega
  have e14 : (([48, 49, 50, 51, 52, 53, 54, 55, 56, 57, 97, 98, 99, 100, 101, 102] : List UInt8).take ((((b.getD k 0).toNat : Int) / 16).toNat + 1)).drop (((b.getD k 0).toNat : Int) / 16).toNat = [hexS.getD (((b.getD k 0).toNat : Int) / 16).toNat 0] := hx_at hx1
  have e21 : IntKind.u8.wrap (((b.getD k 0).toNat : Int) % 16) = ((b.getD k 0).toNat : Int) % 16 := u8id (by omega)
  have e22 : IntKind.u8.wrap (((b.getD k 0).toNat : Int) % 16 + 1) = ((b.getD k 0).toNat : Int) % 16 + 1 := u8id (by omega)
  have e23 : (((b.getD k 0).toNat : Int) % 16 + 1).toNat = (((b.getD k 0).toNat : Int) % 16).toNat + 1 := by omega
  have e24 : (([48, 49, 50, 51, 52, 53, 54, 55, 56, 57, 97, 98, 99, 100, 101, 102] : List UInt8).take ((((b.getD k 0).toNat : Int) % 16).toNat + 1)).drop (((b.getD k 0).toNat : Int) % 16).toNat = [hexS.getD (((b.getD k 0).toNat : Int) % 16).toNat 0] := hx_at hx2
  have E' := (⟨hw, hji, hsl, h3, h4, e20, e11, e12, e13, e14, e21, e22, e23, e24⟩ : _ ∧ _ ∧ _ ∧ _ ∧ _ ∧ _ ∧ _ ∧ _ ∧ _ ∧ _ ∧ _ ∧ _ ∧ _ ∧ _)
  refine bcase (fun gg0 => (bcase (fun gg1 => (rMo baseQG 600 (behind Tryd.f23 1) 900 120 (hI 21 1476763058181) ([]) [(qd16 b k), (qd7 b k), (qd43 k), (qd30 b k), (qd33 b k), (qd34 b k), (qd35 b k), (qd37 b k), (qd40 b k), (decide ((qd1 b k) ≥ 32), false), (qd13 b k), (qd14 b k), (qd6 b k), (qd18 b k), (qd21 b k), (qd3 b k), (qd28 b k o)] (qd5 b i k n o) next (oc8 ?_ ?_ gg0 ?_ ?_ ?_ ?_ ?_ (oc9 ?_ gg1 ?_ ?_ ?_ ?_ ?_ ?_ ?_ okn)) ?_)) fun gg1 => (rMo baseQG 600 (behind Tryd.f23 1) 900 120 (hI 22 5907052494853) ([]) [(qd16 b k), (qd7 b k), (qd43 k), (qd30 b k), (qd33 b k), (qd34 b k), (qd35 b k), (qd37 b k), (qd40 b k), (qd38 b k), (decide ((qd1 b k) < 127), false), (qd13 b k), (qd14 b k), (qd6 b k), (qd18 b k), (qd21 b k), (qd3 b k), (qd28 b k o)] (qd5 b i k n o) next (oc9 ?_ ?_ gg0 ?_ ?_ ?_ ?_ ?_ ?_ (oc9 gg1 ?_ ?_ ?_ ?_ ?_ ?_ ?_ ?_ okn)) ?_))) fun gg0 => (bcase (fun gg1 => (bcase (fun gg2 => (rMo baseQG 600 (behind Tryd.f23 1) 900 120 (hI 22 5907052232725) ([]) [(qd16 b k), (qd7 b k), (qd32 k), (qd39 i), (qd30 b k), (qd33 b k), (qd34 b k), (qd35 b k), (qd37 b k), (qd40 b k), (decide ((qd1 b k) ≥ 32), false), (qd13 b k), (qd14 b k), (qd6 b k), (qd18 b k), (qd21 b k), (qd3 b k), (qd28 b k o)] (qd5 b i k n o) next (oc9 ?_ ?_ gg0 gg1 ?_ ?_ ?_ ?_ ?_ (oc9 ?_ gg2 ?_ ?_ ?_ ?_ ?_ ?_ ?_ okn)) ?_)) fun gg2 => (rMo baseQG 600 (behind Tryd.f23 1) 900 120 (hI 23 23628209979413) ([]) [(qd16 b k), (qd7 b k), (qd32 k), (qd39 i), (qd30 b k), (qd33 b k), (qd34 b k), (qd35 b k), (qd37 b k), (qd40 b k), (qd38 b k), (decide ((qd1 b k) < 127), false), (qd13 b k), (qd14 b k), (qd6 b k), (qd18 b k), (qd21 b k), (qd3 b k), (qd28 b k o)] (qd5 b i k n o) next (oc1 ?_ (oc9 ?_ gg0 gg1 ?_ ?_ ?_ ?_ ?_ ?_ (oc9 gg2 ?_ ?_ ?_ ?_ ?_ ?_ ?_ ?_ okn))) ?_))) fun gg1 => (bcase (fun gg2 => (bcase (fun gg3 => (rMo baseQG 600 (behind Tryd.f23 1) 900 120 (hI 28 24195285945374037) ([]) [(qd16 b k), (qd7 b k), (qd32 k), (qd31 i), (qd9 i n), (qd22 M i), (qd22 M i), (qd12 V i), (qd47 V i), (qd30 b k), (qd33 b k), (qd34 b k), (qd35 b k), (qd37 b k), (qd40 b k), (decide ((qd1 b k) ≥ 32), false), (qd13 b k), (qd14 b k), (qd6 b k), (qd18 b k), (qd21 b k), (qd3 b k), (qd28 b k o)] (qd5 b i k n o) next (oc5 ?_ ?_ gg0 gg1 ?_ (oc9 ?_ ?_ ?_ gg2 ?_ ?_ ?_ ?_ ?_ (oc9 ?_ gg3 ?_ ?_ ?_ ?_ ?_ ?_ ?_ okn))) ?_)) fun gg3 => (rMo baseQG 600 (behind Tryd.f23 1) 900 120 (hI 29 96781148075808085) ([]) [(qd16 b k), (qd7 b k), (qd32 k), (qd31 i), (qd9 i n), (qd22 M i), (qd22 M i), (qd12 V i), (qd47 V i), (qd30 b k), (qd33 b k), (qd34 b k), (qd35 b k), (qd37 b k), (qd40 b k), (qd38 b k), (decide ((qd1 b k) < 127), false), (qd13 b k), (qd14 b k), (qd6 b k), (qd18 b k), (qd21 b k), (qd3 b k), (qd28 b k o)] (qd5 b i k n o) next (oc6 ?_ ?_ gg0 gg1 ?_ ?_ (oc9 ?_ ?_ gg2 ?_ ?_ ?_ ?_ ?_ ?_ (oc9 gg3 ?_ ?_ ?_ ?_ ?_ ?_ ?_ ?_ okn))) ?_))) fun gg2 => (bcase (fun gg3 => (rMo baseQG 600 (behind Tryd.f23 1) 900 120 (hI 31 1548498300543915349) ([]) [(qd16 b k), (qd7 b k), (qd32 k), (qd31 i), (qd9 i n), (qd22 M i), (qd22 M i), (qd12 V i), (qd46 V i), (qd48 b k), (qd30 b k), (qd33 b k), (qd34 b k), (qd35 b k), (qd37 b k), (qd40 b k), (decide ((qd1 b k) ≥ 32), false), (qd13 b k), (qd14 b k), (qd6 b k), (qd18 b k), (qd21 b k), (qd3 b k), (qd28 b k o)] (qd5 b i k n o) next (oc6 ?_ ?_ gg0 gg1 ?_ ?_ (oc9 ?_ ?_ gg2 ?_ ?_ ?_ ?_ ?_ ?_ (oc9 ?_ gg3 ?_ ?_ ?_ ?_ ?_ ?_ ?_ okn))) ?_)) fun gg3 => (rMo baseQG 600 (behind Tryd.f23 1) 900 120 (hI 32 6193993476891694421) ([]) [(qd16 b k), (qd7 b k), (qd32 k), (qd31 i), (qd9 i n), (qd22 M i), (qd22 M i), (qd12 V i), (qd46 V i), (qd48 b k), (qd30 b k), (qd33 b k), (qd34 b k), (qd35 b k), (qd37 b k), (qd40 b k), (qd38 b k), (decide ((qd1 b k) < 127), false), (qd13 b k), (qd14 b k), (qd6 b k), (qd18 b k), (qd21 b k), (qd3 b k), (qd28 b k o)] (qd5 b i k n o) next (oc7 ?_ ?_ gg0 gg1 ?_ ?_ ?_ (oc9 ?_ gg2 ?_ ?_ ?_ ?_ ?_ ?_ ?_ (oc9 gg3 ?_ ?_ ?_ ?_ ?_ ?_ ?_ ?_ okn))) ?_))))
  all_goals clear next; try dsimp only [qd16, qd7, qd43, qd30, qd1, qd33, qd34, qd35, qd37, qd40, qd13, qd44, qd14, qd6, qd27, qd18, qd21, qd3, qd36, qd28, qd2, qd5, qd41, qd49, qd52, qd50, qd38, qd32, qd39, qd31, qd9, qd22, qd8, qd12, qd47, qd20, qd46, qd48] at *
  all_goals exact sc48

set_option maxHeartbeats 4000000 in
theorem gX2 (n M : Nat) (V L : Ix → List UInt8) (b o : List UInt8) (i k : Nat) (hi : i < n) (hM : n ≤ M) (hn : n ≤ 100) (hk : k < b.length) (hbl : b.length ≤ 1000) (ho : o.length ≤ 900000) (hv : 0 < i → 0 < (V [i - 1]).length) (n1 : ((b.getD k 0).toNat : Int) ≠ 10) (n2 : ((b.getD k 0).toNat : Int) ≠ 13) (n3 : ((b.getD k 0).toNat : Int) ≠ 9) (n4 : ((b.getD k 0).toNat : Int) ≠ 34) (n5 : ((b.getD k 0).toNat : Int) ≠ 36) (n6 : ((b.getD k 0).toNat : Int) ≠ 92) (h : 32 ≤ ((b.getD k 0).toNat : Int) ∧ ((b.getD k 0).toNat : Int) ≤ 126) (h0 : k = 0) (h1 : 0 < i) (h2 : ltrI (((V [i - 1]).getD 0 0).toNat : Int) = true) (h3 : ltrI ((b.getD k 0).toNat : Int) = true)  (v : SV) (L' : HF) (next : RunsTo Tryd.prog 23 (headOf Tryd.f23 1) (envAt Tryd.f23.ntmps ([(0, vL 61 2 n), (3, vS (o ++ [92, 120, hexS.getD (((b.getD k 0).toNat : Int) / 16).toNat 0, hexS.getD (((b.getD k 0).toNat : Int) % 16).toNat 0])), (4, vN (i : Nat)), (5, vP 101), (6, vN (k + 1 : Nat)), (9, vL 61 2 n), (10, vN n), (11, vN (i : Nat))])) (Sx.look (prX 61 M V L ++ ([⟨101, true, none, 2, .tc (.vs fun _ => []) (.tc (.vs fun _ => b) .t0)⟩]))) 80 (v) (L') 330) :
    RunsTo Tryd.prog 23 (headOf Tryd.f23 1) (envAt Tryd.f23.ntmps ([(0, vL 61 2 n), (3, vS (o)), (4, vN (i : Nat)), (5, vP 101), (6, vN (k : Nat)), (9, vL 61 2 n), (10, vN n), (11, vN (i : Nat))])) (Sx.look (prX 61 M V L ++ ([⟨101, true, none, 2, .tc (.vs fun _ => []) (.tc (.vs fun _ => b) .t0)⟩]))) 80 (v) (L') 330 := by
  have hw : IntKind.i64.wrap ((k : Int) + 1) = ((k + 1 : Nat) : Int) := by rw [wr64 (by omega)]; rfl
  have hji : 0 < i → IntKind.i64.wrap ((i : Int) - 1) = ((i - 1 : Nat) : Int) := fun h => by rw [wr64 (by omega)]; omega
  have hu := u8nat (b.getD k 0)
  have hu2 := u8nat ((V [i - 1]).getD 0 0)
  have hsl := slc1 b hk
  have hx1 : (((b.getD k 0).toNat : Int) / 16).toNat < 16 := by omega
  have hx2 : (((b.getD k 0).toNat : Int) % 16).toNat < 16 := by omega
  have e20 : ((b.getD k 0).toNat : Int).tmod 16 = ((b.getD k 0).toNat : Int) % 16 := Int.tmod_eq_emod_of_nonneg (by omega)
  have e11 : IntKind.u8.wrap (((b.getD k 0).toNat : Int) / 16) = ((b.getD k 0).toNat : Int) / 16 := u8id (by omega)
  have e12 : IntKind.u8.wrap (((b.getD k 0).toNat : Int) / 16 + 1) = ((b.getD k 0).toNat : Int) / 16 + 1 := u8id (by omega)
  have e13 : (((b.getD k 0).toNat : Int) / 16 + 1).toNat = (((b.getD k 0).toNat : Int) / 16).toNat + 1 := by omega
  have e14 : (([48, 49, 50, 51, 52, 53, 54, 55, 56, 57, 97, 98, 99, 100, 101, 102] : List UInt8).take ((((b.getD k 0).toNat : Int) / 16).toNat + 1)).drop (((b.getD k 0).toNat : Int) / 16).toNat = [hexS.getD (((b.getD k 0).toNat : Int) / 16).toNat 0] := hx_at hx1
  have e21 : IntKind.u8.wrap (((b.getD k 0).toNat : Int) % 16) = ((b.getD k 0).toNat : Int) % 16 := u8id (by omega)
  have e22 : IntKind.u8.wrap (((b.getD k 0).toNat : Int) % 16 + 1) = ((b.getD k 0).toNat : Int) % 16 + 1 := u8id (by omega)
  have e23 : (((b.getD k 0).toNat : Int) % 16 + 1).toNat = (((b.getD k 0).toNat : Int) % 16).toNat + 1 := by omega
  have e24 : (([48, 49, 50, 51, 52, 53, 54, 55, 56, 57, 97, 98, 99, 100, 101, 102] : List UInt8).take ((((b.getD k 0).toNat : Int) % 16).toNat + 1)).drop (((b.getD k 0).toNat : Int) % 16).toNat = [hexS.getD (((b.getD k 0).toNat : Int) % 16).toNat 0] := hx_at hx2
  have E' := (⟨hw, hji, hsl, h2, h3, e20, e11, e12, e13, e14, e21, e22, e23, e24⟩ : _ ∧ _ ∧ _ ∧ _ ∧ _ ∧ _ ∧ _ ∧ _ ∧ _ ∧ _ ∧ _ ∧ _ ∧ _ ∧ _)
  refine rMo baseQG 600 (behind Tryd.f23 1) 900 120 (hI 31 1548498644095161685) ([]) [(qd16 b k), (qd7 b k), (qd32 k), (qd31 i), (qd9 i n), (qd22 M i), (qd22 M i), (qd12 V i), (qd46 V i), (ltrI (qd1 b k), true), (qd30 b k), (qd33 b k), (qd34 b k), (qd35 b k), (qd37 b k), (qd40 b k), (qd38 b k), (qd45 b k), (qd13 b k), (qd14 b k), (qd6 b k), (qd18 b k), (qd21 b k), (qd3 b k), (qd28 b k o)] (qd5 b i k n o) next (oc7 ?_ ?_ ?_ ?_ ?_ ?_ ?_ (oc9 ?_ ?_ ?_ ?_ ?_ ?_ ?_ ?_ ?_ (oc9 ?_ ?_ ?_ ?_ ?_ ?_ ?_ ?_ ?_ okn))) ?_
  all_goals clear next; try dsimp only [qd16, qd7, qd32, qd31, qd9, qd22, qd8, qd12, qd46, qd20, qd1, qd30, qd33, qd34, qd35, qd37, qd40, qd38, qd45, qd13, qd44, qd14, qd6, qd27, qd18, qd21, qd3, qd36, qd28, qd2, qd5, qd41, qd49, qd52, qd50]
  all_goals exact sc48

set_option maxHeartbeats 4000000 in
theorem gX3 (n M : Nat) (V L : Ix → List UInt8) (b o : List UInt8) (i k : Nat) (hi : i < n) (hM : n ≤ M) (hn : n ≤ 100) (hk : k < b.length) (hbl : b.length ≤ 1000) (ho : o.length ≤ 900000) (hv : 0 < i → 0 < (V [i - 1]).length) (n1 : ((b.getD k 0).toNat : Int) ≠ 10) (n2 : ((b.getD k 0).toNat : Int) ≠ 13) (n3 : ((b.getD k 0).toNat : Int) ≠ 9) (n4 : ((b.getD k 0).toNat : Int) ≠ 34) (n5 : ((b.getD k 0).toNat : Int) ≠ 36) (n6 : ((b.getD k 0).toNat : Int) ≠ 92) (h : 32 ≤ ((b.getD k 0).toNat : Int) ∧ ((b.getD k 0).toNat : Int) ≤ 126) (h0 : k = 0) (h1 : 0 < i) (h2 : ltrI (((V [i - 1]).getD 0 0).toNat : Int) = true) (h3 : ltrI ((b.getD k 0).toNat : Int) = false) (h4 : figI ((b.getD k 0).toNat : Int) = true)  (v : SV) (L' : HF) (next : RunsTo Tryd.prog 23 (headOf Tryd.f23 1) (envAt Tryd.f23.ntmps ([(0, vL 61 2 n), (3, vS (o ++ [92, 120, hexS.getD (((b.getD k 0).toNat : Int) / 16).toNat 0, hexS.getD (((b.getD k 0).toNat : Int) % 16).toNat 0])), (4, vN (i : Nat)), (5, vP 101), (6, vN (k + 1 : Nat)), (9, vL 61 2 n), (10, vN n), (11, vN (i : Nat))])) (Sx.look (prX 61 M V L ++ ([⟨101, true, none, 2, .tc (.vs fun _ => []) (.tc (.vs fun _ => b) .t0)⟩]))) 80 (v) (L') 330) :
    RunsTo Tryd.prog 23 (headOf Tryd.f23 1) (envAt Tryd.f23.ntmps ([(0, vL 61 2 n), (3, vS (o)), (4, vN (i : Nat)), (5, vP 101), (6, vN (k : Nat)), (9, vL 61 2 n), (10, vN n), (11, vN (i : Nat))])) (Sx.look (prX 61 M V L ++ ([⟨101, true, none, 2, .tc (.vs fun _ => []) (.tc (.vs fun _ => b) .t0)⟩]))) 80 (v) (L') 330 := by
  have hw : IntKind.i64.wrap ((k : Int) + 1) = ((k + 1 : Nat) : Int) := by rw [wr64 (by omega)]; rfl
  have hji : 0 < i → IntKind.i64.wrap ((i : Int) - 1) = ((i - 1 : Nat) : Int) := fun h => by rw [wr64 (by omega)]; omega
  have hu := u8nat (b.getD k 0)
  have hu2 := u8nat ((V [i - 1]).getD 0 0)
  have hsl := slc1 b hk
  have hx1 : (((b.getD k 0).toNat : Int) / 16).toNat < 16 := by omega
  have hx2 : (((b.getD k 0).toNat : Int) % 16).toNat < 16 := by omega
  have e20 : ((b.getD k 0).toNat : Int).tmod 16 = ((b.getD k 0).toNat : Int) % 16 := Int.tmod_eq_emod_of_nonneg (by omega)
  have e11 : IntKind.u8.wrap (((b.getD k 0).toNat : Int) / 16) = ((b.getD k 0).toNat : Int) / 16 := u8id (by omega)
  have e12 : IntKind.u8.wrap (((b.getD k 0).toNat : Int) / 16 + 1) = ((b.getD k 0).toNat : Int) / 16 + 1 := u8id (by omega)
  have e13 : (((b.getD k 0).toNat : Int) / 16 + 1).toNat = (((b.getD k 0).toNat : Int) / 16).toNat + 1 := by omega
  have e14 : (([48, 49, 50, 51, 52, 53, 54, 55, 56, 57, 97, 98, 99, 100, 101, 102] : List UInt8).take ((((b.getD k 0).toNat : Int) / 16).toNat + 1)).drop (((b.getD k 0).toNat : Int) / 16).toNat = [hexS.getD (((b.getD k 0).toNat : Int) / 16).toNat 0] := hx_at hx1
  have e21 : IntKind.u8.wrap (((b.getD k 0).toNat : Int) % 16) = ((b.getD k 0).toNat : Int) % 16 := u8id (by omega)
  have e22 : IntKind.u8.wrap (((b.getD k 0).toNat : Int) % 16 + 1) = ((b.getD k 0).toNat : Int) % 16 + 1 := u8id (by omega)
  have e23 : (((b.getD k 0).toNat : Int) % 16 + 1).toNat = (((b.getD k 0).toNat : Int) % 16).toNat + 1 := by omega
  have e24 : (([48, 49, 50, 51, 52, 53, 54, 55, 56, 57, 97, 98, 99, 100, 101, 102] : List UInt8).take ((((b.getD k 0).toNat : Int) % 16).toNat + 1)).drop (((b.getD k 0).toNat : Int) % 16).toNat = [hexS.getD (((b.getD k 0).toNat : Int) % 16).toNat 0] := hx_at hx2
  have E' := (⟨hw, hji, hsl, h2, h3, h4, e20, e11, e12, e13, e14, e21, e22, e23, e24⟩ : _ ∧ _ ∧ _ ∧ _ ∧ _ ∧ _ ∧ _ ∧ _ ∧ _ ∧ _ ∧ _ ∧ _ ∧ _ ∧ _ ∧ _)
  refine rMo baseQG 600 (behind Tryd.f23 1) 900 120 (hI 33 24775974182282810709) ([]) [(qd16 b k), (qd7 b k), (qd32 k), (qd31 i), (qd9 i n), (qd22 M i), (qd22 M i), (qd12 V i), (qd46 V i), (qd48 b k), (qd30 b k), (qd33 b k), (qd34 b k), (qd35 b k), (qd37 b k), (qd40 b k), (qd38 b k), (qd45 b k), (!figI (qd1 b k), false), (qd13 b k), (qd14 b k), (qd6 b k), (qd18 b k), (qd21 b k), (qd3 b k), (qd28 b k o)] (qd5 b i k n o) next (oc8 ?_ ?_ ?_ ?_ ?_ ?_ ?_ ?_ (oc9 ?_ ?_ ?_ ?_ ?_ ?_ ?_ ?_ ?_ (oc9 ?_ ?_ ?_ ?_ ?_ ?_ ?_ ?_ ?_ okn))) ?_
  all_goals clear next; try dsimp only [qd16, qd7, qd32, qd31, qd9, qd22, qd8, qd12, qd46, qd20, qd48, qd1, qd30, qd33, qd34, qd35, qd37, qd40, qd38, qd45, qd13, qd44, qd14, qd6, qd27, qd18, qd21, qd3, qd36, qd28, qd2, qd5, qd41, qd49, qd52, qd50]
  all_goals exact sc48

set_option maxHeartbeats 4000000 in
theorem gE (n M : Nat) (V L : Ix → List UInt8) (b o : List UInt8) (i k : Nat) (hi : i < n) (hM : n ≤ M) (hn : n ≤ 100) (hk : k = b.length)  (v : SV) (L' : HF) (next : RunsTo Tryd.prog 23 (headOf Tryd.f23 0) (envAt Tryd.f23.ntmps ([(0, vL 61 2 n), (3, vS (o)), (9, vL 61 2 n), (10, vN n), (11, vN (i + 1 : Nat))])) (Sx.look (prX 61 M V L ++ ([]))) 80 (v) (L') 330) :
    RunsTo Tryd.prog 23 (headOf Tryd.f23 1) (envAt Tryd.f23.ntmps ([(0, vL 61 2 n), (3, vS (o)), (4, vN (i : Nat)), (5, vP 101), (6, vN (k : Nat)), (9, vL 61 2 n), (10, vN n), (11, vN (i : Nat))])) (Sx.look (prX 61 M V L ++ ([⟨101, true, none, 2, .tc (.vs fun _ => []) (.tc (.vs fun _ => b) .t0)⟩]))) 80 (v) (L') 330 := by
  have hw : IntKind.i64.wrap ((i : Int) + 1) = ((i + 1 : Nat) : Int) := by rw [wr64 (by omega)]; rfl
  have E' := hw
  refine rMo baseQG 600 (behind Tryd.f23 0) 900 120 (hI 1 0) ([]) [(decide ((k : Int) < (↑b.length : Int)), false)] (((qd41 n) ∧ o = o ∧ (qd41 n) ∧ (n : Int) = (n : Int) ∧ (↑(i + (1 : Nat)) : Int) = IntKind.i64.wrap ((i : Int) + 1)) ∧ True) next (oc1 ?_ okn) ?_
  all_goals clear next; try dsimp only [qd41]
  all_goals exact sc41

set_option maxHeartbeats 4000000 in
theorem gZ (n M : Nat) (V L : Ix → List UInt8) (o : List UInt8) (i : Nat) (hi : i = n) (ho : o.length ≤ 900000)  :
    (RunsTo Tryd.prog 23 (headOf Tryd.f23 0) (envAt Tryd.f23.ntmps ([(0, vL 61 2 n), (3, vS (o)), (9, vL 61 2 n), (10, vN n), (11, vN (i : Nat))])) (Sx.look (prX 61 M V L ++ ([]))) 80 (vS (o ++ [34])) (Sx.look ([])) 330) := by
  refine rEn baseQG 600 (99) 900 120 (hI 2 4) ([]) [(decide ((i : Int) < (n : Int)), false), (decide (o.length + (1 : Nat) ≤ (9223372036854775807 : Nat)), true)] (o ++ [(34 : UInt8)] = o ++ [(34 : UInt8)] ∧ True) (oc2 ?_ ?_ okn) ?_
  all_goals exact sc47

theorem ltr_p {x : Int} (h : ltrI x = true) : 32 ≤ x ∧ x ≤ 126 := by unfold ltrI at h; simp at h; omega
theorem fig_p {x : Int} (h : figI x = true) : 32 ≤ x ∧ x ≤ 126 := by unfold figI at h; simp at h; omega
/-- What ends ahead: a name? -/
def opn (V : Ix → List UInt8) (i : Nat) : Bool := decide (0 < i) && ltrI (((V [i - 1]).getD 0 0).toNat : Int)
theorem gT' (n M : Nat) (V L : Ix → List UInt8) (b o : List UInt8) (i k : Nat) (v : SV) (L' : HF) (hi : i < n) (hM : n ≤ M) (hn : n ≤ 100) (hk : k < b.length) (hbl : b.length ≤ 1000) (ho : o.length ≤ 900000) (hv : 0 < i → 0 < (V [i - 1]).length) (q : RunsTo Tryd.prog 23 (headOf Tryd.f23 1) (envAt Tryd.f23.ntmps ([(0, vL 61 2 n), (3, vS (o ++ toldI ((b.getD k 0).toNat : Int) (plA (opn V i) b k))), (4, vN (i : Nat)), (5, vP 101), (6, vN (k + 1 : Nat)), (9, vL 61 2 n), (10, vN n), (11, vN (i : Nat))])) (Sx.look (prX 61 M V L ++ ([⟨101, true, none, 2, .tc (.vs fun _ => []) (.tc (.vs fun _ => b) .t0)⟩]))) 80 (v) (L') 330) : RunsTo Tryd.prog 23 (headOf Tryd.f23 1) (envAt Tryd.f23.ntmps ([(0, vL 61 2 n), (3, vS (o)), (4, vN (i : Nat)), (5, vP 101), (6, vN (k : Nat)), (9, vL 61 2 n), (10, vN n), (11, vN (i : Nat))])) (Sx.look (prX 61 M V L ++ ([⟨101, true, none, 2, .tc (.vs fun _ => []) (.tc (.vs fun _ => b) .t0)⟩]))) 80 (v) (L') 330 := by
  have hu := u8nat (b.getD k 0)
  have hof : UInt8.ofNat (((b.getD k 0).toNat : Int)).toNat = b.getD k 0 := by simp
  generalize hpl : plA (opn V i) b k = pl at q
  unfold toldI at q
  by_cases n1 : ((b.getD k 0).toNat : Int) = 10
  · rw [if_pos n1] at q; exact gN n M V L b o i k hi hM hn hk hbl ho hv n1 v L' q
  rw [if_neg n1] at q
  by_cases n2 : ((b.getD k 0).toNat : Int) = 13
  · rw [if_pos n2] at q; exact gR n M V L b o i k hi hM hn hk hbl ho hv n2 v L' q
  rw [if_neg n2] at q
  by_cases n3 : ((b.getD k 0).toNat : Int) = 9
  · rw [if_pos n3] at q; exact gT n M V L b o i k hi hM hn hk hbl ho hv n3 v L' q
  rw [if_neg n3] at q
  by_cases n4 : ((b.getD k 0).toNat : Int) = 34
  · rw [if_pos (.inl n4), hof] at q; exact gQ n M V L b o i k hi hM hn hk hbl ho hv n4 v L' q
  by_cases n5 : ((b.getD k 0).toNat : Int) = 36
  · rw [if_pos (.inr (.inl n5)), hof] at q; exact gD n M V L b o i k hi hM hn hk hbl ho hv n5 v L' q
  by_cases n6 : ((b.getD k 0).toNat : Int) = 92
  · rw [if_pos (.inr (.inr n6)), hof] at q; exact gB n M V L b o i k hi hM hn hk hbl ho hv n6 v L' q
  rw [if_neg (by rintro (a | a | a) <;> contradiction)] at q
  by_cases hp : 32 ≤ ((b.getD k 0).toNat : Int) ∧ ((b.getD k 0).toNat : Int) ≤ 126
  · by_cases h0 : 0 < k ∨ i = 0
    · have e : pl = true := by
        rw [← hpl, plA, opn]
        rcases h0 with h0 | h0
        · simp [h0]
        · simp [h0]
      rw [e, if_pos ⟨rfl, hp⟩, hof] at q
      exact gC1 n M V L b o i k hi hM hn hk hbl ho hv n1 n2 n3 n4 n5 n6 hp h0 v L' q
    · have hk0 : k = 0 := by omega
      have h1 : 0 < i := by omega
      cases h2 : ltrI (((V [i - 1]).getD 0 0).toNat : Int) with
      | false =>
        have e : pl = true := by rw [← hpl, plA, opn, h2]; simp
        rw [e, if_pos ⟨rfl, hp⟩, hof] at q
        exact gC2 n M V L b o i k hi hM hn hk hbl ho hv n1 n2 n3 n4 n5 n6 hp hk0 h1 h2 v L' q
      | true =>
        cases h3 : ltrI ((b.getD k 0).toNat : Int) with
        | true =>
          have e : pl = false := by rw [← hpl, plA, opn, h2, decide_eq_true h1, decide_eq_false (show ¬ 0 < k by omega), goI, h3]; rfl
          rw [e, if_neg (by rintro ⟨a, _⟩; cases a)] at q
          exact gX2 n M V L b o i k hi hM hn hk hbl ho hv n1 n2 n3 n4 n5 n6 hp hk0 h1 h2 h3 v L' q
        | false =>
          cases h4 : figI ((b.getD k 0).toNat : Int) with
          | true =>
            have e : pl = false := by rw [← hpl, plA, opn, h2, decide_eq_true h1, decide_eq_false (show ¬ 0 < k by omega), goI, h3, h4]; rfl
            rw [e, if_neg (by rintro ⟨a, _⟩; cases a)] at q
            exact gX3 n M V L b o i k hi hM hn hk hbl ho hv n1 n2 n3 n4 n5 n6 hp hk0 h1 h2 h3 h4 v L' q
          | false =>
            have e : pl = true := by rw [← hpl, plA, goI, h3, h4]; simp
            rw [e, if_pos ⟨rfl, hp⟩, hof] at q
            exact gC3 n M V L b o i k hi hM hn hk hbl ho hv n1 n2 n3 n4 n5 n6 hp hk0 h1 h3 h4 v L' q
  · rw [if_neg (by rintro ⟨_, a⟩; exact hp a)] at q
    have h3 : ltrI ((b.getD k 0).toNat : Int) = false := by
      cases h : ltrI ((b.getD k 0).toNat : Int) with
      | false => rfl
      | true => exact absurd (ltr_p h) hp
    have h4 : figI ((b.getD k 0).toNat : Int) = false := by
      cases h : figI ((b.getD k 0).toNat : Int) with
      | false => rfl
      | true => exact absurd (fig_p h) hp
    exact gX1 n M V L b o i k hi hM hn hk hbl ho hv n1 n2 n3 n4 n5 n6 hp h3 h4 v L' q
theorem gI' (n M : Nat) (V L : Ix → List UInt8) (b o : List UInt8) (i : Nat) (v : SV) (L' : HF) (hi : i < n) (hM : n ≤ M) (hn : n ≤ 100) (hbl : b.length ≤ 1000) (ho : o.length ≤ 800000) (hv : 0 < i → 0 < (V [i - 1]).length) (q : RunsTo Tryd.prog 23 (headOf Tryd.f23 0) (envAt Tryd.f23.ntmps ([(0, vL 61 2 n), (3, vS (o ++ tolds (opn V i) b b.length)), (9, vL 61 2 n), (10, vN n), (11, vN (i + 1 : Nat))])) (Sx.look (prX 61 M V L ++ ([]))) 80 (v) (L') 330) : RunsTo Tryd.prog 23 (headOf Tryd.f23 1) (envAt Tryd.f23.ntmps ([(0, vL 61 2 n), (3, vS (o)), (4, vN (i : Nat)), (5, vP 101), (6, vN (0 : Nat)), (9, vL 61 2 n), (10, vN n), (11, vN (i : Nat))])) (Sx.look (prX 61 M V L ++ ([⟨101, true, none, 2, .tc (.vs fun _ => []) (.tc (.vs fun _ => b) .t0)⟩]))) 80 (v) (L') 330 := by
  suffices z : ∀ (j k : Nat), k + j = b.length → RunsTo Tryd.prog 23 (headOf Tryd.f23 1) (envAt Tryd.f23.ntmps ([(0, vL 61 2 n), (3, vS (o ++ tolds (opn V i) b k)), (4, vN (i : Nat)), (5, vP 101), (6, vN (k : Nat)), (9, vL 61 2 n), (10, vN n), (11, vN (i : Nat))])) (Sx.look (prX 61 M V L ++ ([⟨101, true, none, 2, .tc (.vs fun _ => []) (.tc (.vs fun _ => b) .t0)⟩]))) 80 (v) (L') 330 from by have := z b.length 0 (by omega); rw [show o ++ tolds (opn V i) b 0 = o by simp [tolds]] at this; exact this
  intro j
  induction j with
  | zero =>
    intro k hk
    have e : k = b.length := by omega
    subst e
    exact gE n M V L b _ i _ hi hM hn rfl v L' q
  | succ j ih =>
    intro k hk
    have := tolds_len (opn V i) b k
    refine gT' n M V L b _ i k v L' hi hM hn (by omega) hbl (by rw [List.length_append]; omega) hv ?_
    have z := ih (k + 1) (by omega)
    rw [tolds, ← List.append_assoc o] at z
    exact z
def altB (V : Ix → List UInt8) (n : Nat) : Bool := (List.range n).all fun i => !(decide (0 < i) && (decide (V [i] = []) && decide (V [i - 1] = [])))
theorem rqT (n M : Nat) (V L : Ix → List UInt8) (hM : n ≤ M) (hn : n ≤ 100) (hb : lnB V L n = true) (ha : altB V n = true) : RunsTo Tryd.prog 23 [.code (bodyOf Tryd.f23)] (envOf [vL 61 2 n] Tryd.f23.ntmps) (Sx.look (prX 61 M V L ++ ([]))) 80 (vS (quoI n V L)) (Sx.look []) 330 := by
  have ha' : ∀ i, i < n → 0 < i → V [i] = [] → V [i - 1] ≠ [] := fun i hi h0 h1 h2 => by
    have := List.all_eq_true.1 ha i (List.mem_range.2 hi)
    rw [decide_eq_true h0, decide_eq_true h1, decide_eq_true h2] at this; cases this
  refine g0 n M V L hM hn _ _ ?_
  suffices z : ∀ (j i : Nat), i + j = n → RunsTo Tryd.prog 23 (headOf Tryd.f23 0) (envAt Tryd.f23.ntmps ([(0, vL 61 2 n), (3, vS ((quoA V L i).1)), (9, vL 61 2 n), (10, vN n), (11, vN (i : Nat))])) (Sx.look (prX 61 M V L ++ ([]))) 80 (vS (quoI n V L)) (Sx.look []) 330 from z n 0 (by omega)
  intro j
  induction j with
  | zero =>
    intro i hi
    have hl := quoA_len V L n hb i (by omega)
    have e : i = n := by omega
    subst e
    exact gZ i M V L _ _ rfl (by omega)
  | succ j ih =>
    intro i hi
    have hl := quoA_len V L n hb i (by omega)
    have hli := lnB_at hb (show i < n by omega)
    have z := ih (i + 1) (by omega)
    rw [quoA] at z
    by_cases h : V [i] ≠ []
    · rw [if_pos h] at z
      exact gV n M V L _ i (by omega) hM hn (by omega) hli.1 (List.length_pos_iff.2 h) _ _ z
    · rw [if_neg h] at z
      have h : V [i] = [] := by simpa using h
      refine gL n M V L (L [i]) _ i (by omega) hM hn h rfl _ _ ?_
      have eo : (quoA V L i).2 = opn V i := by
        cases i with
        | zero => rfl
        | succ i =>
          have hv : V [i] ≠ [] := ha' (i + 1) (by omega) (by omega) h
          rw [quoA, if_pos hv]; simp [opn]
      rw [eo] at z
      exact gI' n M V L (L [i]) _ i _ _ (by omega) hM hn hli.2 (by omega) (fun h0 => List.length_pos_iff.2 (ha' i (by omega) h0 h)) z
def rqTP : PC := { args := [.v (.vl 61 2 0)], heap := [⟨61, false, 2, .ta 4 (.tc (.vs 2) (.tc (.vs 3) .t0))⟩], gs := [], G := 23, tp := 213, n := 80, n' := 330, cond := fun e => decide (eN e 0 ≤ eN e 4) && (decide (eN e 0 ≤ 100) && (lnB (eS e 2) (eS e 3) (eN e 0) && altB (eS e 2) (eN e 0))), v := fun e => vS (quoI (eN e 0) (eS e 2) (eS e 3)), post := fun e => [] }
theorem rqTP_pc : PC.Runs Tryd.prog 23 Tryd.f23 (bodyOf Tryd.f23) rqTP := ⟨Tryd.func23, by kernel_rfl, (fun g hg => by first | (cases hg; done) | (revert g; show ∀ g ∈ ([] : List Nat), g < 23; decide)), fun e H hc => by
  have hc : (decide (eN e 0 ≤ eN e 4) && (decide (eN e 0 ≤ 100) && (lnB (eS e 2) (eS e 3) (eN e 0) && altB (eS e 2) (eN e 0)))) = true := hc
  try simp only [Bool.and_eq_true, decide_eq_true_eq, Nat.beq_eq] at hc
  exact rqT (eN e 0) (eN e 4) (eS e 2) (eS e 3) hc.1 hc.2.1 hc.2.2.1 hc.2.2.2⟩
end Go.Proofs.YtaleenklamognaaDoor

set_option linter.unusedSimpArgs false
set_option linter.unusedVariables false
set_option maxRecDepth 100000
namespace Go.Proofs.YtaleenklamognaaDoor
open Go.Sx

open WordR
def mkPq (v l : List UInt8) : Pc := ⟨v, l⟩
def eqQs (n : Nat) (V L V' L' : Ix → List UInt8) : Bool := (List.range n).all fun j => decide (V [j] = V' [j] ∧ L [j] = L' [j])
def lgB (V L : Ix → List UInt8) (n : Nat) : Bool := (List.range n).all fun j => decide ((V [j]).length ≤ 100 ∧ (L [j]).length ≤ 500)
def lgI (n : Nat) (V L : Ix → List UInt8) : Bool := decide (60 < n) || !lgB V L n

variable (L L2 : Ix → List UInt8) (M M2 : Nat) (V V2 : Ix → List UInt8) (i n n' : Nat)
abbrev qe1 := ((0 + (i : Int).toNat).blt M, true)
abbrev qe2 := (decide (0 ≤ (i : Int) ∧ (i : Int) < (n : Int)), true)
abbrev qe3 := V [0 + (i : Int).toNat] == V2 [0 + (i : Int).toNat] && (L [0 + (i : Int).toNat] == L2 [0 + (i : Int).toNat] && true)
abbrev qe4 := ((0 + (i : Int).toNat).blt M2, true)
abbrev qe5 := (decide ((i : Int) < (n : Int)), true)
abbrev qe6 := (decide (0 ≤ (i : Int) ∧ (i : Int) < (n' : Int)), true)
abbrev qe7 := false = false ∧ True
abbrev qe8 := Sx.look ([])
abbrev qe9 := Sx.look ((prX 61 M V L ++ prX 62 M2 V2 L2) ++ ([]))
abbrev qe10 := true = true ∧ True
abbrev qe11 := [(3, vP 121), (36, vL 61 2 n), (37, vN n), (38, vN (i : Nat))]
abbrev qe12 := [(0, vL 61 2 n), (1, vL 62 2 n'), (12, vN n), (13, vN (i : Nat))]
abbrev qe13 := (decide ((i : Int) < (n : Int)), false)
abbrev qe14 := 0 = 0 ∧ n = n
abbrev qe15 := (↑(0 : Nat) : Int)
set_option maxHeartbeats 4000000 in
theorem lg0 (n M : Nat) (V L : Ix → List UInt8) (h : 60 < n)  :
    (RunsTo Tryd.prog 20 [.code (bodyOf Tryd.f20)] (envOf [vL 61 2 n] Tryd.f20.ntmps) (Sx.look (prX 61 M V L ++ ([]))) 80 (YES) qe8 160) := by
  refine rEn baseO 300 (99) 900 80 (hI 1 1) ([]) [(decide ((n : Int) > 60), true)] qe10 (oc1 ?_ okn) ?_
  all_goals try dsimp only [qe10]
  all_goals exact sc47

set_option maxHeartbeats 4000000 in
theorem lg1 (n M : Nat) (V L : Ix → List UInt8) (h : n ≤ 60)  (v : SV) (L' : HF) (next : RunsTo Tryd.prog 20 (headOf Tryd.f20 0) (envAt Tryd.f20.ntmps ([(8, vL 61 2 n), (9, vN n), (10, vN (0 : Nat))])) (Sx.look (prX 61 M V L ++ ([]))) 80 (v) (L') 160) :
    RunsTo Tryd.prog 20 [.code (bodyOf Tryd.f20)] (envOf [vL 61 2 n] Tryd.f20.ntmps) (Sx.look (prX 61 M V L ++ ([]))) 80 (v) (L') 160 := by
  refine rMo baseO 300 (behind Tryd.f20 0) 900 80 (hI 1 0) ([]) [(decide ((n : Int) > 60), false)] (((qe14 n) ∧ (n : Int) = (n : Int) ∧ qe15 = (0 : Int)) ∧ True) next (oc1 ?_ okn) ?_
  all_goals clear next; try dsimp only [qe14, qe15]
  all_goals exact sc47

set_option maxHeartbeats 4000000 in
theorem lg2 (n M : Nat) (V L : Ix → List UInt8) (i : Nat) (hi : i < n) (hn : n ≤ 60) (hM : n ≤ M) (h1 : (V [i]).length ≤ 100) (h2 : (L [i]).length ≤ 500)  (v : SV) (L' : HF) (next : RunsTo Tryd.prog 20 (headOf Tryd.f20 0) (envAt Tryd.f20.ntmps ([(8, vL 61 2 n), (9, vN n), (10, vN (i + 1 : Nat))])) (Sx.look (prX 61 M V L ++ ([]))) 80 (v) (L') 160) :
    RunsTo Tryd.prog 20 (headOf Tryd.f20 0) (envAt Tryd.f20.ntmps ([(8, vL 61 2 n), (9, vN n), (10, vN (i : Nat))])) (Sx.look (prX 61 M V L ++ ([]))) 80 (v) (L') 160 := by
  have hw : IntKind.i64.wrap ((i : Int) + 1) = ((i + 1 : Nat) : Int) := by rw [wr64 (by omega)]; rfl
  have E' := hw
  refine rMo baseO 300 (behind Tryd.f20 0) 900 110 (hI 6 85) ([]) [(qe5 i n), (qe2 i n), (qe1 M i), (qe1 M i), (decide ((↑(V [0 + (i : Int).toNat]).length : Int) > 100), false), (decide ((↑(L [0 + (i : Int).toNat]).length : Int) > 500), false)] (((qe14 n) ∧ (n : Int) = (n : Int) ∧ (↑(i + (1 : Nat)) : Int) = IntKind.i64.wrap ((i : Int) + 1)) ∧ True) next (oc6 ?_ ?_ ?_ ?_ ?_ ?_ okn) ?_
  all_goals clear next; try dsimp only [qe5, qe2, qe1, qe14]
  all_goals exact sc41

set_option maxHeartbeats 4000000 in
theorem lg3 (n M : Nat) (V L : Ix → List UInt8) (i : Nat) (hi : i < n) (hn : n ≤ 60) (hM : n ≤ M) (h : ¬ ((V [i]).length ≤ 100 ∧ (L [i]).length ≤ 500))  :
    (RunsTo Tryd.prog 20 (headOf Tryd.f20 0) (envAt Tryd.f20.ntmps ([(8, vL 61 2 n), (9, vN n), (10, vN (i : Nat))])) (Sx.look (prX 61 M V L ++ ([]))) 80 (YES) qe8 160) := by
  have hw : IntKind.i64.wrap ((i : Int) + 1) = ((i + 1 : Nat) : Int) := by rw [wr64 (by omega)]; rfl
  have E' := hw
  refine bcase (fun gg0 => (rEn baseO 300 (99) 900 110 (hI 6 1109) ([]) [(qe5 i n), (qe2 i n), (qe1 M i), (qe1 M i), (decide ((↑(V [0 + (i : Int).toNat]).length : Int) > 100), false), (decide ((↑(L [0 + (i : Int).toNat]).length : Int) > 500), true)] qe10 (oc6 ?_ ?_ ?_ ?_ gg0 ?_ okn) ?_)) fun gg0 => (rEn baseO 300 (99) 900 110 (hI 5 341) ([]) [(qe5 i n), (qe2 i n), (qe1 M i), (qe1 M i), (decide ((↑(V [0 + (i : Int).toNat]).length : Int) > 100), true)] qe10 (oc5 ?_ ?_ ?_ ?_ gg0 okn) ?_)
  all_goals try dsimp only [qe5, qe2, qe1, qe10] at *
  all_goals exact sc41

set_option maxHeartbeats 4000000 in
theorem lg4 (n M : Nat) (V L : Ix → List UInt8) (i : Nat) (hi : i = n)  :
    (RunsTo Tryd.prog 20 (headOf Tryd.f20 0) (envAt Tryd.f20.ntmps ([(8, vL 61 2 n), (9, vN n), (10, vN (i : Nat))])) (Sx.look (prX 61 M V L ++ ([]))) 80 (vB false) qe8 160) := by
  refine rEn baseO 300 (99) 900 110 (hI 1 0) ([]) [(qe13 i n)] qe7 (oc1 ?_ okn) ?_
  all_goals try dsimp only [qe13, qe7]
  all_goals exact sc47

theorem lgT (n M : Nat) (V L : Ix → List UInt8) (hM : n ≤ M) : RunsTo Tryd.prog 20 [.code (bodyOf Tryd.f20)] (envOf [vL 61 2 n] Tryd.f20.ntmps) (Sx.look (prX 61 M V L ++ ([]))) 80 (vB (lgI n V L)) (Sx.look []) 160 := by
  by_cases h : 60 < n
  · have := lg0 n M V L h
    rw [lgI, decide_eq_true h, Bool.true_or]; exact this
  · refine lg1 n M V L (by omega) _ _ ?_
    rw [lgI, decide_eq_false h, Bool.false_or]
    suffices q : ∀ (k i : Nat), i + k = n → (∀ j, j < i → (V [j]).length ≤ 100 ∧ (L [j]).length ≤ 500) → RunsTo Tryd.prog 20 (headOf Tryd.f20 0) (envAt Tryd.f20.ntmps ([(8, vL 61 2 n), (9, vN n), (10, vN (i : Nat))])) (Sx.look (prX 61 M V L ++ ([]))) 80 (vB (!lgB V L n)) (Sx.look []) 160 from q n 0 (by omega) (fun j hj => by omega)
    intro k
    induction k with
    | zero =>
      intro i hi hall
      have ht : lgB V L n = true := List.all_eq_true.2 fun j hj => decide_eq_true (hall j (by have := List.mem_range.1 hj; omega))
      rw [ht]; exact lg4 n M V L i (by omega)
    | succ k ih =>
      intro i hi hall
      by_cases h1 : (V [i]).length ≤ 100 ∧ (L [i]).length ≤ 500
      · exact lg2 n M V L i (by omega) (by omega) hM h1.1 h1.2 _ _ (ih (i + 1) (by omega) (fun j hj => by
          by_cases e : j = i
          · rw [e]; exact h1
          · exact hall j (by omega)))
      · have ht : lgB V L n = false := by
          unfold lgB; rw [List.all_eq_false]; exact ⟨i, List.mem_range.2 (by omega), by simpa using h1⟩
        rw [ht]; exact lg3 n M V L i (by omega) (by omega) hM h1
def lgP : PC := { args := [.v (.vl 61 2 0)], heap := [⟨61, false, 2, .ta 4 (.tc (.vs 2) (.tc (.vs 3) .t0))⟩], gs := [], G := 23, tp := 213, n := 80, n' := 160, cond := fun e => decide (eN e 0 ≤ eN e 4), v := fun e => vB (lgI (eN e 0) (eS e 2) (eS e 3)), post := fun e => [] }
theorem lgP_pc : PC.Runs Tryd.prog 20 Tryd.f20 (bodyOf Tryd.f20) lgP := ⟨Tryd.func20, by kernel_rfl, (fun g hg => by first | (cases hg; done) | (revert g; show ∀ g ∈ ([] : List Nat), g < 23; decide)), fun e H hc => by
  have hc : (decide (eN e 0 ≤ eN e 4)) = true := hc
  try simp only [Bool.and_eq_true, decide_eq_true_eq, Nat.beq_eq] at hc
  exact lgT (eN e 0) (eN e 4) (eS e 2) (eS e 3) hc⟩

set_option maxHeartbeats 4000000 in
theorem pq0 (n M : Nat) (V L : Ix → List UInt8)  (v : SV) (L' : HF) (next : RunsTo Tryd.prog 21 (headOf Tryd.f21 0) (envAt Tryd.f21.ntmps ([(3, vL 101 2 (([] : List Pc)).length), (7, vL 61 2 n), (8, vN n), (9, vN (0 : Nat))])) (Sx.look (prX 61 M V L ++ (prE 101 (([] : List Pc))))) 80 (v) (L') 160) :
    RunsTo Tryd.prog 21 [.code (bodyOf Tryd.f21)] (envOf [vL 61 2 n] Tryd.f21.ntmps) (Sx.look (prX 61 M V L ++ ([]))) 80 (v) (L') 160 := by
  refine rMo baseO 300 (behind Tryd.f21 0) 900 80 (hI 0 0) ([((101 : Nat), Rn.to (80 : Nat))]) [] (((0 = 0 ∧ 0 = 0) ∧ (qe14 n) ∧ (n : Int) = (n : Int) ∧ qe15 = (0 : Int)) ∧ 0 = 0 ∧ (∀ (i : Nat), i < (0 : Nat) → prV [] [i] = []) ∧ ∀ (i : Nat), i < (0 : Nat) → prL [] [i] = []) next okn ?_
  all_goals clear next; try dsimp only [qe14, qe15]
  all_goals exact sc47

theorem pqs_succ (V L : Ix → List UInt8) (i : Nat) : pcsOf (i + 1) V L = pcsOf i V L ++ [mkPq (V [i]) (L [i])] := by
  simp [pcsOf, List.range_succ, mkPq]

set_option maxHeartbeats 4000000 in
theorem pq1 (n M : Nat) (V L : Ix → List UInt8) (P : List Pc) (i : Nat) (hi : i < n) (hM : n ≤ M) (hn : n ≤ 1000) (hPl : P.length = i)  (v : SV) (L' : HF) (next : RunsTo Tryd.prog 21 (headOf Tryd.f21 0) (envAt Tryd.f21.ntmps ([(3, vL 101 2 (P ++ [mkPq (V [i]) (L [i])]).length), (7, vL 61 2 n), (8, vN n), (9, vN (i + 1 : Nat))])) (Sx.look (prX 61 M V L ++ (prE 101 (P ++ [mkPq (V [i]) (L [i])])))) 80 (v) (L') 160) :
    RunsTo Tryd.prog 21 (headOf Tryd.f21 0) (envAt Tryd.f21.ntmps ([(3, vL 101 2 (P).length), (7, vL 61 2 n), (8, vN n), (9, vN (i : Nat))])) (Sx.look (prX 61 M V L ++ (prE 101 (P)))) 80 (v) (L') 160 := by
  have hw : IntKind.i64.wrap ((i : Int) + 1) = ((i + 1 : Nat) : Int) := by rw [wr64 (by omega)]; rfl
  have hap := pr_app P P.length (prV P) (prL P) (fun js => V [i]) (fun js => L [i]) (pcsOf_pr P).symm (mkPq (V [i]) (L [i])) rfl rfl
  have E' := hw
  refine rMo baseO 300 (behind Tryd.f21 0) 900 110 (hI 7 5973) ([((101 : Nat), Rn.to (112 : Nat))]) [(qe5 i n), (qe2 i n), (qe1 M i), (qe1 M i), ((0 + P.length).ble P.length, true), (decide (((2 : Nat) * (P.length + (1 : Nat)) + (192 : Nat)) * (32 : Nat) ≤ (281474976710656 : Nat)), true)] (((0 = 0 ∧ (P ++ [mkPq (V [i]) (L [i])]).length = P.length + (1 : Nat)) ∧ (qe14 n) ∧ (n : Int) = (n : Int) ∧ (↑(i + (1 : Nat)) : Int) = IntKind.i64.wrap ((i : Int) + 1)) ∧ (P ++ [mkPq (V [i]) (L [i])]).length = P.length + (1 : Nat) ∧ (∀ (i_1 : Nat), i_1 < (P ++ [mkPq (V [i]) (L [i])]).length → prV (P ++ [mkPq (V [i]) (L [i])]) [i_1] = appF P.length (0 : Nat) (prV P) (fun js => V ((0 + (i : Int).toNat) :: List.tail (subIx (0 : Nat) js))) [i_1]) ∧ ∀ (i_1 : Nat), i_1 < (P ++ [mkPq (V [i]) (L [i])]).length → prL (P ++ [mkPq (V [i]) (L [i])]) [i_1] = appF P.length (0 : Nat) (prL P) (fun js => L ((0 + (i : Int).toNat) :: List.tail (subIx (0 : Nat) js))) [i_1]) next (oc6 ?_ ?_ ?_ ?_ ?_ ?_ okn) ?_
  all_goals clear next; try dsimp only [qe5, qe2, qe1, qe14]
  all_goals exact sc51

set_option maxHeartbeats 4000000 in
theorem pq2 (n M : Nat) (V L : Ix → List UInt8) (P : List Pc) (i : Nat) (hi : i = n)  :
    (RunsTo Tryd.prog 21 (headOf Tryd.f21 0) (envAt Tryd.f21.ntmps ([(3, vL 101 2 (P).length), (7, vL 61 2 n), (8, vN n), (9, vN (i : Nat))])) (Sx.look (prX 61 M V L ++ (prE 101 (P)))) 80 (vL 141 2 P.length) (Sx.look (prE 141 P)) 160) := by
  refine rEn baseO 300 (99) 900 110 (hI 1 0) ([((141 : Nat), Rn.to (101 : Nat))]) [(qe13 i n)] ((0 = 0 ∧ P.length = P.length) ∧ P.length = P.length ∧ (∀ (i : Nat), i < P.length → prV P [i] = prV P [i]) ∧ ∀ (i : Nat), i < P.length → prL P [i] = prL P [i]) (oc1 ?_ okn) ?_
  all_goals try dsimp only [qe13]
  all_goals exact sc47

theorem pqT (n M : Nat) (V L : Ix → List UInt8) (hM : n ≤ M) (hn : n ≤ 1000) : RunsTo Tryd.prog 21 [.code (bodyOf Tryd.f21)] (envOf [vL 61 2 n] Tryd.f21.ntmps) (Sx.look (prX 61 M V L ++ ([]))) 80 (vL 141 2 (pcsOf n V L).length) (Sx.look (prE 141 (pcsOf n V L))) 160 := by
  refine pq0 n M V L _ _ ?_
  suffices q : ∀ (k i : Nat), i + k = n → RunsTo Tryd.prog 21 (headOf Tryd.f21 0) (envAt Tryd.f21.ntmps ([(3, vL 101 2 (pcsOf i V L).length), (7, vL 61 2 n), (8, vN n), (9, vN (i : Nat))])) (Sx.look (prX 61 M V L ++ (prE 101 (pcsOf i V L)))) 80 (vL 141 2 (pcsOf n V L).length) (Sx.look (prE 141 (pcsOf n V L))) 160 from q n 0 (by omega)
  intro k
  induction k with
  | zero => intro i hi; rw [show i = n by omega]; exact pq2 n M V L _ n rfl
  | succ k ih =>
    intro i hi
    have q := ih (i + 1) (by omega)
    rw [pqs_succ] at q
    exact pq1 n M V L _ i (by omega) hM hn (pcsOf_len _ _ _) _ _ q
def pqP : PC := { args := [.v (.vl 61 2 0)], heap := [⟨61, false, 2, .ta 4 (.tc (.vs 2) (.tc (.vs 3) .t0))⟩], gs := [], G := 23, tp := 213, n := 80, n' := 160, cond := fun e => decide (eN e 0 ≤ eN e 4) && decide (eN e 0 ≤ 1000), v := fun e => vL 141 2 (pcsOf (eN e 0) (eS e 2) (eS e 3)).length, post := fun e => prE 141 (pcsOf (eN e 0) (eS e 2) (eS e 3)) }
theorem pqP_pc : PC.Runs Tryd.prog 21 Tryd.f21 (bodyOf Tryd.f21) pqP := ⟨Tryd.func21, by kernel_rfl, (fun g hg => by first | (cases hg; done) | (revert g; show ∀ g ∈ ([] : List Nat), g < 23; decide)), fun e H hc => by
  have hc : (decide (eN e 0 ≤ eN e 4) && decide (eN e 0 ≤ 1000)) = true := hc
  try simp only [Bool.and_eq_true, decide_eq_true_eq, Nat.beq_eq] at hc
  exact pqT (eN e 0) (eN e 4) (eS e 2) (eS e 3) hc.1 hc.2⟩

set_option maxHeartbeats 4000000 in
theorem eq0 (n n' M M2 : Nat) (V L V2 L2 : Ix → List UInt8) (h : n ≠ n')  :
    (RunsTo Tryd.prog 60 [.code (bodyOf Tryd.f60)] (envOf [vL 61 2 n, vL 62 2 n'] Tryd.f60.ntmps) (qe9 L L2 M M2 V V2) 80 (vB false) qe8 160) := by
  refine rEn baseO 300 (99) 900 80 (hI 1 1) ([]) [((n : Int) != (n' : Int), true)] qe7 (oc1 ?_ okn) ?_
  all_goals try dsimp only [qe7]
  all_goals exact sc47

set_option maxHeartbeats 4000000 in
theorem eq1 (n n' M M2 : Nat) (V L V2 L2 : Ix → List UInt8) (e : n = n')  (v : SV) (L' : HF) (next : RunsTo Tryd.prog 60 (headOf Tryd.f60 0) (envAt Tryd.f60.ntmps ([(0, vL 61 2 n), (1, vL 62 2 n'), (12, vN n), (13, vN (0 : Nat))])) (Sx.look ((prX 61 M V L ++ prX 62 M2 V2 L2) ++ ([]))) 80 (v) (L') 160) :
    RunsTo Tryd.prog 60 [.code (bodyOf Tryd.f60)] (envOf [vL 61 2 n, vL 62 2 n'] Tryd.f60.ntmps) (Sx.look ((prX 61 M V L ++ prX 62 M2 V2 L2) ++ ([]))) 80 (v) (L') 160 := by
  refine rMo baseO 300 (behind Tryd.f60 0) 900 80 (hI 1 0) ([]) [((n : Int) != (n' : Int), false)] (((qe14 n) ∧ (0 = 0 ∧ n' = n') ∧ (n : Int) = (n : Int) ∧ qe15 = (0 : Int)) ∧ True) next (oc1 ?_ okn) ?_
  all_goals clear next; try dsimp only [qe14, qe15]
  all_goals exact sc47

set_option maxHeartbeats 4000000 in
theorem eq2 (n n' M M2 : Nat) (V L V2 L2 : Ix → List UInt8) (i : Nat) (hi : i < n) (hM : n ≤ M) (hM2 : n' ≤ M2) (hn : n ≤ 1000) (e : n = n') (h1 : V [i] = V2 [i]) (h2 : L [i] = L2 [i])  (v : SV) (L' : HF) (next : RunsTo Tryd.prog 60 (headOf Tryd.f60 0) (envAt Tryd.f60.ntmps ([(0, vL 61 2 n), (1, vL 62 2 n'), (12, vN n), (13, vN (i + 1 : Nat))])) (Sx.look ((prX 61 M V L ++ prX 62 M2 V2 L2) ++ ([]))) 80 (v) (L') 160) :
    RunsTo Tryd.prog 60 (headOf Tryd.f60 0) (envAt Tryd.f60.ntmps ([(0, vL 61 2 n), (1, vL 62 2 n'), (12, vN n), (13, vN (i : Nat))])) (Sx.look ((prX 61 M V L ++ prX 62 M2 V2 L2) ++ ([]))) 80 (v) (L') 160 := by
  have hw : IntKind.i64.wrap ((i : Int) + 1) = ((i + 1 : Nat) : Int) := by rw [wr64 (by omega)]; rfl
  have E' := (⟨hw, h1, h2⟩ : _ ∧ _ ∧ _)
  refine rMo baseO 300 (behind Tryd.f60 0) 900 110 (hI 8 5461) ([]) [(qe5 i n), (qe2 i n), (qe1 M i), (qe1 M i), (qe6 i n'), (qe4 M2 i), (qe4 M2 i), (!(qe3 L L2 V V2 i), false)] (((qe14 n) ∧ (0 = 0 ∧ n' = n') ∧ (n : Int) = (n : Int) ∧ (↑(i + (1 : Nat)) : Int) = IntKind.i64.wrap ((i : Int) + 1)) ∧ True) next (oc8 ?_ ?_ ?_ ?_ ?_ ?_ ?_ ?_ okn) ?_
  all_goals clear next; try dsimp only [qe5, qe2, qe1, qe6, qe4, qe3, qe14]
  all_goals exact sc41

set_option maxHeartbeats 4000000 in
theorem eq3 (n n' M M2 : Nat) (V L V2 L2 : Ix → List UInt8) (i : Nat) (hi : i < n) (hM : n ≤ M) (hM2 : n' ≤ M2) (hn : n ≤ 1000) (e : n = n') (h : V [i] ≠ V2 [i])  :
    (RunsTo Tryd.prog 60 (headOf Tryd.f60 0) (envAt Tryd.f60.ntmps (qe12 i n n')) (qe9 L L2 M M2 V V2) 80 (vB false) qe8 160) := by
  have hw : IntKind.i64.wrap ((i : Int) + 1) = ((i + 1 : Nat) : Int) := by rw [wr64 (by omega)]; rfl
  have E' := (⟨hw, h⟩ : _ ∧ _)
  refine rEn baseO 300 (99) 900 110 (hI 8 21845) ([]) [(qe5 i n), (qe2 i n), (qe1 M i), (qe1 M i), (qe6 i n'), (qe4 M2 i), (qe4 M2 i), (!(qe3 L L2 V V2 i), true)] qe7 (oc8 ?_ ?_ ?_ ?_ ?_ ?_ ?_ ?_ okn) ?_
  all_goals try dsimp only [qe5, qe2, qe1, qe6, qe4, qe3, qe7]
  all_goals exact sc41

set_option maxHeartbeats 4000000 in
theorem eq3b (n n' M M2 : Nat) (V L V2 L2 : Ix → List UInt8) (i : Nat) (hi : i < n) (hM : n ≤ M) (hM2 : n' ≤ M2) (hn : n ≤ 1000) (e : n = n') (h1 : V [i] = V2 [i]) (h : L [i] ≠ L2 [i])  :
    (RunsTo Tryd.prog 60 (headOf Tryd.f60 0) (envAt Tryd.f60.ntmps (qe12 i n n')) (qe9 L L2 M M2 V V2) 80 (vB false) qe8 160) := by
  have hw : IntKind.i64.wrap ((i : Int) + 1) = ((i + 1 : Nat) : Int) := by rw [wr64 (by omega)]; rfl
  have E' := (⟨hw, h1, h⟩ : _ ∧ _ ∧ _)
  refine rEn baseO 300 (99) 900 110 (hI 8 21845) ([]) [(qe5 i n), (qe2 i n), (qe1 M i), (qe1 M i), (qe6 i n'), (qe4 M2 i), (qe4 M2 i), (!(qe3 L L2 V V2 i), true)] qe7 (oc8 ?_ ?_ ?_ ?_ ?_ ?_ ?_ ?_ okn) ?_
  all_goals try dsimp only [qe5, qe2, qe1, qe6, qe4, qe3, qe7]
  all_goals exact sc41

set_option maxHeartbeats 4000000 in
theorem eq4 (n n' M M2 : Nat) (V L V2 L2 : Ix → List UInt8) (i : Nat) (hi : i = n)  :
    (RunsTo Tryd.prog 60 (headOf Tryd.f60 0) (envAt Tryd.f60.ntmps (qe12 i n n')) (qe9 L L2 M M2 V V2) 80 (YES) qe8 160) := by
  refine rEn baseO 300 (99) 900 110 (hI 1 0) ([]) [(qe13 i n)] qe10 (oc1 ?_ okn) ?_
  all_goals try dsimp only [qe13, qe10]
  all_goals exact sc47

theorem eqT (n n' M M2 : Nat) (V L V2 L2 : Ix → List UInt8) (hM : n ≤ M) (hM2 : n' ≤ M2) (hn : n ≤ 1000) : RunsTo Tryd.prog 60 [.code (bodyOf Tryd.f60)] (envOf [vL 61 2 n, vL 62 2 n'] Tryd.f60.ntmps) (Sx.look ((prX 61 M V L ++ prX 62 M2 V2 L2) ++ ([]))) 80 (vB (decide (n = n') && eqQs n V L V2 L2)) (Sx.look []) 160 := by
  by_cases h : n = n'
  · refine eq1 n n' M M2 V L V2 L2 h _ _ ?_
    rw [decide_eq_true h, Bool.true_and]
    suffices q : ∀ (k i : Nat), i + k = n → (∀ j, j < i → V [j] = V2 [j] ∧ L [j] = L2 [j]) → RunsTo Tryd.prog 60 (headOf Tryd.f60 0) (envAt Tryd.f60.ntmps ([(0, vL 61 2 n), (1, vL 62 2 n'), (12, vN n), (13, vN (i : Nat))])) (Sx.look ((prX 61 M V L ++ prX 62 M2 V2 L2) ++ ([]))) 80 (vB (eqQs n V L V2 L2)) (Sx.look []) 160 from q n 0 (by omega) (fun j hj => by omega)
    intro k
    induction k with
    | zero =>
      intro i hi hall
      have ht : eqQs n V L V2 L2 = true := List.all_eq_true.2 fun j hj => decide_eq_true (hall j (by have := List.mem_range.1 hj; omega))
      rw [ht]; exact eq4 n n' M M2 V L V2 L2 i (by omega)
    | succ k ih =>
      intro i hi hall
      by_cases h1 : V [i] = V2 [i] ∧ L [i] = L2 [i]
      · exact eq2 n n' M M2 V L V2 L2 i (by omega) hM hM2 hn h h1.1 h1.2 _ _ (ih (i + 1) (by omega) (fun j hj => by
          by_cases e : j = i
          · rw [e]; exact h1
          · exact hall j (by omega)))
      · have ht : eqQs n V L V2 L2 = false := by
          unfold eqQs; rw [List.all_eq_false]; exact ⟨i, List.mem_range.2 (by omega), by simpa using h1⟩
        rw [ht]
        by_cases h2 : V [i] = V2 [i]
        · have h3 : L [i] ≠ L2 [i] := fun c => h1 ⟨h2, c⟩
          exact eq3b n n' M M2 V L V2 L2 i (by omega) hM hM2 hn h h2 h3
        · exact eq3 n n' M M2 V L V2 L2 i (by omega) hM hM2 hn h h2
  · rw [decide_eq_false h, Bool.false_and]; exact eq0 n n' M M2 V L V2 L2 h
def eqP : PC := { args := [.v (.vl 61 2 3), .v (.vl 62 2 8)], heap := [⟨61, false, 2, .ta 10 (.tc (.vs 11) (.tc (.vs 12) .t0))⟩, ⟨62, false, 2, .ta 13 (.tc (.vs 14) (.tc (.vs 15) .t0))⟩], gs := [], G := 23, tp := 213, n := 80, n' := 160, cond := fun e => decide (eN e 3 ≤ eN e 10) && (decide (eN e 8 ≤ eN e 13) && decide (eN e 3 ≤ 1000)), v := fun e => vB (decide (eN e 3 = eN e 8) && eqQs (eN e 3) (eS e 11) (eS e 12) (eS e 14) (eS e 15)), post := fun e => [] }
theorem eqP_pc : PC.Runs Tryd.prog 60 Tryd.f60 (bodyOf Tryd.f60) eqP := ⟨Tryd.func60, by kernel_rfl, (fun g hg => by first | (cases hg; done) | (revert g; show ∀ g ∈ ([] : List Nat), g < 23; decide)), fun e H hc => by
  have hc : (decide (eN e 3 ≤ eN e 10) && (decide (eN e 8 ≤ eN e 13) && decide (eN e 3 ≤ 1000))) = true := hc
  try simp only [Bool.and_eq_true, decide_eq_true_eq, Nat.beq_eq] at hc
  exact eqT (eN e 3) (eN e 8) (eN e 10) (eN e 13) (eS e 11) (eS e 12) (eS e 14) (eS e 15) hc.1 hc.2.1 hc.2.2⟩
def sumsQS : List (FuncId × Summ) := [(60, eqP.summ 46)]
theorem baseQS : Base0 Tryd.prog sumsQS := (baseO.cons Tryd.func60 (by kernel_rfl) (PC.summ_ok eqP_pc gtopG))

set_option maxHeartbeats 4000000 in
theorem wsT (k k' : Int) (x x' : List UInt8) (m m' p q : Int) (n n' M M2 : Nat) (V L V2 L2 : Ix → List UInt8) (hM : n ≤ M) (hM2 : n' ≤ M2) (hn : n ≤ 1000) (hn' : n' ≤ 1000)  :
    (RunsTo Tryd.prog 19 [.code (bodyOf Tryd.f19)] (envOf [.agg (.tc (.vi .i64 fun _ => k) (.tc (.vs fun _ => x) (.tc (.vi .i64 fun _ => m) (.tc (.vl 61 (fun _ => 0) 2 [] (fun _ => n)) (.tc (.vi .i64 fun _ => p) .t0))))), .agg (.tc (.vi .i64 fun _ => k') (.tc (.vs fun _ => x') (.tc (.vi .i64 fun _ => m') (.tc (.vl 62 (fun _ => 0) 2 [] (fun _ => n')) (.tc (.vi .i64 fun _ => q) .t0)))))] Tryd.f19.ntmps) (qe9 L L2 M M2 V V2) 80 (vB (decide (k = k') && (decide (x = x') && (decide (m = m') && (decide (n = n') && eqQs n V L V2 L2))))) qe8 190) := by
  refine bcase (fun gg0 => (rEn baseQS 300 (99) 900 80 (hI 1 0) ([]) [(k == k', false)] ((decide (k = k') && (decide (x = x') && (decide (m = m') && (decide (n = n') && eqQs n V L V2 L2)))) = false ∧ True) (oc1 gg0 okn) ?_)) fun gg0 => (bcase (fun gg1 => (rEn baseQS 300 (99) 900 80 (hI 2 1) ([]) [(k == k', true), (x == x', false)] ((decide (k = k') && (decide (x = x') && (decide (m = m') && (decide (n = n') && eqQs n V L V2 L2)))) = false ∧ True) (oc2 gg0 gg1 okn) ?_)) fun gg1 => (bcase (fun gg2 => (rEn baseQS 300 (99) 900 80 (hI 3 5) ([]) [(k == k', true), (x == x', true), (m == m', false)] ((decide (k = k') && (decide (x = x') && (decide (m = m') && (decide (n = n') && eqQs n V L V2 L2)))) = false ∧ True) (oc3 gg0 gg1 gg2 okn) ?_)) fun gg2 => (rEn baseQS 300 (99) 900 80 (hI 4 85) ([]) [(k == k', true), (x == x', true), (m == m', true), (decide (n ≤ M) && (decide (n' ≤ M2) && decide (n ≤ (1000 : Nat))), true)] ((decide (k = k') && (decide (x = x') && (decide (m = m') && (decide (n = n') && eqQs n V L V2 L2)))) = (decide (n = n') && eqQs n V L V2 L2) ∧ True) (oc4 gg0 gg1 gg2 ?_ okn) ?_)))
  all_goals exact sc52

def wsP : PC := { args := [.agg (.tc (.vi .i64 0) (.tc (.vs 1) (.tc (.vi .i64 2) (.tc (.vl 61 2 3) (.tc (.vi .i64 4) .t0))))), .agg (.tc (.vi .i64 5) (.tc (.vs 6) (.tc (.vi .i64 7) (.tc (.vl 62 2 8) (.tc (.vi .i64 9) .t0)))))], heap := [⟨61, false, 2, .ta 10 (.tc (.vs 11) (.tc (.vs 12) .t0))⟩, ⟨62, false, 2, .ta 13 (.tc (.vs 14) (.tc (.vs 15) .t0))⟩], gs := [], G := 23, tp := 213, n := 80, n' := 190, cond := fun e => decide (eN e 3 ≤ eN e 10) && (decide (eN e 8 ≤ eN e 13) && (decide (eN e 3 ≤ 1000) && decide (eN e 8 ≤ 1000))), v := fun e => vB (decide (eI e 0 [] = eI e 5 []) && (decide (eS e 1 [] = eS e 6 []) && (decide (eI e 2 [] = eI e 7 []) && (decide (eN e 3 = eN e 8) && eqQs (eN e 3) (eS e 11) (eS e 12) (eS e 14) (eS e 15))))), post := fun e => [] }
theorem wsP_pc : PC.Runs Tryd.prog 19 Tryd.f19 (bodyOf Tryd.f19) wsP := ⟨Tryd.func19, by kernel_rfl, (fun g hg => by first | (cases hg; done) | (revert g; show ∀ g ∈ ([] : List Nat), g < 23; decide)), fun e H hc => by
  have hc : (decide (eN e 3 ≤ eN e 10) && (decide (eN e 8 ≤ eN e 13) && (decide (eN e 3 ≤ 1000) && decide (eN e 8 ≤ 1000)))) = true := hc
  try simp only [Bool.and_eq_true, decide_eq_true_eq, Nat.beq_eq] at hc
  exact wsT (eI e 0 []) (eI e 5 []) (eS e 1 []) (eS e 6 []) (eI e 2 []) (eI e 7 []) (eI e 4 []) (eI e 9 []) (eN e 3) (eN e 8) (eN e 10) (eN e 13) (eS e 11) (eS e 12) (eS e 14) (eS e 15) hc.1 hc.2.1 hc.2.2.1 hc.2.2.2⟩

set_option maxHeartbeats 4000000 in
theorem sr0 (k k' : Int) (x x' : List UInt8) (m m' p q : Int) (n n' M M2 : Nat) (V L V2 L2 : Ix → List UInt8) (hM : n ≤ M) (hM2 : n' ≤ M2) (hn : n ≤ 1000) (hn' : n' ≤ 1000) (h : k ≠ k')  :
    (RunsTo Tryd.prog 18 [.code (bodyOf Tryd.f18)] (envOf [.agg (.tc (.vi .i64 fun _ => k) (.tc (.vs fun _ => x) (.tc (.vi .i64 fun _ => m) (.tc (.vl 61 (fun _ => 0) 2 [] (fun _ => n)) (.tc (.vi .i64 fun _ => p) .t0))))), .agg (.tc (.vi .i64 fun _ => k') (.tc (.vs fun _ => x') (.tc (.vi .i64 fun _ => m') (.tc (.vl 62 (fun _ => 0) 2 [] (fun _ => n')) (.tc (.vi .i64 fun _ => q) .t0)))))] Tryd.f18.ntmps) (qe9 L L2 M M2 V V2) 80 (vB false) qe8 190) := by
  refine rEn baseO 300 (99) 900 80 (hI 1 1) ([]) [(k != k', true)] qe7 (oc1 ?_ okn) ?_
  all_goals try dsimp only [qe7]
  all_goals exact sc47

set_option maxHeartbeats 4000000 in
theorem sr0b (k k' : Int) (x x' : List UInt8) (m m' p q : Int) (n n' M M2 : Nat) (V L V2 L2 : Ix → List UInt8) (hM : n ≤ M) (hM2 : n' ≤ M2) (hn : n ≤ 1000) (hn' : n' ≤ 1000) (h1 : k = k') (h : x ≠ x')  :
    (RunsTo Tryd.prog 18 [.code (bodyOf Tryd.f18)] (envOf [.agg (.tc (.vi .i64 fun _ => k) (.tc (.vs fun _ => x) (.tc (.vi .i64 fun _ => m) (.tc (.vl 61 (fun _ => 0) 2 [] (fun _ => n)) (.tc (.vi .i64 fun _ => p) .t0))))), .agg (.tc (.vi .i64 fun _ => k') (.tc (.vs fun _ => x') (.tc (.vi .i64 fun _ => m') (.tc (.vl 62 (fun _ => 0) 2 [] (fun _ => n')) (.tc (.vi .i64 fun _ => q) .t0)))))] Tryd.f18.ntmps) (qe9 L L2 M M2 V V2) 80 (vB false) qe8 190) := by
  have E' := (⟨h1, h⟩ : _ ∧ _)
  refine rEn baseO 300 (99) 900 80 (hI 2 4) ([]) [(k != k', false), (!x == x', true)] qe7 (oc2 ?_ ?_ okn) ?_
  all_goals try dsimp only [qe7]
  all_goals exact sc41

set_option maxHeartbeats 4000000 in
theorem sr0c (k k' : Int) (x x' : List UInt8) (m m' p q : Int) (n n' M M2 : Nat) (V L V2 L2 : Ix → List UInt8) (hM : n ≤ M) (hM2 : n' ≤ M2) (hn : n ≤ 1000) (hn' : n' ≤ 1000) (h1 : k = k') (h2 : x = x') (h : m ≠ m')  :
    (RunsTo Tryd.prog 18 [.code (bodyOf Tryd.f18)] (envOf [.agg (.tc (.vi .i64 fun _ => k) (.tc (.vs fun _ => x) (.tc (.vi .i64 fun _ => m) (.tc (.vl 61 (fun _ => 0) 2 [] (fun _ => n)) (.tc (.vi .i64 fun _ => p) .t0))))), .agg (.tc (.vi .i64 fun _ => k') (.tc (.vs fun _ => x') (.tc (.vi .i64 fun _ => m') (.tc (.vl 62 (fun _ => 0) 2 [] (fun _ => n')) (.tc (.vi .i64 fun _ => q) .t0)))))] Tryd.f18.ntmps) (qe9 L L2 M M2 V V2) 80 (vB false) qe8 190) := by
  have E' := (⟨h1, h2, h⟩ : _ ∧ _ ∧ _)
  refine rEn baseO 300 (99) 900 80 (hI 3 16) ([]) [(k != k', false), (!x == x', false), (m != m', true)] qe7 (oc3 ?_ ?_ ?_ okn) ?_
  all_goals try dsimp only [qe7]
  all_goals exact sc41

set_option maxHeartbeats 4000000 in
theorem sr0d (k k' : Int) (x x' : List UInt8) (m m' p q : Int) (n n' M M2 : Nat) (V L V2 L2 : Ix → List UInt8) (hM : n ≤ M) (hM2 : n' ≤ M2) (hn : n ≤ 1000) (hn' : n' ≤ 1000) (h1 : k = k') (h2 : x = x') (h3 : m = m') (h : n ≠ n')  :
    (RunsTo Tryd.prog 18 [.code (bodyOf Tryd.f18)] (envOf [.agg (.tc (.vi .i64 fun _ => k) (.tc (.vs fun _ => x) (.tc (.vi .i64 fun _ => m) (.tc (.vl 61 (fun _ => 0) 2 [] (fun _ => n)) (.tc (.vi .i64 fun _ => p) .t0))))), .agg (.tc (.vi .i64 fun _ => k') (.tc (.vs fun _ => x') (.tc (.vi .i64 fun _ => m') (.tc (.vl 62 (fun _ => 0) 2 [] (fun _ => n')) (.tc (.vi .i64 fun _ => q) .t0)))))] Tryd.f18.ntmps) (qe9 L L2 M M2 V V2) 80 (vB false) qe8 190) := by
  have E' := (⟨h1, h2, h3, h⟩ : _ ∧ _ ∧ _ ∧ _)
  refine rEn baseO 300 (99) 900 80 (hI 4 64) ([]) [(k != k', false), (!x == x', false), (m != m', false), ((n : Int) != (n' : Int), true)] qe7 (oc4 ?_ ?_ ?_ ?_ okn) ?_
  all_goals try dsimp only [qe7]
  all_goals exact sc41

set_option maxHeartbeats 4000000 in
theorem sr1 (k k' : Int) (x x' : List UInt8) (m m' p q : Int) (n n' M M2 : Nat) (V L V2 L2 : Ix → List UInt8) (hk : k = k') (hx : x = x') (hm : m = m') (e : n = n')  (v : SV) (L' : HF) (next : RunsTo Tryd.prog 18 (headOf Tryd.f18 0) (envAt Tryd.f18.ntmps ([(3, vP 121), (36, vL 61 2 n), (37, vN n), (38, vN (0 : Nat))])) (Sx.look ((prX 61 M V L ++ prX 62 M2 V2 L2) ++ ([⟨121, true, none, 5, .tc (.vi .i64 fun _ => k') (.tc (.vs fun _ => x') (.tc (.vi .i64 fun _ => m') (.tc (.vl 62 (fun _ => 0) 2 [] (fun _ => n')) (.tc (.vi .i64 fun _ => q) .t0))))⟩]))) 80 (v) (L') 190) :
    RunsTo Tryd.prog 18 [.code (bodyOf Tryd.f18)] (envOf [.agg (.tc (.vi .i64 fun _ => k) (.tc (.vs fun _ => x) (.tc (.vi .i64 fun _ => m) (.tc (.vl 61 (fun _ => 0) 2 [] (fun _ => n)) (.tc (.vi .i64 fun _ => p) .t0))))), .agg (.tc (.vi .i64 fun _ => k') (.tc (.vs fun _ => x') (.tc (.vi .i64 fun _ => m') (.tc (.vl 62 (fun _ => 0) 2 [] (fun _ => n')) (.tc (.vi .i64 fun _ => q) .t0)))))] Tryd.f18.ntmps) (Sx.look ((prX 61 M V L ++ prX 62 M2 V2 L2) ++ ([]))) 80 (v) (L') 190 := by
  refine rMo baseO 300 (behind Tryd.f18 0) 900 80 (hI 4 0) ([((121 : Nat), Rn.to (81 : Nat))]) [(k != k', false), (!x == x', false), (m != m', false), ((n : Int) != (n' : Int), false)] ((0 = 0 ∧ (qe14 n) ∧ (n : Int) = (n : Int) ∧ qe15 = (0 : Int)) ∧ k' = k' ∧ x' = x' ∧ m' = m' ∧ (0 = 0 ∧ n' = n') ∧ q = q) next (oc4 ?_ ?_ ?_ ?_ okn) ?_
  all_goals clear next; try dsimp only [qe14, qe15]
  all_goals exact sc47

set_option maxHeartbeats 4000000 in
theorem sr2 (k k' : Int) (x x' : List UInt8) (m m' p q : Int) (n n' M M2 : Nat) (V L V2 L2 : Ix → List UInt8) (i : Nat) (hi : i < n) (hM : n ≤ M) (hM2 : n' ≤ M2) (hn : n ≤ 1000) (hn' : n' ≤ 1000) (e : n = n') (h1 : V [i] = V2 [i]) (h2 : L [i] = L2 [i])  (v : SV) (L' : HF) (next : RunsTo Tryd.prog 18 (headOf Tryd.f18 0) (envAt Tryd.f18.ntmps ([(3, vP 121), (36, vL 61 2 n), (37, vN n), (38, vN (i + 1 : Nat))])) (Sx.look ((prX 61 M V L ++ prX 62 M2 V2 L2) ++ ([⟨121, true, none, 5, .tc (.vi .i64 fun _ => k') (.tc (.vs fun _ => x') (.tc (.vi .i64 fun _ => m') (.tc (.vl 62 (fun _ => 0) 2 [] (fun _ => n')) (.tc (.vi .i64 fun _ => q) .t0))))⟩]))) 80 (v) (L') 190) :
    RunsTo Tryd.prog 18 (headOf Tryd.f18 0) (envAt Tryd.f18.ntmps ([(3, vP 121), (36, vL 61 2 n), (37, vN n), (38, vN (i : Nat))])) (Sx.look ((prX 61 M V L ++ prX 62 M2 V2 L2) ++ ([⟨121, true, none, 5, .tc (.vi .i64 fun _ => k') (.tc (.vs fun _ => x') (.tc (.vi .i64 fun _ => m') (.tc (.vl 62 (fun _ => 0) 2 [] (fun _ => n')) (.tc (.vi .i64 fun _ => q) .t0))))⟩]))) 80 (v) (L') 190 := by
  have hw : IntKind.i64.wrap ((i : Int) + 1) = ((i + 1 : Nat) : Int) := by rw [wr64 (by omega)]; rfl
  have E' := (⟨hw, h1, h2⟩ : _ ∧ _ ∧ _)
  refine rMo baseO 300 (behind Tryd.f18 0) 900 130 (hI 8 5461) ([]) [(qe5 i n), (qe2 i n), (qe1 M i), (qe1 M i), (qe6 i n'), (qe4 M2 i), (qe4 M2 i), (!(qe3 L L2 V V2 i), false)] ((0 = 0 ∧ (qe14 n) ∧ (n : Int) = (n : Int) ∧ (↑(i + (1 : Nat)) : Int) = IntKind.i64.wrap ((i : Int) + 1)) ∧ k' = k' ∧ x' = x' ∧ m' = m' ∧ (0 = 0 ∧ n' = n') ∧ q = q) next (oc8 ?_ ?_ ?_ ?_ ?_ ?_ ?_ ?_ okn) ?_
  all_goals clear next; try dsimp only [qe5, qe2, qe1, qe6, qe4, qe3, qe14]
  all_goals exact sc41

set_option maxHeartbeats 4000000 in
theorem sr3 (k k' : Int) (x x' : List UInt8) (m m' p q : Int) (n n' M M2 : Nat) (V L V2 L2 : Ix → List UInt8) (i : Nat) (hi : i < n) (hM : n ≤ M) (hM2 : n' ≤ M2) (hn : n ≤ 1000) (hn' : n' ≤ 1000) (e : n = n') (h : V [i] ≠ V2 [i])  :
    (RunsTo Tryd.prog 18 (headOf Tryd.f18 0) (envAt Tryd.f18.ntmps (qe11 i n)) (Sx.look ((prX 61 M V L ++ prX 62 M2 V2 L2) ++ ([⟨121, true, none, 5, .tc (.vi .i64 fun _ => k') (.tc (.vs fun _ => x') (.tc (.vi .i64 fun _ => m') (.tc (.vl 62 (fun _ => 0) 2 [] (fun _ => n')) (.tc (.vi .i64 fun _ => q) .t0))))⟩]))) 80 (vB false) qe8 190) := by
  have hw : IntKind.i64.wrap ((i : Int) + 1) = ((i + 1 : Nat) : Int) := by rw [wr64 (by omega)]; rfl
  have E' := (⟨hw, h⟩ : _ ∧ _)
  refine rEn baseO 300 (99) 900 130 (hI 8 21845) ([]) [(qe5 i n), (qe2 i n), (qe1 M i), (qe1 M i), (qe6 i n'), (qe4 M2 i), (qe4 M2 i), (!(qe3 L L2 V V2 i), true)] qe7 (oc8 ?_ ?_ ?_ ?_ ?_ ?_ ?_ ?_ okn) ?_
  all_goals try dsimp only [qe5, qe2, qe1, qe6, qe4, qe3, qe7]
  all_goals exact sc41

set_option maxHeartbeats 4000000 in
theorem sr3b (k k' : Int) (x x' : List UInt8) (m m' p q : Int) (n n' M M2 : Nat) (V L V2 L2 : Ix → List UInt8) (i : Nat) (hi : i < n) (hM : n ≤ M) (hM2 : n' ≤ M2) (hn : n ≤ 1000) (hn' : n' ≤ 1000) (e : n = n') (h1 : V [i] = V2 [i]) (h : L [i] ≠ L2 [i])  :
    (RunsTo Tryd.prog 18 (headOf Tryd.f18 0) (envAt Tryd.f18.ntmps (qe11 i n)) (Sx.look ((prX 61 M V L ++ prX 62 M2 V2 L2) ++ ([⟨121, true, none, 5, .tc (.vi .i64 fun _ => k') (.tc (.vs fun _ => x') (.tc (.vi .i64 fun _ => m') (.tc (.vl 62 (fun _ => 0) 2 [] (fun _ => n')) (.tc (.vi .i64 fun _ => q) .t0))))⟩]))) 80 (vB false) qe8 190) := by
  have hw : IntKind.i64.wrap ((i : Int) + 1) = ((i + 1 : Nat) : Int) := by rw [wr64 (by omega)]; rfl
  have E' := (⟨hw, h1, h⟩ : _ ∧ _ ∧ _)
  refine rEn baseO 300 (99) 900 130 (hI 8 21845) ([]) [(qe5 i n), (qe2 i n), (qe1 M i), (qe1 M i), (qe6 i n'), (qe4 M2 i), (qe4 M2 i), (!(qe3 L L2 V V2 i), true)] qe7 (oc8 ?_ ?_ ?_ ?_ ?_ ?_ ?_ ?_ okn) ?_
  all_goals try dsimp only [qe5, qe2, qe1, qe6, qe4, qe3, qe7]
  all_goals exact sc41

set_option maxHeartbeats 4000000 in
theorem sr4 (k k' : Int) (x x' : List UInt8) (m m' p q : Int) (n n' M M2 : Nat) (V L V2 L2 : Ix → List UInt8) (i : Nat) (hi : i = n)  :
    (RunsTo Tryd.prog 18 (headOf Tryd.f18 0) (envAt Tryd.f18.ntmps (qe11 i n)) (Sx.look ((prX 61 M V L ++ prX 62 M2 V2 L2) ++ ([⟨121, true, none, 5, .tc (.vi .i64 fun _ => k') (.tc (.vs fun _ => x') (.tc (.vi .i64 fun _ => m') (.tc (.vl 62 (fun _ => 0) 2 [] (fun _ => n')) (.tc (.vi .i64 fun _ => q) .t0))))⟩]))) 80 (YES) qe8 190) := by
  refine rEn baseO 300 (99) 900 130 (hI 1 0) ([]) [(qe13 i n)] qe10 (oc1 ?_ okn) ?_
  all_goals try dsimp only [qe13, qe10]
  all_goals exact sc47

theorem srT (k k' : Int) (x x' : List UInt8) (m m' p q : Int) (n n' M M2 : Nat) (V L V2 L2 : Ix → List UInt8) (hM : n ≤ M) (hM2 : n' ≤ M2) (hn : n ≤ 1000) (hn' : n' ≤ 1000) : RunsTo Tryd.prog 18 [.code (bodyOf Tryd.f18)] (envOf [.agg (.tc (.vi .i64 fun _ => k) (.tc (.vs fun _ => x) (.tc (.vi .i64 fun _ => m) (.tc (.vl 61 (fun _ => 0) 2 [] (fun _ => n)) (.tc (.vi .i64 fun _ => p) .t0))))), .agg (.tc (.vi .i64 fun _ => k') (.tc (.vs fun _ => x') (.tc (.vi .i64 fun _ => m') (.tc (.vl 62 (fun _ => 0) 2 [] (fun _ => n')) (.tc (.vi .i64 fun _ => q) .t0)))))] Tryd.f18.ntmps) (Sx.look ((prX 61 M V L ++ prX 62 M2 V2 L2) ++ ([]))) 80 (vB (decide (k = k') && (decide (x = x') && (decide (m = m') && (decide (n = n') && eqQs n V L V2 L2))))) (Sx.look []) 190 := by
  by_cases h : k = k' ∧ x = x' ∧ m = m' ∧ n = n'
  · obtain ⟨e1, e2, e3, e4⟩ := h
    refine sr1 k k' x x' m m' p q n n' M M2 V L V2 L2 e1 e2 e3 e4 _ _ ?_
    rw [decide_eq_true e1, decide_eq_true e2, decide_eq_true e3, decide_eq_true e4, Bool.true_and, Bool.true_and, Bool.true_and, Bool.true_and]
    suffices q : ∀ (j0 i : Nat), i + j0 = n → (∀ j, j < i → V [j] = V2 [j] ∧ L [j] = L2 [j]) → RunsTo Tryd.prog 18 (headOf Tryd.f18 0) (envAt Tryd.f18.ntmps ([(3, vP 121), (36, vL 61 2 n), (37, vN n), (38, vN (i : Nat))])) (Sx.look ((prX 61 M V L ++ prX 62 M2 V2 L2) ++ ([⟨121, true, none, 5, .tc (.vi .i64 fun _ => k') (.tc (.vs fun _ => x') (.tc (.vi .i64 fun _ => m') (.tc (.vl 62 (fun _ => 0) 2 [] (fun _ => n')) (.tc (.vi .i64 fun _ => q) .t0))))⟩]))) 80 (vB (eqQs n V L V2 L2)) (Sx.look []) 190 from q n 0 (by omega) (fun j hj => by omega)
    intro j0
    induction j0 with
    | zero =>
      intro i hi hall
      have ht : eqQs n V L V2 L2 = true := List.all_eq_true.2 fun j hj => decide_eq_true (hall j (by have := List.mem_range.1 hj; omega))
      rw [ht]; exact sr4 k k' x x' m m' p q n n' M M2 V L V2 L2 i (by omega)
    | succ j0 ih =>
      intro i hi hall
      by_cases h1 : V [i] = V2 [i] ∧ L [i] = L2 [i]
      · exact sr2 k k' x x' m m' p q n n' M M2 V L V2 L2 i (by omega) hM hM2 hn hn' e4 h1.1 h1.2 _ _ (ih (i + 1) (by omega) (fun j hj => by
          by_cases e : j = i
          · rw [e]; exact h1
          · exact hall j (by omega)))
      · have ht : eqQs n V L V2 L2 = false := by
          unfold eqQs; rw [List.all_eq_false]; exact ⟨i, List.mem_range.2 (by omega), by simpa using h1⟩
        rw [ht]
        by_cases h2 : V [i] = V2 [i]
        · have h3 : L [i] ≠ L2 [i] := fun c => h1 ⟨h2, c⟩
          exact sr3b k k' x x' m m' p q n n' M M2 V L V2 L2 i (by omega) hM hM2 hn hn' e4 h2 h3
        · exact sr3 k k' x x' m m' p q n n' M M2 V L V2 L2 i (by omega) hM hM2 hn hn' e4 h2
  · rw [show (decide (k = k') && (decide (x = x') && (decide (m = m') && (decide (n = n') && eqQs n V L V2 L2)))) = false by
      rw [Bool.eq_false_iff]; intro c
      simp only [Bool.and_eq_true, decide_eq_true_eq] at c
      exact h ⟨c.1, c.2.1, c.2.2.1, c.2.2.2.1⟩]
    by_cases a1 : k = k'
    · by_cases a2 : x = x'
      · by_cases a3 : m = m'
        · exact sr0d k k' x x' m m' p q n n' M M2 V L V2 L2 hM hM2 hn hn' a1 a2 a3 (fun a4 => h ⟨a1, a2, a3, a4⟩)
        · exact sr0c k k' x x' m m' p q n n' M M2 V L V2 L2 hM hM2 hn hn' a1 a2 a3
      · exact sr0b k k' x x' m m' p q n n' M M2 V L V2 L2 hM hM2 hn hn' a1 a2
    · exact sr0 k k' x x' m m' p q n n' M M2 V L V2 L2 hM hM2 hn hn' a1
def srP : PC := { args := [.agg (.tc (.vi .i64 0) (.tc (.vs 1) (.tc (.vi .i64 2) (.tc (.vl 61 2 3) (.tc (.vi .i64 4) .t0))))), .agg (.tc (.vi .i64 5) (.tc (.vs 6) (.tc (.vi .i64 7) (.tc (.vl 62 2 8) (.tc (.vi .i64 9) .t0)))))], heap := [⟨61, false, 2, .ta 10 (.tc (.vs 11) (.tc (.vs 12) .t0))⟩, ⟨62, false, 2, .ta 13 (.tc (.vs 14) (.tc (.vs 15) .t0))⟩], gs := [], G := 23, tp := 213, n := 80, n' := 190, cond := fun e => decide (eN e 3 ≤ eN e 10) && (decide (eN e 8 ≤ eN e 13) && (decide (eN e 3 ≤ 1000) && decide (eN e 8 ≤ 1000))), v := fun e => vB (decide (eI e 0 [] = eI e 5 []) && (decide (eS e 1 [] = eS e 6 []) && (decide (eI e 2 [] = eI e 7 []) && (decide (eN e 3 = eN e 8) && eqQs (eN e 3) (eS e 11) (eS e 12) (eS e 14) (eS e 15))))), post := fun e => [] }
theorem srP_pc : PC.Runs Tryd.prog 18 Tryd.f18 (bodyOf Tryd.f18) srP := ⟨Tryd.func18, by kernel_rfl, (fun g hg => by first | (cases hg; done) | (revert g; show ∀ g ∈ ([] : List Nat), g < 23; decide)), fun e H hc => by
  have hc : (decide (eN e 3 ≤ eN e 10) && (decide (eN e 8 ≤ eN e 13) && (decide (eN e 3 ≤ 1000) && decide (eN e 8 ≤ 1000)))) = true := hc
  try simp only [Bool.and_eq_true, decide_eq_true_eq, Nat.beq_eq] at hc
  exact srT (eI e 0 []) (eI e 5 []) (eS e 1 []) (eS e 6 []) (eI e 2 []) (eI e 7 []) (eI e 4 []) (eI e 9 []) (eN e 3) (eN e 8) (eN e 10) (eN e 13) (eS e 11) (eS e 12) (eS e 14) (eS e 15) hc.1 hc.2.1 hc.2.2.1 hc.2.2.2⟩
def sumsAQ : List (FuncId × Summ) := [(14, spOkP.summ 46)]
theorem baseAQ : Base0 Tryd.prog sumsAQ := (baseO.cons Tryd.func14 (by kernel_rfl) (PC.summ_ok spOkP_pc gtopG))

set_option maxHeartbeats 4000000 in
theorem wapI (t0 t1 t2 : List UInt8)  :
    (RunsTo Tryd.prog 13 [.code (bodyOf Tryd.f13)] (envOf [] Tryd.f13.ntmps) (Sx.look (sentEnts 23 213 [(5, t0), (6, t1), (0, t2)] ++ ([]))) 80 (YES) qe8 12000) := by
  refine rEn baseAQ 400 (99) 900 80 (hI 28 72057594037927935) ([]) [] qe10 okn ?_
  all_goals try dsimp only [qe10]
  all_goals exact sc53

def wapP : PC := { args := [], heap := [], gs := [5, 6, 0], G := 23, tp := 213, n := 80, n' := 12000, cond := fun e => true, v := fun e => YES, post := fun e => [] }
theorem wapP_pc : PC.Runs Tryd.prog 13 Tryd.f13 (bodyOf Tryd.f13) wapP := ⟨Tryd.func13, by kernel_rfl, (fun g hg => by first | (cases hg; done) | (revert g; show ∀ g ∈ ([5, 6, 0] : List Nat), g < 23; decide)), fun e H hc => by
  have hc : (true) = true := hc
  try simp only [Bool.and_eq_true, decide_eq_true_eq, Nat.beq_eq] at hc
  exact wapI (textAt H 28) (textAt H 29) (textAt H 23)⟩
end Go.Proofs.YtaleenklamognaaDoor

set_option linter.unusedSimpArgs false
set_option linter.unusedVariables false
set_option maxRecDepth 100000
namespace Go.Proofs.YtaleenklamognaaDoor
open Go.Sx

open WordR
theorem all_rng {f g : Nat → Bool} {n : Nat} (h : ∀ i, i < n → f i = g i) : (List.range n).all f = (List.range n).all g := by
  rw [Bool.eq_iff_iff]; simp only [List.all_eq_true, List.mem_range]
  exact ⟨fun q i hi => by rw [← h i hi]; exact q i hi, fun q i hi => by rw [h i hi]; exact q i hi⟩
theorem pr_is {n i : Nat} {V L : Ix → List UInt8} (hi : i < n) : prV (pcsOf n V L) [i] = V [i] ∧ prL (pcsOf n V L) [i] = L [i] := by
  simp [prV, prL, pcsOf, List.getD_eq_getElem?_getD, List.getElem?_map, List.getElem?_range hi]
theorem rgt_rr (n : Nat) (V L : Ix → List UInt8) : rgtI n V L = rrI n V L := by
  rw [Bool.eq_iff_iff]
  unfold rgtI rrI
  rw [fits_ix]
  simp only [Bool.and_eq_true, decide_eq_true_eq, List.all_eq_true, List.mem_range, ixL_neg, Nat.zero_add, Nat.zero_le, true_implies]
  constructor
  · rintro ⟨h1, h2, h3⟩
    refine ⟨fun i hi => ?_, h2⟩
    have a := h1 i hi
    have b := h3 i hi
    unfold rgtAt at a
    unfold rrAt
    by_cases hv : V [i] ≠ []
    · rw [if_pos hv] at a
      simp only [Bool.and_eq_true, decide_eq_true_eq] at a
      simp [hv, a.1, a.2]
    · rw [if_neg hv] at a
      simp only [Bool.and_eq_true, decide_eq_true_eq, Bool.not_eq_true', Bool.and_eq_false_iff, decide_eq_false_iff_not] at a
      have hv' : V [i] = [] := by simpa using hv
      have hlj : ¬ (0 < i ∧ L [i - 1] ≠ []) := by
        rintro ⟨h0, hl⟩
        rcases a.2 with c | c
        · exact c h0
        · have d := h1 (i - 1) (by omega)
          unfold rgtAt at d
          rw [if_pos c] at d
          simp only [Bool.and_eq_true, decide_eq_true_eq] at d
          exact hl d.1
      simp only [hv', a.1, b, ne_eq, not_true_eq_false, decide_false, not_false_eq_true, decide_true, Bool.true_or, Bool.true_and]
      have : (decide (0 < i) && decide (L [i - 1] ≠ [])) = false := by
        rw [Bool.eq_false_iff]; intro c; simp only [Bool.and_eq_true, decide_eq_true_eq] at c; exact hlj c
      simp at this ⊢
      rcases Nat.eq_zero_or_pos i with z | z
      · exact .inl z
      · exact .inr (this z)
  · rintro ⟨h1, h2⟩
    have h4 : ∀ j, j < n → (L [j]).length ≤ 400 := fun j hj => by
      have := h1 j hj
      unfold rrAt at this
      simp only [Bool.and_eq_true, decide_eq_true_eq] at this
      exact this.2.2.1
    refine ⟨fun i hi => ?_, h2, h4⟩
    have a := h1 i hi
    unfold rrAt at a
    simp only [Bool.and_eq_true, decide_eq_true_eq, Bool.or_eq_true, Bool.not_eq_true', Bool.and_eq_false_iff, decide_eq_false_iff_not, bne_iff_ne, ne_eq] at a
    unfold rgtAt
    by_cases hv : V [i] = []
    · have hl : ¬ L [i] = [] := fun c => a.1 (by simp [hv, c])
      rw [if_neg (by simpa using hv)]
      simp only [Bool.and_eq_true, decide_eq_true_eq, Bool.not_eq_true', Bool.and_eq_false_iff, decide_eq_false_iff_not]
      refine ⟨hl, ?_⟩
      rcases Nat.eq_zero_or_pos i with h0 | h0
      · exact .inl (by omega)
      · refine .inr fun c => ?_
        have d := h1 (i - 1) (by omega)
        unfold rrAt at d
        simp only [Bool.and_eq_true, bne_iff_ne, ne_eq] at d
        have hj : ¬ L [i - 1] = [] := fun e => d.1 (by simp [c, e])
        rcases a.2.2.2 with e | e | e
        · omega
        · exact e hl
        · exact e hj
    · rw [if_pos hv]
      have hl : L [i] = [] := Classical.byContradiction fun c => a.1 (by simp [hv, c])
      have hm : namI (V [i]) = true := by
        rcases a.2.1 with c | c
        · exact absurd c hv
        · exact c
      simp [hl, hm]
def sameOn (n : Nat) (V L V' L' : Ix → List UInt8) : Prop := ∀ i, i < n → V' [i] = V [i] ∧ L' [i] = L [i]
theorem rr_on {n : Nat} {V L V' L' : Ix → List UInt8} (h : sameOn n V L V' L') : rrI n V' L' = rrI n V L := by
  unfold rrI
  rw [all_rng (g := rrAt V L) (fun i hi => by
    unfold rrAt
    rw [(h i hi).1, (h i hi).2]
    rcases Nat.eq_zero_or_pos i with h0 | h0
    · subst h0; simp
    · rw [(h (i - 1) (by omega)).2])]
theorem lnB_on {n : Nat} {V L V' L' : Ix → List UInt8} (h : sameOn n V L V' L') : lnB V' L' n = lnB V L n := all_rng fun i hi => by rw [(h i hi).1, (h i hi).2]
theorem alt_on {n : Nat} {V L V' L' : Ix → List UInt8} (h : sameOn n V L V' L') : altB V' n = altB V n := all_rng fun i hi => by
  rw [(h i hi).1]
  rcases Nat.eq_zero_or_pos i with h0 | h0
  · subst h0; rfl
  · rw [(h (i - 1) (by omega)).1]
theorem quoA_on {n : Nat} {V L V' L' : Ix → List UInt8} (h : sameOn n V L V' L') : ∀ i, i ≤ n → quoA V' L' i = quoA V L i
  | 0, _ => rfl
  | i + 1, hi => by
    have e := h i (by omega)
    rw [quoA, quoA, quoA_on h i (by omega), e.1, e.2]
theorem quo_on {n : Nat} {V L V' L' : Ix → List UInt8} (h : sameOn n V L V' L') : quoI n V' L' = quoI n V L := by unfold quoI; rw [quoA_on h n (Nat.le_refl _)]
theorem eq_on {n : Nat} {V L V' L' W K W' K' : Ix → List UInt8} (h : sameOn n V L V' L') (g : sameOn n W K W' K') : eqQs n V' L' W' K' = eqQs n V L W K := all_rng fun i hi => by rw [(h i hi).1, (h i hi).2, (g i hi).1, (g i hi).2]
theorem pr_on (n : Nat) (V L : Ix → List UInt8) : sameOn n V L (prV (pcsOf n V L)) (prL (pcsOf n V L)) := fun i hi => pr_is hi
theorem rgt_alt {n : Nat} {V L : Ix → List UInt8} (h : rgtI n V L = true) : altB V n = true := by
  unfold rgtI at h
  simp only [Bool.and_eq_true, List.all_eq_true, List.mem_range] at h
  refine List.all_eq_true.2 fun i hi => ?_
  have hi := List.mem_range.1 hi
  have a := h.1 i hi
  unfold rgtAt at a
  by_cases hv : V [i] = []
  · rw [if_neg (by simpa using hv)] at a
    simp only [Bool.and_eq_true] at a
    rw [decide_eq_true hv, Bool.true_and]
    exact a.2
  · rw [decide_eq_false hv]; simp
theorem lg_ln {n : Nat} {V L : Ix → List UInt8} (h : lgI n V L = false) : n ≤ 60 ∧ lnB V L n = true := by
  unfold lgI at h
  simp only [Bool.or_eq_false_iff, decide_eq_false_iff_not, Bool.not_eq_false'] at h
  refine ⟨by omega, List.all_eq_true.2 fun i hi => ?_⟩
  have := of_decide_eq_true (List.all_eq_true.1 h.2 i hi)
  exact decide_eq_true (by omega)
def wpS (t0 t1 t2 : List UInt8) : List Ent := sentEnts 23 213 [(5, t0), (0, t1), (6, t2)]
def sumsLP : List (FuncId × Summ) := [(13, wapP.summ 46), (20, lgP.summ 46), (21, pqP.summ 46), (22, rrP.summ 46), (23, rqTP.summ 46), (24, qgP.summ 46), (25, qtP.summ 46), (19, wsP.summ 46), (18, srP.summ 46)]
theorem baseLP : Base0 Tryd.prog sumsLP := (((((((((baseO.cons Tryd.func18 (by kernel_rfl) (PC.summ_ok srP_pc gtopG)).cons Tryd.func19 (by kernel_rfl) (PC.summ_ok wsP_pc gtopG)).cons Tryd.func25 (by kernel_rfl) (PC.summ_ok qtP_pc gtopG)).cons Tryd.func24 (by kernel_rfl) (PC.summ_ok qgP_pc gtopG)).cons Tryd.func23 (by kernel_rfl) (PC.summ_ok rqTP_pc gtopG)).cons Tryd.func22 (by kernel_rfl) (PC.summ_ok rrP_pc gtopG)).cons Tryd.func21 (by kernel_rfl) (PC.summ_ok pqP_pc gtopG)).cons Tryd.func20 (by kernel_rfl) (PC.summ_ok lgP_pc gtopG)).cons Tryd.func13 (by kernel_rfl) (PC.summ_ok wapP_pc gtopG))

variable (L LA LB V VA VB : Ix → List UInt8) (ka kb ma mb : Int) (n na nb : Nat) (xa xb : List UInt8)
abbrev qf1 := (decide ((pcsOf n V L).length ≤ (pcsOf n V L).length) && decide ((pcsOf n V L).length ≤ (1000 : Nat)), true)
abbrev qf2 := true = ((decide (ka = kb) && (decide (xa = xb) && (decide (ma = mb) && (decide (na = nb) && eqQs na VA LA VB LB)))) == (decide (ka = kb) && (decide (xa = xb) && (decide (ma = mb) && (decide ((pcsOf na VA LA).length = (pcsOf nb VB LB).length) && eqQs (pcsOf na VA LA).length (prV (pcsOf na VA LA)) (prL (pcsOf na VA LA)) (prV (pcsOf nb VB LB)) (prL (pcsOf nb VB LB))))))) ∧ True
abbrev qf3 := (decide (n ≤ n), true)
abbrev qf4 := (decide ((pcsOf na VA LA).length ≤ (pcsOf na VA LA).length) && (decide ((pcsOf nb VB LB).length ≤ (pcsOf nb VB LB).length) && (decide ((pcsOf na VA LA).length ≤ (1000 : Nat)) && decide ((pcsOf nb VB LB).length ≤ (1000 : Nat)))), true)
abbrev qf5 := (decide (na ≤ na) && (decide (nb ≤ nb) && (decide (na ≤ (1000 : Nat)) && decide (nb ≤ (1000 : Nat)))), true)
abbrev qf6 := true = true ∧ True
abbrev qf7 := (decide (na ≤ na), true)
abbrev qf8 := (decide (nb ≤ nb), true)
abbrev qf9 := Sx.look ([])
abbrev qf10 := (decide ((↑xa.length : Int) > 200), false)
set_option maxHeartbeats 4000000 in
theorem lp1 (t0 t1 t2 : List UInt8) (n : Nat) (V L : Ix → List UInt8) (ka : Int) (xa : List UInt8) (ma pa : Int) (na : Nat) (VA LA : Ix → List UInt8) (kb : Int) (xb : List UInt8) (mb pb : Int) (nb : Nat) (VB LB : Ix → List UInt8) (h : lgI n V L = true)  :
    (RunsTo Tryd.prog 5 [.code (bodyOf Tryd.f5)] (envOf [vL 100 2 n, .agg (.tc (.vi .i64 fun _ => ka) (.tc (.vs fun _ => xa) (.tc (.vi .i64 fun _ => ma) (.tc (.vl 101 (fun _ => 0) 2 [] (fun _ => na)) (.tc (.vi .i64 fun _ => pa) .t0))))), .agg (.tc (.vi .i64 fun _ => kb) (.tc (.vs fun _ => xb) (.tc (.vi .i64 fun _ => mb) (.tc (.vl 102 (fun _ => 0) 2 [] (fun _ => nb)) (.tc (.vi .i64 fun _ => pb) .t0)))))] Tryd.f5.ntmps) (Sx.look (wpS t0 t1 t2 ++ (prX 100 n V L ++ (prX 101 na VA LA ++ prX 102 nb VB LB)) ++ ([]))) 110 (YES) qf9 30000) := by
  have E' := h
  refine rEn baseLP 700 (99) 900 110 (hI 4 91) ([]) [(qf3 n), (lgI n V L, true)] qf6 (oc2 ?_ ?_ okn) ?_
  all_goals try dsimp only [qf3, qf6]
  all_goals exact sc54

set_option maxHeartbeats 4000000 in
theorem lp2 (t0 t1 t2 : List UInt8) (n : Nat) (V L : Ix → List UInt8) (ka : Int) (xa : List UInt8) (ma pa : Int) (na : Nat) (VA LA : Ix → List UInt8) (kb : Int) (xb : List UInt8) (mb pb : Int) (nb : Nat) (VB LB : Ix → List UInt8) (h1 : lgI n V L = false) (h : lgI na VA LA = true)  :
    (RunsTo Tryd.prog 5 [.code (bodyOf Tryd.f5)] (envOf [vL 100 2 n, .agg (.tc (.vi .i64 fun _ => ka) (.tc (.vs fun _ => xa) (.tc (.vi .i64 fun _ => ma) (.tc (.vl 101 (fun _ => 0) 2 [] (fun _ => na)) (.tc (.vi .i64 fun _ => pa) .t0))))), .agg (.tc (.vi .i64 fun _ => kb) (.tc (.vs fun _ => xb) (.tc (.vi .i64 fun _ => mb) (.tc (.vl 102 (fun _ => 0) 2 [] (fun _ => nb)) (.tc (.vi .i64 fun _ => pb) .t0)))))] Tryd.f5.ntmps) (Sx.look (wpS t0 t1 t2 ++ (prX 100 n V L ++ (prX 101 na VA LA ++ prX 102 nb VB LB)) ++ ([]))) 110 (YES) qf9 30000) := by
  have E' := (⟨h1, h⟩ : _ ∧ _)
  refine rEn baseLP 700 (99) 900 110 (hI 6 1307) ([]) [(qf3 n), (lgI n V L, false), (qf7 na), (lgI na VA LA, true)] qf6 (oc4 ?_ ?_ ?_ ?_ okn) ?_
  all_goals try dsimp only [qf3, qf7, qf6]
  all_goals exact sc54

set_option maxHeartbeats 4000000 in
theorem lp3 (t0 t1 t2 : List UInt8) (n : Nat) (V L : Ix → List UInt8) (ka : Int) (xa : List UInt8) (ma pa : Int) (na : Nat) (VA LA : Ix → List UInt8) (kb : Int) (xb : List UInt8) (mb pb : Int) (nb : Nat) (VB LB : Ix → List UInt8) (h1 : lgI n V L = false) (h2 : lgI na VA LA = false) (h : lgI nb VB LB = true)  :
    (RunsTo Tryd.prog 5 [.code (bodyOf Tryd.f5)] (envOf [vL 100 2 n, .agg (.tc (.vi .i64 fun _ => ka) (.tc (.vs fun _ => xa) (.tc (.vi .i64 fun _ => ma) (.tc (.vl 101 (fun _ => 0) 2 [] (fun _ => na)) (.tc (.vi .i64 fun _ => pa) .t0))))), .agg (.tc (.vi .i64 fun _ => kb) (.tc (.vs fun _ => xb) (.tc (.vi .i64 fun _ => mb) (.tc (.vl 102 (fun _ => 0) 2 [] (fun _ => nb)) (.tc (.vi .i64 fun _ => pb) .t0)))))] Tryd.f5.ntmps) (Sx.look (wpS t0 t1 t2 ++ (prX 100 n V L ++ (prX 101 na VA LA ++ prX 102 nb VB LB)) ++ ([]))) 110 (YES) qf9 30000) := by
  have E' := (⟨h1, h2, h⟩ : _ ∧ _ ∧ _)
  refine rEn baseLP 700 (99) 900 110 (hI 8 20763) ([]) [(qf3 n), (lgI n V L, false), (qf7 na), (lgI na VA LA, false), (qf8 nb), (lgI nb VB LB, true)] qf6 (oc6 ?_ ?_ ?_ ?_ ?_ ?_ okn) ?_
  all_goals try dsimp only [qf3, qf7, qf8, qf6]
  all_goals exact sc54

set_option maxHeartbeats 4000000 in
theorem lp4 (t0 t1 t2 : List UInt8) (n : Nat) (V L : Ix → List UInt8) (ka : Int) (xa : List UInt8) (ma pa : Int) (na : Nat) (VA LA : Ix → List UInt8) (kb : Int) (xb : List UInt8) (mb pb : Int) (nb : Nat) (VB LB : Ix → List UInt8) (h1 : lgI n V L = false) (h2 : lgI na VA LA = false) (h3 : lgI nb VB LB = false) (h : 200 < xa.length ∨ 200 < xb.length)  :
    (RunsTo Tryd.prog 5 [.code (bodyOf Tryd.f5)] (envOf [vL 100 2 n, .agg (.tc (.vi .i64 fun _ => ka) (.tc (.vs fun _ => xa) (.tc (.vi .i64 fun _ => ma) (.tc (.vl 101 (fun _ => 0) 2 [] (fun _ => na)) (.tc (.vi .i64 fun _ => pa) .t0))))), .agg (.tc (.vi .i64 fun _ => kb) (.tc (.vs fun _ => xb) (.tc (.vi .i64 fun _ => mb) (.tc (.vl 102 (fun _ => 0) 2 [] (fun _ => nb)) (.tc (.vi .i64 fun _ => pb) .t0)))))] Tryd.f5.ntmps) (Sx.look (wpS t0 t1 t2 ++ (prX 100 n V L ++ (prX 101 na VA LA ++ prX 102 nb VB LB)) ++ ([]))) 110 (YES) qf9 30000) := by
  have E' := (⟨h1, h2, h3⟩ : _ ∧ _ ∧ _)
  refine bcase (fun gg0 => (rEn baseLP 700 (99) 900 110 (hI 10 266523) ([]) [(qf3 n), (lgI n V L, false), (qf7 na), (lgI na VA LA, false), (qf8 nb), (lgI nb VB LB, false), (qf10 xa), (decide ((↑xb.length : Int) > 200), true)] qf6 (oc8 ?_ ?_ ?_ ?_ ?_ ?_ gg0 ?_ okn) ?_)) fun gg0 => (rEn baseLP 700 (99) 900 110 (hI 9 69915) ([]) [(qf3 n), (lgI n V L, false), (qf7 na), (lgI na VA LA, false), (qf8 nb), (lgI nb VB LB, false), (decide ((↑xa.length : Int) > 200), true)] qf6 (oc7 ?_ ?_ ?_ ?_ ?_ ?_ gg0 okn) ?_)
  all_goals try dsimp only [qf3, qf7, qf8, qf10, qf6] at *
  all_goals exact sc54

set_option maxHeartbeats 4000000 in
theorem lp5 (t0 t1 t2 : List UInt8) (n : Nat) (V L : Ix → List UInt8) (ka : Int) (xa : List UInt8) (ma pa : Int) (na : Nat) (VA LA : Ix → List UInt8) (kb : Int) (xb : List UInt8) (mb pb : Int) (nb : Nat) (VB LB : Ix → List UInt8) (P PA PB : List Pc) (h1 : lgI n V L = false) (h2 : lgI na VA LA = false) (h3 : lgI nb VB LB = false) (hxa : xa.length ≤ 200) (hxb : xb.length ≤ 200) (hP : pcsOf n V L = P) (hPA : pcsOf na VA LA = PA) (hPB : pcsOf nb VB LB = PB) (hPl : P.length = n) (hAl : PA.length = na) (hBl : PB.length = nb) (hn : n ≤ 60) (hna : na ≤ 60) (hnb : nb ≤ 60) (hl : lnB V L n = true) (e1 : rgtI n V L = rrI P.length (prV P) (prL P)) (e3 : (decide (ka = kb) && (decide (xa = xb) && (decide (ma = mb) && (decide (na = nb) && eqQs na VA LA VB LB)))) = (decide (ka = kb) && (decide (xa = xb) && (decide (ma = mb) && (decide (PA.length = PB.length) && eqQs PA.length (prV PA) (prL PA) (prV PB) (prL PB)))))) (h0 : rrI P.length (prV P) (prL P) = true) (h0' : rgtI n V L = true) (hlP : lnB (prV P) (prL P) P.length = true) (haP : altB (prV P) P.length = true) (e2 : quoI n V L = quoI P.length (prV P) (prL P))  :
    (RunsTo Tryd.prog 5 [.code (bodyOf Tryd.f5)] (envOf [vL 100 2 n, .agg (.tc (.vi .i64 fun _ => ka) (.tc (.vs fun _ => xa) (.tc (.vi .i64 fun _ => ma) (.tc (.vl 101 (fun _ => 0) 2 [] (fun _ => na)) (.tc (.vi .i64 fun _ => pa) .t0))))), .agg (.tc (.vi .i64 fun _ => kb) (.tc (.vs fun _ => xb) (.tc (.vi .i64 fun _ => mb) (.tc (.vl 102 (fun _ => 0) 2 [] (fun _ => nb)) (.tc (.vi .i64 fun _ => pb) .t0)))))] Tryd.f5.ntmps) (Sx.look (wpS t0 t1 t2 ++ (prX 100 n V L ++ (prX 101 na VA LA ++ prX 102 nb VB LB)) ++ ([]))) 110 (YES) qf9 30000) := by
  have E' := (⟨h1, h2, h3, hP, hPA, hPB, h0, h0', e2⟩ : _ ∧ _ ∧ _ ∧ _ ∧ _ ∧ _ ∧ _ ∧ _ ∧ _)
  refine rEn baseLP 700 (99) 900 110 (hI 23 23456247714075) ([]) [(qf3 n), (lgI n V L, false), (qf7 na), (lgI na VA LA, false), (qf8 nb), (lgI nb VB LB, false), (qf10 xa), (decide ((↑xb.length : Int) > 200), false), (decide (n ≤ n) && decide (n ≤ (1000 : Nat)), true), (qf1 L V n), (rrI (pcsOf n V L).length (prV (pcsOf n V L)) (prL (pcsOf n V L)), true), (decide ((pcsOf n V L).length ≤ (pcsOf n V L).length) && (decide ((pcsOf n V L).length ≤ (100 : Nat)) && (lnB (prV (pcsOf n V L)) (prL (pcsOf n V L)) (pcsOf n V L).length && altB (prV (pcsOf n V L)) (pcsOf n V L).length)), true), (decide (n ≤ n) && (decide (n ≤ (1000 : Nat)) && lnB V L n), true), (qf1 L V n), (rgtI n V L == rrI (pcsOf n V L).length (prV (pcsOf n V L)) (prL (pcsOf n V L)), true), (decide (n ≤ n) && (decide (n ≤ (100 : Nat)) && lnB V L n), true), ((if rgtI n V L = true then quoI n V L else []) == quoI (pcsOf n V L).length (prV (pcsOf n V L)) (prL (pcsOf n V L)), true), (qf5 na nb), (decide (na ≤ na) && decide (na ≤ (1000 : Nat)), true), (decide (nb ≤ nb) && decide (nb ≤ (1000 : Nat)), true), (qf4 LA LB VA VB na nb)] (qf2 LA LB VA VB ka kb ma mb na nb xa xb) (oc3 ?_ ?_ ?_ (oc9 ?_ ?_ ?_ ?_ ?_ ?_ ?_ ?_ ?_ (oc9 ?_ ?_ ?_ ?_ ?_ ?_ ?_ ?_ ?_ okn))) ?_
  all_goals try dsimp only [qf3, qf7, qf8, qf10, qf1, qf5, qf4, qf2]
  all_goals exact sc54

set_option maxHeartbeats 4000000 in
theorem lp6 (t0 t1 t2 : List UInt8) (n : Nat) (V L : Ix → List UInt8) (ka : Int) (xa : List UInt8) (ma pa : Int) (na : Nat) (VA LA : Ix → List UInt8) (kb : Int) (xb : List UInt8) (mb pb : Int) (nb : Nat) (VB LB : Ix → List UInt8) (P PA PB : List Pc) (h1 : lgI n V L = false) (h2 : lgI na VA LA = false) (h3 : lgI nb VB LB = false) (hxa : xa.length ≤ 200) (hxb : xb.length ≤ 200) (hP : pcsOf n V L = P) (hPA : pcsOf na VA LA = PA) (hPB : pcsOf nb VB LB = PB) (hPl : P.length = n) (hAl : PA.length = na) (hBl : PB.length = nb) (hn : n ≤ 60) (hna : na ≤ 60) (hnb : nb ≤ 60) (hl : lnB V L n = true) (e1 : rgtI n V L = rrI P.length (prV P) (prL P)) (e3 : (decide (ka = kb) && (decide (xa = xb) && (decide (ma = mb) && (decide (na = nb) && eqQs na VA LA VB LB)))) = (decide (ka = kb) && (decide (xa = xb) && (decide (ma = mb) && (decide (PA.length = PB.length) && eqQs PA.length (prV PA) (prL PA) (prV PB) (prL PB)))))) (h0 : rrI P.length (prV P) (prL P) = false) (h0' : rgtI n V L = false)  :
    (RunsTo Tryd.prog 5 [.code (bodyOf Tryd.f5)] (envOf [vL 100 2 n, .agg (.tc (.vi .i64 fun _ => ka) (.tc (.vs fun _ => xa) (.tc (.vi .i64 fun _ => ma) (.tc (.vl 101 (fun _ => 0) 2 [] (fun _ => na)) (.tc (.vi .i64 fun _ => pa) .t0))))), .agg (.tc (.vi .i64 fun _ => kb) (.tc (.vs fun _ => xb) (.tc (.vi .i64 fun _ => mb) (.tc (.vl 102 (fun _ => 0) 2 [] (fun _ => nb)) (.tc (.vi .i64 fun _ => pb) .t0)))))] Tryd.f5.ntmps) (Sx.look (wpS t0 t1 t2 ++ (prX 100 n V L ++ (prX 101 na VA LA ++ prX 102 nb VB LB)) ++ ([]))) 110 (YES) qf9 30000) := by
  have E' := (⟨h1, h2, h3, hP, hPA, hPB, h0, h0'⟩ : _ ∧ _ ∧ _ ∧ _ ∧ _ ∧ _ ∧ _ ∧ _)
  refine rEn baseLP 700 (99) 900 110 (hI 22 5864044892443) ([]) [(qf3 n), (lgI n V L, false), (qf7 na), (lgI na VA LA, false), (qf8 nb), (lgI nb VB LB, false), (qf10 xa), (decide ((↑xb.length : Int) > 200), false), (decide (n ≤ n) && decide (n ≤ (1000 : Nat)), true), (qf1 L V n), (rrI (pcsOf n V L).length (prV (pcsOf n V L)) (prL (pcsOf n V L)), false), (decide (n ≤ n) && (decide (n ≤ (1000 : Nat)) && lnB V L n), true), (qf1 L V n), (rgtI n V L == rrI (pcsOf n V L).length (prV (pcsOf n V L)) (prL (pcsOf n V L)), true), (decide (n ≤ n) && (decide (n ≤ (100 : Nat)) && lnB V L n), true), ((if rgtI n V L = true then quoI n V L else []) == [], true), (qf5 na nb), (decide (na ≤ na) && decide (na ≤ (1000 : Nat)), true), (decide (nb ≤ nb) && decide (nb ≤ (1000 : Nat)), true), (qf4 LA LB VA VB na nb)] (qf2 LA LB VA VB ka kb ma mb na nb xa xb) (oc2 ?_ ?_ (oc9 ?_ ?_ ?_ ?_ ?_ ?_ ?_ ?_ ?_ (oc9 ?_ ?_ ?_ ?_ ?_ ?_ ?_ ?_ ?_ okn))) ?_
  all_goals try dsimp only [qf3, qf7, qf8, qf10, qf1, qf5, qf4, qf2]
  all_goals exact sc54

end Go.Proofs.YtaleenklamognaaDoor

