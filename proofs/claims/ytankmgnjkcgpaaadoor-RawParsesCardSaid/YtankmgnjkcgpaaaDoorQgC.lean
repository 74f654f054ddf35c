/- Raw: the document's Right, Line, Same. -/
import Derived.Test.YtankmgnjkcgpaaaDoorQaC
import Derived.Test.YtankmgnjkcgpaaaDoorQeC
set_option linter.unusedSimpArgs false
set_option linter.unusedVariables false
set_option maxRecDepth 100000
namespace Go.Proofs.YtankmgnjkcgpaaaDoor
open Go.Sx

open RawR
def dgS (u : Nat) (s : List UInt8) : List UInt8 := if u = 0 then s else Lib.decDigits u ++ s
def sameT (k n k' n' : Int) (s s' : List UInt8) (m m' : Nat) (F F' : Ix → Int) : Bool := decide (k = k') && (decide (n = n') && (decide (s = s') && eqI m m' F F'))
def preB (k n : Int) (l m : Nat) : Bool := decide (1 ≤ k ∧ k ≤ 4 ∧ l ≤ 1024 ∧ 0 ≤ n ∧ n ≤ 9999 ∧ (k ≠ 1 → l + m = 0) ∧ (k = 1 ∨ k = 4 → n = 0))
theorem dgS_step {u : Nat} (h : u ≠ 0) (s : List UInt8) : dgS u s = dgS (u / 10) (UInt8.ofNat (48 + u % 10) :: s) := by
  unfold dgS
  rw [if_neg h]
  by_cases h10 : u < 10
  · rw [if_pos (by omega), Lib.decDigits_one h10, Nat.mod_eq_of_lt h10]; rfl
  · rw [if_neg (by omega), Lib.decDigits, dif_neg h10, List.append_assoc]; rfl
theorem dig_sub {d : Nat} (h : d < 10) : (([48, 49, 50, 51, 52, 53, 54, 55, 56, 57] : List UInt8).take (d + 1)).drop d = [UInt8.ofNat (48 + d)] := by
  have : ((List.range 10).all fun d => decide ((([48, 49, 50, 51, 52, 53, 54, 55, 56, 57] : List UInt8).take (d + 1)).drop d = [UInt8.ofNat (48 + d)])) = true := by decide +kernel
  exact of_decide_eq_true (List.all_eq_true.1 this d (List.mem_range.2 h))
theorem hex_sub {d : Nat} (h : d < 16) : (([48, 49, 50, 51, 52, 53, 54, 55, 56, 57, 97, 98, 99, 100, 101, 102] : List UInt8).take (d + 1)).drop d = [hx d] := by
  have : ((List.range 16).all fun d => decide ((([48, 49, 50, 51, 52, 53, 54, 55, 56, 57, 97, 98, 99, 100, 101, 102] : List UInt8).take (d + 1)).drop d = [hx d])) = true := by decide +kernel
  exact of_decide_eq_true (List.all_eq_true.1 this d (List.mem_range.2 h))
theorem rightV_pre (k n : Int) (l m : Nat) (F : Ix → Int) : rightV k n l m F = (preB k n l m && upR l (-1) (intsF F m)) := by
  have e0 : m = 0 → upR l (-1) (intsF F m) = true := fun h => by subst h; rfl
  unfold rightV preB
  by_cases h1 : k = 1
  · subst h1; rw [if_pos rfl]
    congr 1
    rw [Bool.eq_iff_iff]; simp; omega
  · rw [if_neg h1]
    by_cases h2 : k = 2 ∨ k = 3
    · rw [if_pos h2]
      by_cases hm : m = 0
      · rw [e0 hm, Bool.and_true, Bool.eq_iff_iff]; simp; omega
      · rw [decide_eq_false (by omega), decide_eq_false (by omega), Bool.false_and]
    · rw [if_neg h2]
      by_cases h4 : k = 4
      · rw [if_pos h4]
        by_cases hm : m = 0
        · rw [e0 hm, Bool.and_true, Bool.eq_iff_iff]; simp; omega
        · rw [decide_eq_false (by omega), decide_eq_false (by omega), Bool.false_and]
      · rw [if_neg h4, decide_eq_false (by omega), Bool.false_and]
theorem joinR_snoc (c : UInt8) (a : List UInt8) : ∀ l : List (List UInt8), l ≠ [] → joinR c (l ++ [a]) = joinR c l ++ c :: a
  | [], h => absurd rfl h
  | [b], _ => rfl
  | b :: d :: l, _ => by
    have := joinR_snoc c a (d :: l) (by simp)
    rw [List.cons_append, joinR_cons c b (by simp), this, joinR_cons c b (by simp), List.append_assoc]; rfl

variable (F : Ix → Int) (M N : Nat) (U : Ix → Int) (b : List UInt8) (i : Nat) (k : Int) (m : Nat) (n : Int) (u : Nat)
abbrev rk1 := IntKind.i64.wrap (↑(b.getD (i : Int).toNat (0 : UInt8)).toNat : Int)
abbrev rk19 := IntKind.i64.wrap ((rk1 b i).tdiv (16 : Int)) + 1
abbrev rk8 := List.take (IntKind.i64.wrap (rk19 b i)).toNat [(48 : UInt8), (49 : UInt8), (50 : UInt8), (51 : UInt8), (52 : UInt8), (53 : UInt8), (54 : UInt8), (55 : UInt8), (56 : UInt8), (57 : UInt8), (97 : UInt8), (98 : UInt8), (99 : UInt8), (100 : UInt8), (101 : UInt8), (102 : UInt8)]
abbrev rk9 := List.take (IntKind.i64.wrap ((rk1 b i).tmod (16 : Int) + 1)).toNat [(48 : UInt8), (49 : UInt8), (50 : UInt8), (51 : UInt8), (52 : UInt8), (53 : UInt8), (54 : UInt8), (55 : UInt8), (56 : UInt8), (57 : UInt8), (97 : UInt8), (98 : UInt8), (99 : UInt8), (100 : UInt8), (101 : UInt8), (102 : UInt8)]
abbrev rk2 := List.drop (IntKind.i64.wrap ((rk1 b i).tdiv (16 : Int))).toNat (rk8 b i) ++ List.drop ((rk1 b i).tmod (16 : Int)).toNat (rk9 b i)
abbrev rk3 := ((0 + (i : Int).toNat).blt M, true)
abbrev rk4 := (decide (0 ≤ (i : Int) ∧ (i : Int) < (m : Int)), true)
abbrev rk27 := 0 = 0 ∧ m = m
abbrev rk23 := (↑(0 : Nat) : Int)
abbrev rk5 := (0 = 0 ∧ (-1 : Int) = (-1 : Int) ∧ (rk27 m) ∧ (m : Int) = (m : Int) ∧ rk23 = (0 : Int)) ∧ k = k ∧ n = n ∧ b = b ∧ 0 = 0 ∧ m = m
abbrev rk15 := (↑b.length : Int)
abbrev rk6 := (decide ((rk15 b) > 1024), false)
abbrev rk7 := false = false ∧ True
abbrev rk10 := (decide (k < (1 : Int)), false)
abbrev rk11 := Sx.look ([⟨62, false, none, 1, .ta M (.vi .i64 F)⟩] ++ ([]))
abbrev rk26 := (u : Int).tmod (10 : Int) + 1
abbrev rk12 := List.take (IntKind.i64.wrap (rk26 u)).toNat [(48 : UInt8), (49 : UInt8), (50 : UInt8), (51 : UInt8), (52 : UInt8), (53 : UInt8), (54 : UInt8), (55 : UInt8), (56 : UInt8), (57 : UInt8)]
abbrev rk13 := (decide (k > (4 : Int)), false)
abbrev rk14 := Sx.look (([⟨62, false, none, 1, .ta M (.vi .i64 F)⟩] ++ [⟨64, false, none, 1, .ta N (.vi .i64 U)⟩]) ++ ([]))
abbrev rk16 := (decide (n < (0 : Int)), false)
abbrev rk17 := Sx.look ([])
abbrev rk18 := (decide (n > (9999 : Int)), false)
abbrev rk20 := (decide ((i : Int) < (m : Int)), true)
abbrev rk21 := (decide ((0 : Int) ≤ F [0 + (i : Int).toNat]) && decide (F [0 + (i : Int).toNat] ≤ (9223372036854775807 : Int)), true)
abbrev rk22 := (decide (IntKind.i64.wrap ((rk15 b) + (m : Int)) > 0), false)
abbrev rk24 := (↑(i + (1 : Nat)) : Int)
abbrev rk25 := (decide ((0 : Int) ≤ n) && decide (n ≤ (9223372036854775807 : Int)), true)
abbrev rk28 := ((0 + (i : Int).toNat).blt N, true)
set_option maxHeartbeats 4000000 in
theorem fg0 (x : Nat)  :
    (RunsTo Tryd.prog 65 [.code (bodyOf Tryd.f65)] (envOf [vN 0] Tryd.f65.ntmps) (Sx.look ([] ++ ([]))) 80 (vS [48]) rk17 115) := by
  refine rEn baseO 300 (99) 900 80 (hI 1 3) ([]) [] ([(48 : UInt8)] = [(48 : UInt8)] ∧ True) okn ?_
  all_goals exact sc2

set_option maxHeartbeats 4000000 in
theorem fg1 (u : Nat) (h : u ≠ 0) (hu : u ≤ 9223372036854775807)  (v : SV) (L' : HF) (next : RunsTo Tryd.prog 65 (headOf Tryd.f65 0) (envAt Tryd.f65.ntmps ([(0, vN (u : Nat)), (3, vS ([])), (4, vS [])])) (Sx.look ([] ++ ([]))) 80 (v) (L') 115) :
    RunsTo Tryd.prog 65 [.code (bodyOf Tryd.f65)] (envOf [vN (u : Nat)] Tryd.f65.ntmps) (Sx.look ([] ++ ([]))) 80 (v) (L') 115 := by
  refine rMo baseO 300 (behind Tryd.f65 0) 900 80 (hI 2 8) ([]) [((u : Int) == 0, false)] (((u : Int) = (u : Int) ∧ ([] : List UInt8) = [] ∧ ([] : List UInt8) = []) ∧ True) next (oc1 ?_ okn) ?_
  all_goals clear next; exact sc3

set_option maxHeartbeats 4000000 in
theorem fg2 (u : Nat) (t : List UInt8) (h : u ≠ 0) (hu : u ≤ 9223372036854775807) (ht : t.length ≤ 1000)  (v : SV) (L' : HF) (next : RunsTo Tryd.prog 65 (headOf Tryd.f65 0) (envAt Tryd.f65.ntmps ([(0, vN (u / 10 : Nat)), (3, vS (UInt8.ofNat (48 + u % 10) :: t)), (4, vS [])])) (Sx.look ([] ++ ([]))) 80 (v) (L') 115) :
    RunsTo Tryd.prog 65 (headOf Tryd.f65 0) (envAt Tryd.f65.ntmps ([(0, vN (u : Nat)), (3, vS (t)), (4, vS [])])) (Sx.look ([] ++ ([]))) 80 (v) (L') 115 := by
  have h1 : ((u : Nat) : Int).tmod 10 = ((u % 10 : Nat) : Int) := by rw [Int.tmod_eq_emod_of_nonneg (by omega)]; rfl
  have h2 : ((u : Nat) : Int).tdiv 10 = ((u / 10 : Nat) : Int) := by rw [Int.tdiv_eq_ediv_of_nonneg (by omega)]; rfl
  have h3 : IntKind.i64.wrap (((u % 10 : Nat) : Int) + 1) = ((u % 10 + 1 : Nat) : Int) := by rw [wr64 (by omega)]; rfl
  have h4 : IntKind.i64.wrap ((u / 10 : Nat) : Int) = ((u / 10 : Nat) : Int) := wr64 (by omega)
  have h5 := dig_sub (show u % 10 < 10 by omega)
  have E' := (⟨h1, h2, h3, h4⟩ : _ ∧ _ ∧ _ ∧ _)
  refine rMo baseO 300 (behind Tryd.f65 0) 900 110 (hI 7 13677) ([]) [((u : Int) != (0 : Int), true), (decide (0 ≤ IntKind.i64.wrap (rk26 u) ∧ IntKind.i64.wrap (rk26 u) ≤ (↑(10 : Nat) : Int)), true), (decide (0 ≤ (u : Int).tmod (10 : Int) ∧ (u : Int).tmod (10 : Int) ≤ IntKind.i64.wrap (rk26 u)), true), (decide ((List.drop ((u : Int).tmod (10 : Int)).toNat (rk12 u)).length + t.length ≤ (9223372036854775807 : Nat)), true)] (((↑(u / (10 : Nat)) : Int) = IntKind.i64.wrap ((u : Int).tdiv (10 : Int)) ∧ UInt8.ofNat (48 + u % (10 : Nat)) :: t = List.drop ((u : Int).tmod (10 : Int)).toNat (rk12 u) ++ t ∧ ([] : List UInt8) = []) ∧ True) next (oc4 ?_ ?_ ?_ ?_ okn) ?_
  all_goals clear next; try dsimp only [rk26, rk12]
  all_goals exact sc4

set_option maxHeartbeats 4000000 in
theorem fg3 (t : List UInt8) (ht : t.length ≤ 1000)  :
    (RunsTo Tryd.prog 65 (headOf Tryd.f65 0) (envAt Tryd.f65.ntmps ([(0, vN (0 : Nat)), (3, vS (t)), (4, vS [])])) (Sx.look ([] ++ ([]))) 80 (vS t) rk17 115) := by
  refine rEn baseO 300 (99) 900 110 (hI 2 6) ([]) [(decide (0 + t.length ≤ (9223372036854775807 : Nat)), true)] (t = [] ++ t ∧ True) (oc1 ?_ okn) ?_
  all_goals exact sc2

theorem fgT (n : Int) (h0 : 0 ≤ n) (hn : n ≤ 9223372036854775807) : RunsTo Tryd.prog 65 [.code (bodyOf Tryd.f65)] (envOf [vN n] Tryd.f65.ntmps) (Sx.look ([] ++ ([]))) 80 (vS (Lib.itoa n)) (Sx.look []) 115 := by
  obtain ⟨u, rfl⟩ : ∃ u : Nat, n = (u : Int) := ⟨n.toNat, by omega⟩
  have hu : u ≤ 9223372036854775807 := by omega
  have hi : Lib.itoa (u : Int) = Lib.decDigits u := if_neg (by omega)
  rw [hi]
  by_cases h : u = 0
  · subst h
    rw [Lib.decDigits_one (show 0 < 10 by omega)]
    exact fg0 0
  refine fg1 u h hu _ _ ?_
  have hl := Lib.nDigits_le20 u (by omega)
  suffices q : ∀ (j u : Nat) (t : List UInt8), u ≤ 9223372036854775807 → u ≤ 10 ^ j → t.length + j ≤ 900 → RunsTo Tryd.prog 65 (headOf Tryd.f65 0) (envAt Tryd.f65.ntmps ([(0, vN (u : Nat)), (3, vS (t)), (4, vS [])])) (Sx.look ([] ++ ([]))) 80 (vS (dgS u t)) (Sx.look []) 115 from by
    have := q 20 u [] hu (by omega) (by simp)
    rw [show dgS u [] = Lib.decDigits u by rw [dgS, if_neg h, List.append_nil]] at this
    exact this
  clear h hu hi hl h0 hn u
  intro j
  induction j with
  | zero =>
    intro u t hu h1 hl
    by_cases h : u = 0
    · subst h; exact fg3 t (by omega)
    · obtain rfl : u = 1 := by omega
      rw [dgS_step (by decide)]
      exact fg2 1 t (by decide) hu (by omega) _ _ (fg3 _ (by simp; omega))
  | succ j ih =>
    intro u t hu h1 hl
    by_cases h : u = 0
    · subst h; exact fg3 t (by omega)
    · rw [dgS_step h]
      exact fg2 u t h hu (by omega) _ _ (ih (u / 10) _ (by omega) (by rw [Nat.pow_succ] at h1; omega) (by simp; omega))
def fgP : PC := { args := [.v (.vi .i64 0)], heap := [], gs := [], G := 24, tp := 194, n := 80, n' := 115, cond := fun e => decide (0 ≤ eI e 0 []) && decide (eI e 0 [] ≤ 9223372036854775807), v := fun e => vS (Lib.itoa (eI e 0 [])), post := fun e => [] }
theorem fgP_pc : PC.Runs Tryd.prog 65 Tryd.f65 (bodyOf Tryd.f65) fgP := ⟨Tryd.func65, by kernel_rfl, (fun g hg => by first | (cases hg; done) | (revert g; show ∀ g ∈ ([] : List Nat), g < 24; decide)), fun e H hc => by
  have hc : (decide (0 ≤ eI e 0 []) && decide (eI e 0 [] ≤ 9223372036854775807)) = true := hc
  try simp only [Bool.and_eq_true, decide_eq_true_eq, Nat.beq_eq] at hc
  exact fgT (eI e 0 []) hc.1 hc.2⟩

set_option maxHeartbeats 4000000 in
theorem rr0 (k n : Int) (b : List UInt8) (m M : Nat) (F : Ix → Int) (h : preB k n b.length m = false) (hM : m ≤ M) (hm : m ≤ 100000) (hb : b.length ≤ 100000)  :
    (RunsTo Tryd.prog 35 [.code (bodyOf Tryd.f35)] (envOf [.agg (.tc (.vi .i64 fun _ => k) (.tc (.vi .i64 fun _ => n) (.tc (.vs fun _ => b) (.tc (.vl 62 (fun _ => 0) 1 [] (fun _ => m)) .t0))))] Tryd.f35.ntmps) (rk11 F M) 80 (vB false) rk17 115) := by
  have hw : IntKind.i64.wrap ((b.length : Int) + (m : Int)) = (b.length : Int) + (m : Int) := wr64 (by omega)
  have E' := hw
  refine bcase (fun gg0 => (bcase (fun gg1 => (bcase (fun gg2 => (bcase (fun gg3 => (bcase (fun gg4 => (bcase (fun gg5 => (rEn baseO 300 (99) 900 80 (hI 8 20480) ([]) [(rk10 k), (rk13 k), (rk6 b), (rk16 n), (rk18 n), (k != (1 : Int), false), (k == (1 : Int), true), (n != (0 : Int), true)] rk7 (oc8 gg0 gg1 gg2 gg3 gg4 gg5 ?_ ?_ okn) ?_)) fun gg5 => (bcase (fun gg6 => (rEn baseO 300 (99) 900 80 (hI 10 328704) ([]) [(rk10 k), (rk13 k), (rk6 b), (rk16 n), (rk18 n), (k != (1 : Int), true), (rk22 b m), (k == (1 : Int), false), (k == (4 : Int), true), (n != (0 : Int), true)] rk7 (oc1 gg0 (oc9 gg1 gg2 gg3 gg4 gg5 gg6 ?_ ?_ ?_ okn)) ?_)) fun gg6 => (rEn baseO 300 (99) 900 80 (hI 7 5120) ([]) [(rk10 k), (rk13 k), (rk6 b), (rk16 n), (rk18 n), (k != (1 : Int), true), (decide (IntKind.i64.wrap ((rk15 b) + (m : Int)) > 0), true)] rk7 (oc7 gg0 gg1 gg2 gg3 gg4 gg5 gg6 okn) ?_)))) fun gg4 => (rEn baseO 300 (99) 900 80 (hI 5 256) ([]) [(rk10 k), (rk13 k), (rk6 b), (rk16 n), (decide (n > (9999 : Int)), true)] rk7 (oc5 gg0 gg1 gg2 gg3 gg4 okn) ?_))) fun gg3 => (rEn baseO 300 (99) 900 80 (hI 4 64) ([]) [(rk10 k), (rk13 k), (rk6 b), (decide (n < (0 : Int)), true)] rk7 (oc4 gg0 gg1 gg2 gg3 okn) ?_))) fun gg2 => (rEn baseO 300 (99) 900 80 (hI 3 16) ([]) [(rk10 k), (rk13 k), (decide ((rk15 b) > 1024), true)] rk7 (oc3 gg0 gg1 gg2 okn) ?_))) fun gg1 => (rEn baseO 300 (99) 900 80 (hI 2 4) ([]) [(rk10 k), (decide (k > (4 : Int)), true)] rk7 (oc2 gg0 gg1 okn) ?_))) fun gg0 => (rEn baseO 300 (99) 900 80 (hI 1 1) ([]) [(decide (k < (1 : Int)), true)] rk7 (oc1 gg0 okn) ?_)
  all_goals try dsimp only [rk10, rk13, rk6, rk15, rk16, rk18, rk7, rk22] at *
  all_goals exact sc5

set_option maxHeartbeats 4000000 in
theorem rr1 (k n : Int) (b : List UInt8) (m M : Nat) (F : Ix → Int) (h : preB k n b.length m = true) (hM : m ≤ M) (hm : m ≤ 100000) (hb : b.length ≤ 100000)  (v : SV) (L' : HF) (next : RunsTo Tryd.prog 35 (headOf Tryd.f35 0) (envAt Tryd.f35.ntmps ([(1, vP 101), (3, vN (-1)), (59, vL 62 1 m), (60, vN m), (61, vN (0 : Nat))])) (Sx.look ([⟨62, false, none, 1, .ta M (.vi .i64 F)⟩] ++ ([⟨101, true, none, 139000004, (.tc (.vi .i64 fun _ => k) (.tc (.vi .i64 fun _ => n) (.tc (.vs fun _ => b) (.tc (.vl 62 (fun _ => 0) 1 [] (fun _ => m)) .t0))))⟩]))) 80 (v) (L') 115) :
    RunsTo Tryd.prog 35 [.code (bodyOf Tryd.f35)] (envOf [.agg (.tc (.vi .i64 fun _ => k) (.tc (.vi .i64 fun _ => n) (.tc (.vs fun _ => b) (.tc (.vl 62 (fun _ => 0) 1 [] (fun _ => m)) .t0))))] Tryd.f35.ntmps) (Sx.look ([⟨62, false, none, 1, .ta M (.vi .i64 F)⟩] ++ ([]))) 80 (v) (L') 115 := by
  have hw : IntKind.i64.wrap ((b.length : Int) + (m : Int)) = (b.length : Int) + (m : Int) := wr64 (by omega)
  have E' := hw
  refine bcase (fun gg0 => (rMo baseO 300 (behind Tryd.f35 0) 900 80 (hI 8 4096) ([((101 : Nat), Rn.to (80 : Nat))]) [(rk10 k), (rk13 k), (rk6 b), (rk16 n), (rk18 n), (k != (1 : Int), false), (k == (1 : Int), true), (n != (0 : Int), false)] (rk5 b k m n) next (oc8 ?_ ?_ ?_ ?_ ?_ gg0 ?_ ?_ okn) ?_)) fun gg0 => (bcase (fun gg1 => (rMo baseO 300 (behind Tryd.f35 0) 900 80 (hI 9 1024) ([((101 : Nat), Rn.to (80 : Nat))]) [(rk10 k), (rk13 k), (rk6 b), (rk16 n), (rk18 n), (k != (1 : Int), true), (rk22 b m), (k == (1 : Int), false), (k == (4 : Int), false)] (rk5 b k m n) next (oc9 ?_ ?_ ?_ ?_ ?_ gg0 ?_ ?_ gg1 okn) ?_)) fun gg1 => (rMo baseO 300 (behind Tryd.f35 0) 900 80 (hI 10 66560) ([((101 : Nat), Rn.to (80 : Nat))]) [(rk10 k), (rk13 k), (rk6 b), (rk16 n), (rk18 n), (k != (1 : Int), true), (rk22 b m), (k == (1 : Int), false), (k == (4 : Int), true), (n != (0 : Int), false)] (rk5 b k m n) next (oc1 ?_ (oc9 ?_ ?_ ?_ ?_ gg0 ?_ ?_ gg1 ?_ okn)) ?_))
  all_goals clear next; try dsimp only [rk10, rk13, rk6, rk15, rk16, rk18, rk5, rk27, rk23, rk22] at *
  all_goals exact sc5

set_option maxHeartbeats 4000000 in
theorem rr2 (k n : Int) (b : List UInt8) (m M : Nat) (F : Ix → Int) (p x : Int) (i : Nat) (hk : p < x ∧ x < b.length) (hi : i < m) (hx : F [i] = x) (hM : m ≤ M) (hm : m ≤ 100000) (hb : b.length ≤ 100000)  (v : SV) (L' : HF) (next : RunsTo Tryd.prog 35 (headOf Tryd.f35 0) (envAt Tryd.f35.ntmps ([(1, vP 101), (3, vN (x)), (59, vL 62 1 m), (60, vN m), (61, vN (i + 1 : Nat))])) (Sx.look ([⟨62, false, none, 1, .ta M (.vi .i64 F)⟩] ++ ([⟨101, true, none, 139000004, (.tc (.vi .i64 fun _ => k) (.tc (.vi .i64 fun _ => n) (.tc (.vs fun _ => b) (.tc (.vl 62 (fun _ => 0) 1 [] (fun _ => m)) .t0))))⟩]))) 80 (v) (L') 115) :
    RunsTo Tryd.prog 35 (headOf Tryd.f35 0) (envAt Tryd.f35.ntmps ([(1, vP 101), (3, vN (p)), (59, vL 62 1 m), (60, vN m), (61, vN (i : Nat))])) (Sx.look ([⟨62, false, none, 1, .ta M (.vi .i64 F)⟩] ++ ([⟨101, true, none, 139000004, (.tc (.vi .i64 fun _ => k) (.tc (.vi .i64 fun _ => n) (.tc (.vs fun _ => b) (.tc (.vl 62 (fun _ => 0) 1 [] (fun _ => m)) .t0))))⟩]))) 80 (v) (L') 115 := by
  have hw : IntKind.i64.wrap ((i : Int) + 1) = ((i + 1 : Nat) : Int) := by rw [wr64 (by omega)]; rfl
  have hi0 : 0 + ((i : Nat) : Int).toNat = i := by simp
  have E' := (⟨hi0, hx⟩ : _ ∧ _)
  refine rMo baseO 300 (behind Tryd.f35 0) 900 110 (hI 6 85) ([]) [(rk20 i m), (rk4 i m), (rk3 M i), (rk3 M i), (decide (F [0 + (i : Int).toNat] ≤ p), false), (decide (F [0 + (i : Int).toNat] ≥ (rk15 b)), false)] ((0 = 0 ∧ x = F [0 + (i : Int).toNat] ∧ (rk27 m) ∧ (m : Int) = (m : Int) ∧ (rk24 i) = IntKind.i64.wrap ((i : Int) + 1)) ∧ k = k ∧ n = n ∧ b = b ∧ 0 = 0 ∧ m = m) next (oc6 ?_ ?_ ?_ ?_ ?_ ?_ okn) ?_
  all_goals clear next; try dsimp only [rk20, rk4, rk3, rk15, rk27, rk24]
  all_goals exact sc6

set_option maxHeartbeats 4000000 in
theorem rr3 (k n : Int) (b : List UInt8) (m M : Nat) (F : Ix → Int) (p x : Int) (i : Nat) (hk : ¬ (p < x ∧ x < b.length)) (hi : i < m) (hx : F [i] = x) (hM : m ≤ M) (hm : m ≤ 100000) (hb : b.length ≤ 100000)  :
    (RunsTo Tryd.prog 35 (headOf Tryd.f35 0) (envAt Tryd.f35.ntmps ([(1, vP 101), (3, vN (p)), (59, vL 62 1 m), (60, vN m), (61, vN (i : Nat))])) (Sx.look ([⟨62, false, none, 1, .ta M (.vi .i64 F)⟩] ++ ([⟨101, true, none, 139000004, (.tc (.vi .i64 fun _ => k) (.tc (.vi .i64 fun _ => n) (.tc (.vs fun _ => b) (.tc (.vl 62 (fun _ => 0) 1 [] (fun _ => m)) .t0))))⟩]))) 80 (vB false) rk17 115) := by
  have hw : IntKind.i64.wrap ((i : Int) + 1) = ((i + 1 : Nat) : Int) := by rw [wr64 (by omega)]; rfl
  have hi0 : 0 + ((i : Nat) : Int).toNat = i := by simp
  have E' := (⟨hi0, hx⟩ : _ ∧ _)
  refine bcase (fun gg0 => (rEn baseO 300 (99) 900 110 (hI 6 1109) ([]) [(rk20 i m), (rk4 i m), (rk3 M i), (rk3 M i), (decide (F [0 + (i : Int).toNat] ≤ p), false), (decide (F [0 + (i : Int).toNat] ≥ (rk15 b)), true)] rk7 (oc6 ?_ ?_ ?_ ?_ gg0 ?_ okn) ?_)) fun gg0 => (rEn baseO 300 (99) 900 110 (hI 5 341) ([]) [(rk20 i m), (rk4 i m), (rk3 M i), (rk3 M i), (decide (F [0 + (i : Int).toNat] ≤ p), true)] rk7 (oc5 ?_ ?_ ?_ ?_ gg0 okn) ?_)
  all_goals try dsimp only [rk20, rk4, rk3, rk15, rk7] at *
  all_goals exact sc7

set_option maxHeartbeats 4000000 in
theorem rr4 (k n : Int) (b : List UInt8) (m M : Nat) (F : Ix → Int) (p : Int) (i : Nat) (hi : i = m)  :
    (RunsTo Tryd.prog 35 (headOf Tryd.f35 0) (envAt Tryd.f35.ntmps ([(1, vP 101), (3, vN (p)), (59, vL 62 1 m), (60, vN m), (61, vN (i : Nat))])) (Sx.look ([⟨62, false, none, 1, .ta M (.vi .i64 F)⟩] ++ ([⟨101, true, none, 139000004, (.tc (.vi .i64 fun _ => k) (.tc (.vi .i64 fun _ => n) (.tc (.vs fun _ => b) (.tc (.vl 62 (fun _ => 0) 1 [] (fun _ => m)) .t0))))⟩]))) 80 (YES) rk17 115) := by
  refine rEn baseO 300 (99) 900 110 (hI 1 0) ([]) [(decide ((i : Int) < (m : Int)), false)] (true = true ∧ True) (oc1 ?_ okn) ?_
  all_goals exact sc3

theorem rrT (k n : Int) (b : List UInt8) (m M : Nat) (F : Ix → Int) (hM : m ≤ M) (hm : m ≤ 100000) (hb : b.length ≤ 100000) : RunsTo Tryd.prog 35 [.code (bodyOf Tryd.f35)] (envOf [.agg (.tc (.vi .i64 fun _ => k) (.tc (.vi .i64 fun _ => n) (.tc (.vs fun _ => b) (.tc (.vl 62 (fun _ => 0) 1 [] (fun _ => m)) .t0))))] Tryd.f35.ntmps) (Sx.look ([⟨62, false, none, 1, .ta M (.vi .i64 F)⟩] ++ ([]))) 80 (vB (rightV k n b.length m F)) (Sx.look []) 115 := by
  rw [rightV_pre]
  cases h : preB k n b.length m with
  | false => exact rr0 k n b m M F h hM hm hb
  | true =>
    rw [Bool.true_and]
    refine rr1 k n b m M F h hM hm hb _ _ ?_
    suffices q : ∀ (j i : Nat) (p : Int), i + j = m → RunsTo Tryd.prog 35 (headOf Tryd.f35 0) (envAt Tryd.f35.ntmps ([(1, vP 101), (3, vN (p)), (59, vL 62 1 m), (60, vN m), (61, vN (i : Nat))])) (Sx.look ([⟨62, false, none, 1, .ta M (.vi .i64 F)⟩] ++ ([⟨101, true, none, 139000004, (.tc (.vi .i64 fun _ => k) (.tc (.vi .i64 fun _ => n) (.tc (.vs fun _ => b) (.tc (.vl 62 (fun _ => 0) 1 [] (fun _ => m)) .t0))))⟩]))) 80 (vB (upR b.length p ((intsF F m).drop i))) (Sx.look []) 115 from by
      have := q m 0 (-1) (by omega)
      simpa using this
    intro j
    induction j with
    | zero =>
      intro i p hi
      rw [List.drop_eq_nil_of_le (by rw [intsF_len]; omega)]
      exact rr4 k n b m M F p i (by omega)
    | succ j ih =>
      intro i p hi
      rw [intsF_drop F (show i < m by omega), upR]
      by_cases hk : p < F [i] ∧ F [i] < b.length
      · rw [decide_eq_true hk, Bool.true_and]
        exact rr2 k n b m M F p (F [i]) i hk (by omega) rfl hM hm hb _ _ (ih (i + 1) (F [i]) (by omega))
      · rw [decide_eq_false hk, Bool.false_and]
        exact rr3 k n b m M F p (F [i]) i hk (by omega) rfl hM hm hb
def rrP : PC := { args := [.agg (.tc (.vi .i64 0) (.tc (.vi .i64 1) (.tc (.vs 2) (.tc (.vl 62 1 3) .t0))))], heap := [⟨62, false, 1, .ta 7 (.vi .i64 8)⟩], gs := [], G := 24, tp := 194, n := 80, n' := 115, cond := fun e => decide (eN e 3 ≤ eN e 7) && (decide (eN e 3 ≤ 100000) && decide ((eS e 2 []).length ≤ 100000)), v := fun e => vB (rightV (eI e 0 []) (eI e 1 []) (eS e 2 []).length (eN e 3) (eI e 8)), post := fun e => [] }
theorem rrP_pc : PC.Runs Tryd.prog 35 Tryd.f35 (bodyOf Tryd.f35) rrP := ⟨Tryd.func35, by kernel_rfl, (fun g hg => by first | (cases hg; done) | (revert g; show ∀ g ∈ ([] : List Nat), g < 24; decide)), fun e H hc => by
  have hc : (decide (eN e 3 ≤ eN e 7) && (decide (eN e 3 ≤ 100000) && decide ((eS e 2 []).length ≤ 100000))) = true := hc
  try simp only [Bool.and_eq_true, decide_eq_true_eq, Nat.beq_eq] at hc
  exact rrT (eI e 0 []) (eI e 1 []) (eS e 2 []) (eN e 3) (eN e 7) (eI e 8) hc.1 hc.2.1 hc.2.2⟩
def sumsRL : List (FuncId × Summ) := [(65, fgP.summ 48)]
theorem baseRL : Base0 Tryd.prog sumsRL := (baseO.cons Tryd.func65 (by kernel_rfl) (PC.summ_ok fgP_pc gtopG))

set_option maxHeartbeats 4000000 in
theorem rl2 (k n : Int) (b : List UInt8) (m M : Nat) (F : Ix → Int) (hk : k = 2) (q1 : (Lib.itoa n).length ≤ 21) (h0 : 0 ≤ n) (h9 : n ≤ 9999)  :
    (RunsTo Tryd.prog 36 [.code (bodyOf Tryd.f36)] (envOf [.agg (.tc (.vi .i64 fun _ => k) (.tc (.vi .i64 fun _ => n) (.tc (.vs fun _ => b) (.tc (.vl 62 (fun _ => 0) 1 [] (fun _ => m)) .t0))))] Tryd.f36.ntmps) (rk11 F M) 80 (vS ([103, 114, 97, 110, 116, 32] ++ Lib.itoa n)) rk17 150) := by
  refine rEn baseRL 400 (99) 900 80 (hI 3 21) ([]) [(k == (2 : Int), true), (rk25 n), (decide (6 + (Lib.itoa n).length ≤ (9223372036854775807 : Nat)), true)] ([(103 : UInt8), (114 : UInt8), (97 : UInt8), (110 : UInt8), (116 : UInt8), (32 : UInt8)] ++ Lib.itoa n = [(103 : UInt8), (114 : UInt8), (97 : UInt8), (110 : UInt8), (116 : UInt8), (32 : UInt8)] ++ Lib.itoa n ∧ True) (oc3 ?_ ?_ ?_ okn) ?_
  all_goals try dsimp only [rk25]
  all_goals exact sc8

set_option maxHeartbeats 4000000 in
theorem rl3 (k n : Int) (b : List UInt8) (m M : Nat) (F : Ix → Int) (hk : k = 3) (q1 : (Lib.itoa n).length ≤ 21) (h0 : 0 ≤ n) (h9 : n ≤ 9999)  :
    (RunsTo Tryd.prog 36 [.code (bodyOf Tryd.f36)] (envOf [.agg (.tc (.vi .i64 fun _ => k) (.tc (.vi .i64 fun _ => n) (.tc (.vs fun _ => b) (.tc (.vl 62 (fun _ => 0) 1 [] (fun _ => m)) .t0))))] Tryd.f36.ntmps) (rk11 F M) 80 (vS ([116, 105, 99, 107, 32] ++ Lib.itoa n)) rk17 150) := by
  refine rEn baseRL 400 (99) 900 80 (hI 4 84) ([]) [(k == (2 : Int), false), (k == (3 : Int), true), (rk25 n), (decide (5 + (Lib.itoa n).length ≤ (9223372036854775807 : Nat)), true)] ([(116 : UInt8), (105 : UInt8), (99 : UInt8), (107 : UInt8), (32 : UInt8)] ++ Lib.itoa n = [(116 : UInt8), (105 : UInt8), (99 : UInt8), (107 : UInt8), (32 : UInt8)] ++ Lib.itoa n ∧ True) (oc4 ?_ ?_ ?_ ?_ okn) ?_
  all_goals try dsimp only [rk25]
  all_goals exact sc8

set_option maxHeartbeats 4000000 in
theorem rl4 (k n : Int) (b : List UInt8) (m M : Nat) (F : Ix → Int) (hk : k = 4)  :
    (RunsTo Tryd.prog 36 [.code (bodyOf Tryd.f36)] (envOf [.agg (.tc (.vi .i64 fun _ => k) (.tc (.vi .i64 fun _ => n) (.tc (.vs fun _ => b) (.tc (.vl 62 (fun _ => 0) 1 [] (fun _ => m)) .t0))))] Tryd.f36.ntmps) (rk11 F M) 80 (vS [99, 108, 111, 115, 101]) rk17 150) := by
  refine rEn baseRL 400 (99) 900 80 (hI 3 16) ([]) [(k == (2 : Int), false), (k == (3 : Int), false), (k == (4 : Int), true)] ([(99 : UInt8), (108 : UInt8), (111 : UInt8), (115 : UInt8), (101 : UInt8)] = [(99 : UInt8), (108 : UInt8), (111 : UInt8), (115 : UInt8), (101 : UInt8)] ∧ True) (oc3 ?_ ?_ ?_ okn) ?_
  all_goals exact sc8

set_option maxHeartbeats 4000000 in
theorem rl1 (k n : Int) (b : List UInt8) (m M : Nat) (F : Ix → Int) (h2 : k ≠ 2) (h3 : k ≠ 3) (h4 : k ≠ 4)  (v : SV) (L' : HF) (next : RunsTo Tryd.prog 36 (headOf Tryd.f36 0) (envAt Tryd.f36.ntmps ([(1, vP 101), (3, vS ([98, 121, 116, 101, 115, 32])), (4, vN (0 : Nat))])) (Sx.look ([⟨62, false, none, 1, .ta M (.vi .i64 F)⟩] ++ ([⟨101, true, none, 139000004, (.tc (.vi .i64 fun _ => k) (.tc (.vi .i64 fun _ => n) (.tc (.vs fun _ => b) (.tc (.vl 62 (fun _ => 0) 1 [] (fun _ => m)) .t0))))⟩]))) 80 (v) (L') 150) :
    RunsTo Tryd.prog 36 [.code (bodyOf Tryd.f36)] (envOf [.agg (.tc (.vi .i64 fun _ => k) (.tc (.vi .i64 fun _ => n) (.tc (.vs fun _ => b) (.tc (.vl 62 (fun _ => 0) 1 [] (fun _ => m)) .t0))))] Tryd.f36.ntmps) (Sx.look ([⟨62, false, none, 1, .ta M (.vi .i64 F)⟩] ++ ([]))) 80 (v) (L') 150 := by
  refine rMo baseRL 400 (behind Tryd.f36 0) 900 80 (hI 3 0) ([((101 : Nat), Rn.to (80 : Nat))]) [(k == (2 : Int), false), (k == (3 : Int), false), (k == (4 : Int), false)] ((0 = 0 ∧ [(98 : UInt8), (121 : UInt8), (116 : UInt8), (101 : UInt8), (115 : UInt8), (32 : UInt8)] = [(98 : UInt8), (121 : UInt8), (116 : UInt8), (101 : UInt8), (115 : UInt8), (32 : UInt8)] ∧ rk23 = (0 : Int)) ∧ k = k ∧ n = n ∧ b = b ∧ 0 = 0 ∧ m = m) next (oc3 ?_ ?_ ?_ okn) ?_
  all_goals clear next; try dsimp only [rk23]
  all_goals exact sc3

set_option maxHeartbeats 4000000 in
theorem rl5 (k n : Int) (b : List UInt8) (m M : Nat) (F : Ix → Int) (t : List UInt8) (i : Nat) (c : UInt8) (hi : i < b.length) (hb : b.length ≤ 100000) (hc : b.getD i 0 = c) (ht : t.length ≤ 1000000)  (v : SV) (L' : HF) (next : RunsTo Tryd.prog 36 (headOf Tryd.f36 0) (envAt Tryd.f36.ntmps ([(1, vP 101), (3, vS (t ++ ([hx (c.toNat / 16)] ++ [hx (c.toNat % 16)]))), (4, vN (i + 1 : Nat))])) (Sx.look ([⟨62, false, none, 1, .ta M (.vi .i64 F)⟩] ++ ([⟨101, true, none, 139000004, (.tc (.vi .i64 fun _ => k) (.tc (.vi .i64 fun _ => n) (.tc (.vs fun _ => b) (.tc (.vl 62 (fun _ => 0) 1 [] (fun _ => m)) .t0))))⟩]))) 80 (v) (L') 150) :
    RunsTo Tryd.prog 36 (headOf Tryd.f36 0) (envAt Tryd.f36.ntmps ([(1, vP 101), (3, vS (t)), (4, vN (i : Nat))])) (Sx.look ([⟨62, false, none, 1, .ta M (.vi .i64 F)⟩] ++ ([⟨101, true, none, 139000004, (.tc (.vi .i64 fun _ => k) (.tc (.vi .i64 fun _ => n) (.tc (.vs fun _ => b) (.tc (.vl 62 (fun _ => 0) 1 [] (fun _ => m)) .t0))))⟩]))) 80 (v) (L') 150 := by
  have hw : IntKind.i64.wrap ((i : Int) + 1) = ((i + 1 : Nat) : Int) := by rw [wr64 (by omega)]; rfl
  have hb8 := u8nat c
  have w0 : IntKind.i64.wrap (c.toNat : Int) = (c.toNat : Int) := wr64 (by omega)
  have w1 : (c.toNat : Int).tdiv 16 = ((c.toNat / 16 : Nat) : Int) := by rw [Int.tdiv_eq_ediv_of_nonneg (by omega)]; rfl
  have w2 : (c.toNat : Int).tmod 16 = ((c.toNat % 16 : Nat) : Int) := by rw [Int.tmod_eq_emod_of_nonneg (by omega)]; rfl
  have w3 : IntKind.i64.wrap ((c.toNat / 16 : Nat) : Int) = ((c.toNat / 16 : Nat) : Int) := wr64 (by omega)
  have w4 : IntKind.i64.wrap (((c.toNat / 16 : Nat) : Int) + 1) = ((c.toNat / 16 + 1 : Nat) : Int) := by rw [wr64 (by omega)]; rfl
  have w5 : IntKind.i64.wrap (((c.toNat % 16 : Nat) : Int) + 1) = ((c.toNat % 16 + 1 : Nat) : Int) := by rw [wr64 (by omega)]; rfl
  have x1 := hex_sub (show c.toNat / 16 < 16 by omega)
  have x2 := hex_sub (show c.toNat % 16 < 16 by omega)
  have E' := (⟨hc, w0, w1, w2, w3, w4, w5, x1, x2⟩ : _ ∧ _ ∧ _ ∧ _ ∧ _ ∧ _ ∧ _ ∧ _ ∧ _)
  refine rMo baseRL 400 (behind Tryd.f36 0) 900 110 (hI 11 1398645) ([]) [(decide ((i : Int) < (rk15 b)), true), (decide (0 ≤ (i : Int) ∧ (i : Int) < (rk15 b)), true), (decide (0 ≤ (i : Int) ∧ (i : Int) < (rk15 b)), true), (decide (0 ≤ IntKind.i64.wrap (rk19 b i) ∧ IntKind.i64.wrap (rk19 b i) ≤ (↑(16 : Nat) : Int)), true), (decide (0 ≤ IntKind.i64.wrap ((rk1 b i).tdiv (16 : Int)) ∧ IntKind.i64.wrap ((rk1 b i).tdiv (16 : Int)) ≤ IntKind.i64.wrap (rk19 b i)), true), (decide (0 ≤ IntKind.i64.wrap ((rk1 b i).tmod (16 : Int) + 1) ∧ IntKind.i64.wrap ((rk1 b i).tmod (16 : Int) + 1) ≤ (↑(16 : Nat) : Int)), true), (decide (0 ≤ (rk1 b i).tmod (16 : Int) ∧ (rk1 b i).tmod (16 : Int) ≤ IntKind.i64.wrap ((rk1 b i).tmod (16 : Int) + 1)), true), (decide ((List.drop (IntKind.i64.wrap ((rk1 b i).tdiv (16 : Int))).toNat (rk8 b i)).length + (List.drop ((rk1 b i).tmod (16 : Int)).toNat (rk9 b i)).length ≤ (9223372036854775807 : Nat)), true), (decide (t.length + (rk2 b i).length ≤ (9223372036854775807 : Nat)), true)] ((0 = 0 ∧ t ++ ([hx (c.toNat / (16 : Nat))] ++ [hx (c.toNat % (16 : Nat))]) = t ++ (rk2 b i) ∧ (rk24 i) = IntKind.i64.wrap ((i : Int) + 1)) ∧ k = k ∧ n = n ∧ b = b ∧ 0 = 0 ∧ m = m) next (oc9 ?_ ?_ ?_ ?_ ?_ ?_ ?_ ?_ ?_ okn) ?_
  all_goals clear next; try dsimp only [rk15, rk19, rk1, rk8, rk9, rk2, rk24]
  all_goals exact sc9

set_option maxHeartbeats 4000000 in
theorem rl6 (k n : Int) (b : List UInt8) (m M : Nat) (F : Ix → Int) (t : List UInt8) (i : Nat) (hi : i = b.length) (hz : b ≠ []) (hb : b.length ≤ 100000)  (v : SV) (L' : HF) (next : RunsTo Tryd.prog 36 (headOf Tryd.f36 1) (envAt Tryd.f36.ntmps ([(3, vS (t)), (62, vL 62 1 m), (63, vN m), (64, vN (0 : Nat))])) (Sx.look ([⟨62, false, none, 1, .ta M (.vi .i64 F)⟩] ++ ([]))) 80 (v) (L') 150) :
    RunsTo Tryd.prog 36 (headOf Tryd.f36 0) (envAt Tryd.f36.ntmps ([(1, vP 101), (3, vS (t)), (4, vN (i : Nat))])) (Sx.look ([⟨62, false, none, 1, .ta M (.vi .i64 F)⟩] ++ ([⟨101, true, none, 139000004, (.tc (.vi .i64 fun _ => k) (.tc (.vi .i64 fun _ => n) (.tc (.vs fun _ => b) (.tc (.vl 62 (fun _ => 0) 1 [] (fun _ => m)) .t0))))⟩]))) 80 (v) (L') 150 := by
  have hp : 0 < b.length := List.length_pos_iff.2 hz
  refine rMo baseRL 400 (behind Tryd.f36 1) 900 110 (hI 2 0) ([]) [(decide ((i : Int) < (rk15 b)), false), ((rk15 b) == 0, false)] ((t = t ∧ (rk27 m) ∧ (m : Int) = (m : Int) ∧ rk23 = (0 : Int)) ∧ True) next (oc2 ?_ ?_ okn) ?_
  all_goals clear next; try dsimp only [rk15, rk27, rk23]
  all_goals exact sc10

set_option maxHeartbeats 4000000 in
theorem rl7 (k n : Int) (b : List UInt8) (m M : Nat) (F : Ix → Int) (t : List UInt8) (i : Nat) (hi : i = b.length) (hz : b = []) (ht : t.length ≤ 1000000)  (v : SV) (L' : HF) (next : RunsTo Tryd.prog 36 (headOf Tryd.f36 1) (envAt Tryd.f36.ntmps ([(3, vS (t ++ [45])), (62, vL 62 1 m), (63, vN m), (64, vN (0 : Nat))])) (Sx.look ([⟨62, false, none, 1, .ta M (.vi .i64 F)⟩] ++ ([]))) 80 (v) (L') 150) :
    RunsTo Tryd.prog 36 (headOf Tryd.f36 0) (envAt Tryd.f36.ntmps ([(1, vP 101), (3, vS (t)), (4, vN (i : Nat))])) (Sx.look ([⟨62, false, none, 1, .ta M (.vi .i64 F)⟩] ++ ([⟨101, true, none, 139000004, (.tc (.vi .i64 fun _ => k) (.tc (.vi .i64 fun _ => n) (.tc (.vs fun _ => b) (.tc (.vl 62 (fun _ => 0) 1 [] (fun _ => m)) .t0))))⟩]))) 80 (v) (L') 150 := by
  have hz2 : b.length = 0 := by rw [hz]; rfl
  refine rMo baseRL 400 (behind Tryd.f36 1) 900 110 (hI 3 20) ([]) [(decide ((i : Int) < (rk15 b)), false), ((rk15 b) == 0, true), (decide (t.length + (1 : Nat) ≤ (9223372036854775807 : Nat)), true)] ((t ++ [(45 : UInt8)] = t ++ [(45 : UInt8)] ∧ (rk27 m) ∧ (m : Int) = (m : Int) ∧ rk23 = (0 : Int)) ∧ True) next (oc3 ?_ ?_ ?_ okn) ?_
  all_goals clear next; try dsimp only [rk15, rk27, rk23]
  all_goals exact sc11

set_option maxHeartbeats 4000000 in
theorem rl8 (k n : Int) (b : List UInt8) (m M : Nat) (F : Ix → Int) (t : List UInt8) (i : Nat) (x : Int) (hi : i < m) (hz : i = 0) (hx : F [i] = x) (hr0 : 0 ≤ x) (hr9 : x ≤ 100000) (q1 : (Lib.itoa x).length ≤ 21) (hM : m ≤ M) (hm : m ≤ 100000) (ht : t.length ≤ 5000000)  (v : SV) (L' : HF) (next : RunsTo Tryd.prog 36 (headOf Tryd.f36 1) (envAt Tryd.f36.ntmps ([(3, vS ((t ++ [32, 109, 97, 114, 107, 115, 32]) ++ Lib.itoa x)), (62, vL 62 1 m), (63, vN m), (64, vN (i + 1 : Nat))])) (Sx.look ([⟨62, false, none, 1, .ta M (.vi .i64 F)⟩] ++ ([]))) 80 (v) (L') 150) :
    RunsTo Tryd.prog 36 (headOf Tryd.f36 1) (envAt Tryd.f36.ntmps ([(3, vS (t)), (62, vL 62 1 m), (63, vN m), (64, vN (i : Nat))])) (Sx.look ([⟨62, false, none, 1, .ta M (.vi .i64 F)⟩] ++ ([]))) 80 (v) (L') 150 := by
  have hw : IntKind.i64.wrap ((i : Int) + 1) = ((i + 1 : Nat) : Int) := by rw [wr64 (by omega)]; rfl
  have hi0 : 0 + ((i : Nat) : Int).toNat = i := by simp
  have E' := (⟨hi0, hx⟩ : _ ∧ _)
  refine rMo baseRL 400 (behind Tryd.f36 1) 900 110 (hI 8 21845) ([]) [(rk20 i m), (rk4 i m), (rk3 M i), (rk3 M i), ((i : Int) == 0, true), (decide (t.length + (7 : Nat) ≤ (9223372036854775807 : Nat)), true), (rk21 F i), (decide ((t ++ [(32 : UInt8), (109 : UInt8), (97 : UInt8), (114 : UInt8), (107 : UInt8), (115 : UInt8), (32 : UInt8)]).length + (Lib.itoa (F [0 + (i : Int).toNat])).length ≤ (9223372036854775807 : Nat)), true)] ((t ++ [(32 : UInt8), (109 : UInt8), (97 : UInt8), (114 : UInt8), (107 : UInt8), (115 : UInt8), (32 : UInt8)] ++ Lib.itoa x = t ++ [(32 : UInt8), (109 : UInt8), (97 : UInt8), (114 : UInt8), (107 : UInt8), (115 : UInt8), (32 : UInt8)] ++ Lib.itoa (F [0 + (i : Int).toNat]) ∧ (rk27 m) ∧ (m : Int) = (m : Int) ∧ (rk24 i) = IntKind.i64.wrap ((i : Int) + 1)) ∧ True) next (oc8 ?_ ?_ ?_ ?_ ?_ ?_ ?_ ?_ okn) ?_
  all_goals clear next; try dsimp only [rk20, rk4, rk3, rk21, rk27, rk24]
  all_goals exact sc12

set_option maxHeartbeats 4000000 in
theorem rl9 (k n : Int) (b : List UInt8) (m M : Nat) (F : Ix → Int) (t : List UInt8) (i : Nat) (x : Int) (hi : i < m) (hz : i ≠ 0) (hx : F [i] = x) (hr0 : 0 ≤ x) (hr9 : x ≤ 100000) (q1 : (Lib.itoa x).length ≤ 21) (hM : m ≤ M) (hm : m ≤ 100000) (ht : t.length ≤ 5000000)  (v : SV) (L' : HF) (next : RunsTo Tryd.prog 36 (headOf Tryd.f36 1) (envAt Tryd.f36.ntmps ([(3, vS ((t ++ [44]) ++ Lib.itoa x)), (62, vL 62 1 m), (63, vN m), (64, vN (i + 1 : Nat))])) (Sx.look ([⟨62, false, none, 1, .ta M (.vi .i64 F)⟩] ++ ([]))) 80 (v) (L') 150) :
    RunsTo Tryd.prog 36 (headOf Tryd.f36 1) (envAt Tryd.f36.ntmps ([(3, vS (t)), (62, vL 62 1 m), (63, vN m), (64, vN (i : Nat))])) (Sx.look ([⟨62, false, none, 1, .ta M (.vi .i64 F)⟩] ++ ([]))) 80 (v) (L') 150 := by
  have hw : IntKind.i64.wrap ((i : Int) + 1) = ((i + 1 : Nat) : Int) := by rw [wr64 (by omega)]; rfl
  have hi0 : 0 + ((i : Nat) : Int).toNat = i := by simp
  have E' := (⟨hi0, hx⟩ : _ ∧ _)
  refine rMo baseRL 400 (behind Tryd.f36 1) 900 110 (hI 8 21589) ([]) [(rk20 i m), (rk4 i m), (rk3 M i), (rk3 M i), ((i : Int) == 0, false), (decide (t.length + (1 : Nat) ≤ (9223372036854775807 : Nat)), true), (rk21 F i), (decide ((t ++ [(44 : UInt8)]).length + (Lib.itoa (F [0 + (i : Int).toNat])).length ≤ (9223372036854775807 : Nat)), true)] ((t ++ [(44 : UInt8)] ++ Lib.itoa x = t ++ [(44 : UInt8)] ++ Lib.itoa (F [0 + (i : Int).toNat]) ∧ (rk27 m) ∧ (m : Int) = (m : Int) ∧ (rk24 i) = IntKind.i64.wrap ((i : Int) + 1)) ∧ True) next (oc8 ?_ ?_ ?_ ?_ ?_ ?_ ?_ ?_ okn) ?_
  all_goals clear next; try dsimp only [rk20, rk4, rk3, rk21, rk27, rk24]
  all_goals exact sc12

set_option maxHeartbeats 4000000 in
theorem rla (k n : Int) (b : List UInt8) (m M : Nat) (F : Ix → Int) (t : List UInt8) (i : Nat) (hi : i = m)  :
    (RunsTo Tryd.prog 36 (headOf Tryd.f36 1) (envAt Tryd.f36.ntmps ([(3, vS (t)), (62, vL 62 1 m), (63, vN m), (64, vN (i : Nat))])) (rk11 F M) 80 (vS t) rk17 150) := by
  refine rEn baseRL 400 (99) 900 110 (hI 1 0) ([]) [(decide ((i : Int) < (m : Int)), false)] (t = t ∧ True) (oc1 ?_ okn) ?_
  all_goals exact sc2

theorem rlT (k n : Int) (b : List UInt8) (m M : Nat) (F : Ix → Int) (hM : m ≤ M) (hm : m ≤ 1100) (hr : rightR ⟨k, n, b, intsF F m⟩ = true) : RunsTo Tryd.prog 36 [.code (bodyOf Tryd.f36)] (envOf [.agg (.tc (.vi .i64 fun _ => k) (.tc (.vi .i64 fun _ => n) (.tc (.vs fun _ => b) (.tc (.vl 62 (fun _ => 0) 1 [] (fun _ => m)) .t0))))] Tryd.f36.ntmps) (Sx.look ([⟨62, false, none, 1, .ta M (.vi .i64 F)⟩] ++ ([]))) 80 (vS (lineR ⟨k, n, b, intsF F m⟩)) (Sx.look []) 150 := by
  obtain ⟨g1, g2, g3⟩ := right_in hr
  have q0 := itoa_len g1
  have hFi : ∀ i, i < m → 0 ≤ F [i] ∧ F [i] < 1024 := fun i hi => g2 _ (by rw [← intsF_get F hi]; exact getD_mem' (by rw [intsF_len]; exact hi))
  have hk : k = 1 ∨ ((k = 2 ∨ k = 3) ∧ 0 ≤ n ∧ n ≤ 9999) ∨ k = 4 := by
    have hr := hr
    unfold rightR at hr
    split at hr
    · exact .inl (by assumption)
    · split at hr
      · rw [decide_eq_true_eq] at hr; exact .inr (.inl ⟨by assumption, hr.1, hr.2.1⟩)
      · split at hr
        · exact .inr (.inr (by assumption))
        · cases hr
  unfold lineR
  rcases hk with hk | ⟨hk | hk, h0, h9⟩ | hk
  · rw [if_neg (by show ¬ k = 2; omega), if_neg (by show ¬ k = 3; omega), if_neg (by show ¬ k = 4; omega)]
    have e2 : (intsF F m = []) = (m = 0) := by rw [← List.length_eq_zero_iff, intsF_len]
    have g3 : b.length ≤ 1024 := g3
    refine rl1 k n b m M F (by omega) (by omega) (by omega) _ _ ?_
    -- the marks
    have marks : ∀ t : List UInt8, t.length ≤ 100000 → RunsTo Tryd.prog 36 (headOf Tryd.f36 1) (envAt Tryd.f36.ntmps ([(3, vS (t)), (62, vL 62 1 m), (63, vN m), (64, vN (0 : Nat))])) (Sx.look ([⟨62, false, none, 1, .ta M (.vi .i64 F)⟩] ++ ([]))) 80 (vS (if m = 0 then t else (t ++ [32, 109, 97, 114, 107, 115, 32]) ++ joinR 44 ((intsF F m).map Lib.itoa))) (Sx.look []) 150 := by
      intro t ht
      by_cases hm0 : m = 0
      · rw [if_pos hm0]; exact rla k n b m M F t 0 (by omega)
      rw [if_neg hm0]
      have hx := hFi 0 (by omega)
      refine rl8 k n b m M F t 0 (F [0]) (by omega) rfl rfl hx.1 (by omega) (itoa_len (inN_of (by omega))) hM (by omega) (by omega) _ _ ?_
      suffices q : ∀ (j i : Nat), i + 1 + j = m → RunsTo Tryd.prog 36 (headOf Tryd.f36 1) (envAt Tryd.f36.ntmps ([(3, vS ((t ++ [32, 109, 97, 114, 107, 115, 32]) ++ joinR 44 (((intsF F m).take (i + 1)).map Lib.itoa))), (62, vL 62 1 m), (63, vN m), (64, vN (i + 1 : Nat))])) (Sx.look ([⟨62, false, none, 1, .ta M (.vi .i64 F)⟩] ++ ([]))) 80 (vS ((t ++ [32, 109, 97, 114, 107, 115, 32]) ++ joinR 44 ((intsF F m).map Lib.itoa))) (Sx.look []) 150 from by
        have := q (m - 1) 0 (by omega)
        rw [intsF_take F (show 0 < m by omega)] at this
        exact this
      intro j
      induction j with
      | zero =>
        intro i hi
        have : (intsF F m).take (i + 1) = intsF F m := List.take_of_length_le (by rw [intsF_len]; omega)
        rw [this]
        exact rla k n b m M F _ (i + 1) (by omega)
      | succ j ih =>
        intro i hi
        have hx := hFi (i + 1) (by omega)
        have := ih (i + 1) (by omega)
        rw [intsF_take F (show i + 1 < m by omega), List.map_append, List.map_singleton, joinR_snoc 44 _ _ (by
          intro e
          have := congrArg List.length e
          rw [List.length_map, List.length_take, intsF_len] at this
          simp at this; omega)] at this
        have hl := joinR_le 44 (((intsF F m).take (i + 1)).map Lib.itoa) (fun a ha => by
          obtain ⟨x, hx, rfl⟩ := List.mem_map.1 ha
          have := g2 x (List.mem_of_mem_take hx)
          exact itoa_len (inN_of (by omega)))
        rw [List.length_map, List.length_take, intsF_len] at hl
        refine rl9 k n b m M F _ (i + 1) (F [i + 1]) (by omega) (by omega) rfl hx.1 (by omega) (itoa_len (inN_of (by omega))) hM (by omega) (by simp only [List.length_append, List.length_cons, List.length_nil]; omega) _ _ ?_
        simp only [List.append_assoc, List.cons_append, List.nil_append] at this ⊢
        exact this
    -- the bytes
    suffices q : ∀ (j i : Nat), i + j = b.length → RunsTo Tryd.prog 36 (headOf Tryd.f36 0) (envAt Tryd.f36.ntmps ([(1, vP 101), (3, vS ([98, 121, 116, 101, 115, 32] ++ hexT (b.take i))), (4, vN (i : Nat))])) (Sx.look ([⟨62, false, none, 1, .ta M (.vi .i64 F)⟩] ++ ([⟨101, true, none, 139000004, (.tc (.vi .i64 fun _ => k) (.tc (.vi .i64 fun _ => n) (.tc (.vs fun _ => b) (.tc (.vl 62 (fun _ => 0) 1 [] (fun _ => m)) .t0))))⟩]))) 80 (vS (if ({ K := k, N := n, B := b, M := intsF F m } : RawR.Ev).M = [] then wBytes ++ 32 :: toldR ({ K := k, N := n, B := b, M := intsF F m } : RawR.Ev).B else wBytes ++ 32 :: (toldR ({ K := k, N := n, B := b, M := intsF F m } : RawR.Ev).B ++ 32 :: (wMarks ++ 32 :: placesR ({ K := k, N := n, B := b, M := intsF F m } : RawR.Ev).M)))) (Sx.look []) 150 from by
      have := q b.length 0 (by omega)
      simpa [hexT] using this
    intro j
    induction j with
    | zero =>
      intro i hi
      have ht : b.take i = b := List.take_of_length_le (by omega)
      have hl := hexT_len b
      rw [ht]
      have fin : ∀ t, t = [98, 121, 116, 101, 115, 32] ++ toldR b → RunsTo Tryd.prog 36 (headOf Tryd.f36 1) (envAt Tryd.f36.ntmps ([(3, vS (t)), (62, vL 62 1 m), (63, vN m), (64, vN (0 : Nat))])) (Sx.look ([⟨62, false, none, 1, .ta M (.vi .i64 F)⟩] ++ ([]))) 80 (vS (if m = 0 then t else (t ++ [32, 109, 97, 114, 107, 115, 32]) ++ joinR 44 ((intsF F m).map Lib.itoa))) (Sx.look []) 150 → RunsTo Tryd.prog 36 (headOf Tryd.f36 1) (envAt Tryd.f36.ntmps ([(3, vS (t)), (62, vL 62 1 m), (63, vN m), (64, vN (0 : Nat))])) (Sx.look ([⟨62, false, none, 1, .ta M (.vi .i64 F)⟩] ++ ([]))) 80 (vS (if ({ K := k, N := n, B := b, M := intsF F m } : RawR.Ev).M = [] then wBytes ++ 32 :: toldR ({ K := k, N := n, B := b, M := intsF F m } : RawR.Ev).B else wBytes ++ 32 :: (toldR ({ K := k, N := n, B := b, M := intsF F m } : RawR.Ev).B ++ 32 :: (wMarks ++ 32 :: placesR ({ K := k, N := n, B := b, M := intsF F m } : RawR.Ev).M)))) (Sx.look []) 150 := by
        intro t e h
        subst e
        have e3 : (if m = 0 then [98, 121, 116, 101, 115, 32] ++ toldR b else ([98, 121, 116, 101, 115, 32] ++ toldR b ++ [32, 109, 97, 114, 107, 115, 32]) ++ joinR 44 ((intsF F m).map Lib.itoa)) = (if ({ K := k, N := n, B := b, M := intsF F m } : RawR.Ev).M = [] then wBytes ++ 32 :: toldR ({ K := k, N := n, B := b, M := intsF F m } : RawR.Ev).B else wBytes ++ 32 :: (toldR ({ K := k, N := n, B := b, M := intsF F m } : RawR.Ev).B ++ 32 :: (wMarks ++ 32 :: placesR ({ K := k, N := n, B := b, M := intsF F m } : RawR.Ev).M))) := by
          by_cases hm0 : m = 0
          · rw [if_pos hm0, if_pos (by show intsF F m = []; rw [e2]; exact hm0)]; rfl
          · rw [if_neg hm0, if_neg (by show ¬ intsF F m = []; rw [e2]; exact hm0)]
            simp [wBytes, wMarks, placesR]
        rw [← e3]
        exact h
      by_cases hz : b = []
      · refine rl7 k n b m M F _ i (by omega) hz (by simp; omega) _ _ ?_
        refine fin _ ?_ (marks _ (by simp; omega))
        rw [hz]; rfl
      · refine rl6 k n b m M F _ i (by omega) hz (by omega) _ _ ?_
        refine fin _ ?_ (marks _ (by simp; omega))
        unfold toldR; rw [if_neg hz]; rfl
    | succ j ih =>
      intro i hi
      have hl : (hexT (b.take i)).length ≤ 2 * 1024 := by rw [hexT_len, List.length_take]; omega
      refine rl5 k n b m M F _ i (b.getD i 0) (by omega) (by omega) rfl (by simp only [List.length_append, List.length_cons, List.length_nil]; omega) _ _ ?_
      have := ih (i + 1) (by omega)
      rw [hexT_snoc b (show i < b.length by omega)] at this
      rw [List.append_assoc]
      exact this
  · rw [if_pos (show k = 2 from hk)]; exact rl2 k n b m M F hk q0 h0 h9
  · rw [if_neg (by show ¬ k = 2; omega), if_pos (show k = 3 from hk)]; exact rl3 k n b m M F hk q0 h0 h9
  · rw [if_neg (by show ¬ k = 2; omega), if_neg (by show ¬ k = 3; omega), if_pos (show k = 4 from hk)]; exact rl4 k n b m M F hk
def rlP : PC := { args := [.agg (.tc (.vi .i64 0) (.tc (.vi .i64 1) (.tc (.vs 2) (.tc (.vl 62 1 3) .t0))))], heap := [⟨62, false, 1, .ta 7 (.vi .i64 8)⟩], gs := [], G := 24, tp := 194, n := 80, n' := 150, cond := fun e => decide (eN e 3 ≤ eN e 7) && (decide (eN e 3 ≤ 1100) && rightR ⟨eI e 0 [], eI e 1 [], eS e 2 [], intsF (eI e 8) (eN e 3)⟩), v := fun e => vS (lineR ⟨eI e 0 [], eI e 1 [], eS e 2 [], intsF (eI e 8) (eN e 3)⟩), post := fun e => [] }
theorem rlP_pc : PC.Runs Tryd.prog 36 Tryd.f36 (bodyOf Tryd.f36) rlP := ⟨Tryd.func36, by kernel_rfl, (fun g hg => by first | (cases hg; done) | (revert g; show ∀ g ∈ ([] : List Nat), g < 24; decide)), fun e H hc => by
  have hc : (decide (eN e 3 ≤ eN e 7) && (decide (eN e 3 ≤ 1100) && rightR ⟨eI e 0 [], eI e 1 [], eS e 2 [], intsF (eI e 8) (eN e 3)⟩)) = true := hc
  try simp only [Bool.and_eq_true, decide_eq_true_eq, Nat.beq_eq] at hc
  exact rlT (eI e 0 []) (eI e 1 []) (eS e 2 []) (eN e 3) (eN e 7) (eI e 8) hc.1 hc.2.1 hc.2.2⟩

set_option maxHeartbeats 4000000 in
theorem st0 (n m M N : Nat) (F U : Ix → Int) (h : n ≠ m)  :
    (RunsTo Tryd.prog 56 [.code (bodyOf Tryd.f56)] (envOf [vL 62 1 n, vL 64 1 m] Tryd.f56.ntmps) (rk14 F M N U) 80 (vB false) rk17 115) := by
  refine rEn baseO 300 (99) 900 80 (hI 1 1) ([]) [((n : Int) != (m : Int), true)] rk7 (oc1 ?_ okn) ?_
  all_goals try dsimp only [rk7]
  all_goals exact sc3

set_option maxHeartbeats 4000000 in
theorem st1 (n m M N : Nat) (F U : Ix → Int) (e : n = m)  (v : SV) (L' : HF) (next : RunsTo Tryd.prog 56 (headOf Tryd.f56 0) (envAt Tryd.f56.ntmps ([(1, vL 64 1 m), (12, vL 62 1 n), (13, vN n), (14, vN (0 : Nat))])) (Sx.look (([⟨62, false, none, 1, .ta M (.vi .i64 F)⟩] ++ [⟨64, false, none, 1, .ta N (.vi .i64 U)⟩]) ++ ([]))) 80 (v) (L') 115) :
    RunsTo Tryd.prog 56 [.code (bodyOf Tryd.f56)] (envOf [vL 62 1 n, vL 64 1 m] Tryd.f56.ntmps) (Sx.look (([⟨62, false, none, 1, .ta M (.vi .i64 F)⟩] ++ [⟨64, false, none, 1, .ta N (.vi .i64 U)⟩]) ++ ([]))) 80 (v) (L') 115 := by
  refine rMo baseO 300 (behind Tryd.f56 0) 900 80 (hI 1 0) ([]) [((n : Int) != (m : Int), false)] (((rk27 m) ∧ (0 = 0 ∧ n = n) ∧ (n : Int) = (n : Int) ∧ rk23 = (0 : Int)) ∧ True) next (oc1 ?_ okn) ?_
  all_goals clear next; try dsimp only [rk27, rk23]
  all_goals exact sc3

set_option maxHeartbeats 4000000 in
theorem st2 (n m M N : Nat) (F U : Ix → Int) (i : Nat) (hi : i < n) (e : n = m) (hM : n ≤ M) (hM2 : m ≤ N) (hn : n ≤ 100000) (h : F [i] = U [i])  (v : SV) (L' : HF) (next : RunsTo Tryd.prog 56 (headOf Tryd.f56 0) (envAt Tryd.f56.ntmps ([(1, vL 64 1 m), (12, vL 62 1 n), (13, vN n), (14, vN (i + 1 : Nat))])) (Sx.look (([⟨62, false, none, 1, .ta M (.vi .i64 F)⟩] ++ [⟨64, false, none, 1, .ta N (.vi .i64 U)⟩]) ++ ([]))) 80 (v) (L') 115) :
    RunsTo Tryd.prog 56 (headOf Tryd.f56 0) (envAt Tryd.f56.ntmps ([(1, vL 64 1 m), (12, vL 62 1 n), (13, vN n), (14, vN (i : Nat))])) (Sx.look (([⟨62, false, none, 1, .ta M (.vi .i64 F)⟩] ++ [⟨64, false, none, 1, .ta N (.vi .i64 U)⟩]) ++ ([]))) 80 (v) (L') 115 := by
  have hw : IntKind.i64.wrap ((i : Int) + 1) = ((i + 1 : Nat) : Int) := by rw [wr64 (by omega)]; rfl
  have E' := (⟨hw, h⟩ : _ ∧ _)
  refine rMo baseO 300 (behind Tryd.f56 0) 900 110 (hI 8 5461) ([]) [(decide ((i : Int) < (n : Int)), true), (decide (0 ≤ (i : Int) ∧ (i : Int) < (n : Int)), true), (rk3 M i), (rk3 M i), (rk4 i m), (rk28 N i), (rk28 N i), (F [0 + (i : Int).toNat] != U [0 + (i : Int).toNat], false)] (((rk27 m) ∧ (0 = 0 ∧ n = n) ∧ (n : Int) = (n : Int) ∧ (rk24 i) = IntKind.i64.wrap ((i : Int) + 1)) ∧ True) next (oc8 ?_ ?_ ?_ ?_ ?_ ?_ ?_ ?_ okn) ?_
  all_goals clear next; try dsimp only [rk3, rk4, rk28, rk27, rk24]
  all_goals exact sc13

set_option maxHeartbeats 4000000 in
theorem st3 (n m M N : Nat) (F U : Ix → Int) (i : Nat) (hi : i < n) (e : n = m) (hM : n ≤ M) (hM2 : m ≤ N) (hn : n ≤ 100000) (h : F [i] ≠ U [i])  :
    (RunsTo Tryd.prog 56 (headOf Tryd.f56 0) (envAt Tryd.f56.ntmps ([(1, vL 64 1 m), (12, vL 62 1 n), (13, vN n), (14, vN (i : Nat))])) (rk14 F M N U) 80 (vB false) rk17 115) := by
  have hw : IntKind.i64.wrap ((i : Int) + 1) = ((i + 1 : Nat) : Int) := by rw [wr64 (by omega)]; rfl
  have E' := (⟨hw, h⟩ : _ ∧ _)
  refine rEn baseO 300 (99) 900 110 (hI 8 21845) ([]) [(decide ((i : Int) < (n : Int)), true), (decide (0 ≤ (i : Int) ∧ (i : Int) < (n : Int)), true), (rk3 M i), (rk3 M i), (rk4 i m), (rk28 N i), (rk28 N i), (F [0 + (i : Int).toNat] != U [0 + (i : Int).toNat], true)] rk7 (oc8 ?_ ?_ ?_ ?_ ?_ ?_ ?_ ?_ okn) ?_
  all_goals try dsimp only [rk3, rk4, rk28, rk7]
  all_goals exact sc13

set_option maxHeartbeats 4000000 in
theorem st4 (n m M N : Nat) (F U : Ix → Int) (i : Nat) (hi : i = n)  :
    (RunsTo Tryd.prog 56 (headOf Tryd.f56 0) (envAt Tryd.f56.ntmps ([(1, vL 64 1 m), (12, vL 62 1 n), (13, vN n), (14, vN (i : Nat))])) (rk14 F M N U) 80 (YES) rk17 115) := by
  refine rEn baseO 300 (99) 900 110 (hI 1 0) ([]) [(decide ((i : Int) < (n : Int)), false)] (true = true ∧ True) (oc1 ?_ okn) ?_
  all_goals exact sc3

theorem stT (n m M N : Nat) (F U : Ix → Int) (hM : n ≤ M) (hM2 : m ≤ N) (hn : n ≤ 100000) : RunsTo Tryd.prog 56 [.code (bodyOf Tryd.f56)] (envOf [vL 62 1 n, vL 64 1 m] Tryd.f56.ntmps) (Sx.look (([⟨62, false, none, 1, .ta M (.vi .i64 F)⟩] ++ [⟨64, false, none, 1, .ta N (.vi .i64 U)⟩]) ++ ([]))) 80 (vB (eqI n m F U)) (Sx.look []) 115 := by
  unfold eqI
  by_cases h : n = m
  · refine st1 n m M N F U h _ _ ?_
    rw [decide_eq_true h, Bool.true_and]
    exact all_loop (R := fun i b => RunsTo Tryd.prog 56 (headOf Tryd.f56 0) (envAt Tryd.f56.ntmps ([(1, vL 64 1 m), (12, vL 62 1 n), (13, vN n), (14, vN (i : Nat))])) (Sx.look (([⟨62, false, none, 1, .ta M (.vi .i64 F)⟩] ++ [⟨64, false, none, 1, .ta N (.vi .i64 U)⟩]) ++ ([]))) 80 (vB b) (Sx.look []) 115) (fun i hi hk b q => st2 n m M N F U i hi h hM hM2 hn (of_decide_eq_true hk) _ _ q) (fun i hi hk => st3 n m M N F U i hi h hM hM2 hn (of_decide_eq_false hk)) (st4 n m M N F U n rfl)
  · rw [decide_eq_false h, Bool.false_and]; exact st0 n m M N F U h
def stP : PC := { args := [.v (.vl 62 1 0), .v (.vl 64 1 1)], heap := [⟨62, false, 1, .ta 5 (.vi .i64 6)⟩, ⟨64, false, 1, .ta 7 (.vi .i64 8)⟩], gs := [], G := 24, tp := 194, n := 80, n' := 115, cond := fun e => decide (eN e 0 ≤ eN e 5) && (decide (eN e 1 ≤ eN e 7) && decide (eN e 0 ≤ 100000)), v := fun e => vB (eqI (eN e 0) (eN e 1) (eI e 6) (eI e 8)), post := fun e => [] }
theorem stP_pc : PC.Runs Tryd.prog 56 Tryd.f56 (bodyOf Tryd.f56) stP := ⟨Tryd.func56, by kernel_rfl, (fun g hg => by first | (cases hg; done) | (revert g; show ∀ g ∈ ([] : List Nat), g < 24; decide)), fun e H hc => by
  have hc : (decide (eN e 0 ≤ eN e 5) && (decide (eN e 1 ≤ eN e 7) && decide (eN e 0 ≤ 100000))) = true := hc
  try simp only [Bool.and_eq_true, decide_eq_true_eq, Nat.beq_eq] at hc
  exact stT (eN e 0) (eN e 1) (eN e 5) (eN e 7) (eI e 6) (eI e 8) hc.1 hc.2.1 hc.2.2⟩
def sumsRS : List (FuncId × Summ) := [(56, stP.summ 48)]
theorem baseRS : Base0 Tryd.prog sumsRS := (baseO.cons Tryd.func56 (by kernel_rfl) (PC.summ_ok stP_pc gtopG))

set_option maxHeartbeats 4000000 in
theorem rsT (k n : Int) (b : List UInt8) (m M : Nat) (F : Ix → Int) (k' n' : Int) (b' : List UInt8) (m' M' : Nat) (F' : Ix → Int) (h2 : m ≤ M) (h4 : m' ≤ M') (h5 : m ≤ 100000)  :
    (RunsTo Tryd.prog 38 [.code (bodyOf Tryd.f38)] (envOf [.agg (.tc (.vi .i64 fun _ => k) (.tc (.vi .i64 fun _ => n) (.tc (.vs fun _ => b) (.tc (.vl 62 (fun _ => 0) 1 [] (fun _ => m)) .t0)))), .agg (.tc (.vi .i64 fun _ => k') (.tc (.vi .i64 fun _ => n') (.tc (.vs fun _ => b') (.tc (.vl 64 (fun _ => 0) 1 [] (fun _ => m')) .t0))))] Tryd.f38.ntmps) (Sx.look (([⟨62, false, none, 1, .ta M (.vi .i64 F)⟩] ++ [⟨64, false, none, 1, .ta M' (.vi .i64 F')⟩]) ++ ([]))) 80 (vB (sameT k n k' n' b b' m m' F F')) rk17 120) := by
  refine bcase (fun gg0 => (rEn baseRS 300 (99) 900 80 (hI 1 0) ([]) [(k == k', false)] (sameT k n k' n' b b' m m' F F' = false ∧ True) (oc1 gg0 okn) ?_)) fun gg0 => (bcase (fun gg1 => (rEn baseRS 300 (99) 900 80 (hI 2 1) ([]) [(k == k', true), (n == n', false)] (sameT k n k' n' b b' m m' F F' = false ∧ True) (oc2 gg0 gg1 okn) ?_)) fun gg1 => (bcase (fun gg2 => (rEn baseRS 300 (99) 900 80 (hI 3 5) ([]) [(k == k', true), (n == n', true), (b == b', false)] (sameT k n k' n' b b' m m' F F' = false ∧ True) (oc3 gg0 gg1 gg2 okn) ?_)) fun gg2 => (rEn baseRS 300 (99) 900 80 (hI 4 85) ([]) [(k == k', true), (n == n', true), (b == b', true), (decide (m ≤ M) && (decide (m' ≤ M') && decide (m ≤ (100000 : Nat))), true)] (sameT k n k' n' b b' m m' F F' = eqI m m' F F' ∧ True) (oc4 gg0 gg1 gg2 ?_ okn) ?_)))
  all_goals exact sc14

def rsP : PC := { args := [.agg (.tc (.vi .i64 0) (.tc (.vi .i64 1) (.tc (.vs 2) (.tc (.vl 62 1 3) .t0)))), .agg (.tc (.vi .i64 10) (.tc (.vi .i64 11) (.tc (.vs 12) (.tc (.vl 64 1 13) .t0))))], heap := [⟨62, false, 1, .ta 7 (.vi .i64 8)⟩, ⟨64, false, 1, .ta 17 (.vi .i64 18)⟩], gs := [], G := 24, tp := 194, n := 80, n' := 120, cond := fun e => decide (eN e 3 ≤ eN e 7) && (decide (eN e 13 ≤ eN e 17) && decide (eN e 3 ≤ 100000)), v := fun e => vB (sameT (eI e 0 []) (eI e 1 []) (eI e 10 []) (eI e 11 []) (eS e 2 []) (eS e 12 []) (eN e 3) (eN e 13) (eI e 8) (eI e 18)), post := fun e => [] }
theorem rsP_pc : PC.Runs Tryd.prog 38 Tryd.f38 (bodyOf Tryd.f38) rsP := ⟨Tryd.func38, by kernel_rfl, (fun g hg => by first | (cases hg; done) | (revert g; show ∀ g ∈ ([] : List Nat), g < 24; decide)), fun e H hc => by
  have hc : (decide (eN e 3 ≤ eN e 7) && (decide (eN e 13 ≤ eN e 17) && decide (eN e 3 ≤ 100000))) = true := hc
  try simp only [Bool.and_eq_true, decide_eq_true_eq, Nat.beq_eq] at hc
  exact rsT (eI e 0 []) (eI e 1 []) (eS e 2 []) (eN e 3) (eN e 7) (eI e 8) (eI e 10 []) (eI e 11 []) (eS e 12 []) (eN e 13) (eN e 17) (eI e 18) hc.1 hc.2.1 hc.2.2⟩
end Go.Proofs.YtankmgnjkcgpaaaDoor

set_option linter.unusedSimpArgs false
set_option linter.unusedVariables false
set_option maxRecDepth 100000
namespace Go.Proofs.YtankmgnjkcgpaaaDoor
open Go.Sx

open RawR
def eK (T : List RawR.Ev) : Ix → Int := fun is => (T.getD (is.headD 0) ev0).K
def eN' (T : List RawR.Ev) : Ix → Int := fun is => (T.getD (is.headD 0) ev0).N
def eX (T : List RawR.Ev) : Ix → Nat := fun is => T.length - 1 - is.headD 0
def eLB (T : List RawR.Ev) : Ix → Nat := fun is => (T.getD (is.headD 0) ev0).B.length
def eLM (T : List RawR.Ev) : Ix → Nat := fun is => (T.getD (is.headD 0) ev0).M.length
def gLB (T : List RawR.Ev) : Nat → Nat := fun m => (T.getD (T.length - 1 - m) ev0).B.length
def gLM (T : List RawR.Ev) : Nat → Nat := fun m => (T.getD (T.length - 1 - m) ev0).M.length
def gB (T : List RawR.Ev) : Ix → Int := fun is => (((T.getD (T.length - 1 - is.headD 0) ev0).B.getD (is.tail.headD 0) 0).toNat : Int)
def gM (T : List RawR.Ev) : Ix → Int := fun is => (T.getD (T.length - 1 - is.headD 0) ev0).M.getD (is.tail.headD 0) 0
def evE (l f g : Nat) (T : List RawR.Ev) : List Ent := [⟨l, true, none, 4, .ta T.length (.tc (.vi .i64 (eK T)) (.tc (.vi .i64 (eN' T)) (.tc (.vl f (eX T) 1 [] (eLB T)) (.tc (.vl g (eX T) 1 [] (eLM T)) .t0))))⟩, ⟨f, true, some (T.length, gLB T), 1, .vi .u8 (gB T)⟩, ⟨g, true, some (T.length, gLM T), 1, .vi .i64 (gM T)⟩]
def skipB (l : List UInt8) : Bool := decide (l = []) || decide (l.getD 0 0 = 35)
def allGo : Nat → List RawR.Ev → List (List UInt8) → List RawR.Ev × Nat × Nat
  | _, T, [] => (T, 0, 16)
  | i, T, l :: r => if skipB l = true then allGo (i + 1) T r else if evK l = 16 then allGo (i + 1) (T ++ [evR l]) r else ([], i + 1, 4)
def allR (t : List UInt8) : List RawR.Ev × Nat × Nat := if 100000 < t.length then ([], 0, 3) else allGo 0 [] (splitR 10 t)
def alV (p : List RawR.Ev × Nat × Nat) : SV := .tup [(false, .vl 141 (fun _ => 0) 4 [] (fun _ => p.1.length)), (false, .vi .i64 fun _ => (p.2.1 : Int)), (false, .vx 194 errL fun _ => p.2.2)]
def alX (H : List Ent) : List Ent := sentEnts 24 194 (textsIn 24 H [1, 2, 20, 21])
theorem ev_app {β : Type} (f : RawR.Ev → β) (T : List RawR.Ev) (t : RawR.Ev) (g : Ix → β) (hg : g [0] = f t) : ∀ k, k < T.length + 1 → f ((T ++ [t]).getD k ev0) = appF T.length 0 (fun is => f (T.getD (is.headD 0) ev0)) g [k] := fun k hk =>
  app_get f ev0 T [t] g (fun j hj => by
    have : j = 0 := by simp at hj; omega
    subst this; exact hg) k (by simpa using hk)
theorem eX_app (T : List RawR.Ev) (t : RawR.Ev) (f g : Ix → Nat) (hf : ∀ k, k < T.length → f [k] = T.length - 1 - k + 1) (hg : g [0] = 0) : ∀ k, k < T.length + 1 → eX (T ++ [t]) [k] = appF T.length 0 f g [k] := fun k hk => by
  simp only [eX, appF, List.length_append, List.length_cons, List.length_nil, List.headD, Nat.zero_add]
  split
  · rename_i h; have := hf k h; omega
  · have : k = T.length := by omega
    subst this; simp [hg]
theorem egetD_last (T : List RawR.Ev) (t : RawR.Ev) : (T ++ [t]).getD T.length ev0 = t := by simp
theorem egetD_pre (T : List RawR.Ev) (t : RawR.Ev) {k : Nat} (h : k < T.length) : (T ++ [t]).getD k ev0 = T.getD k ev0 := by simp [List.getD_eq_getElem?_getD, List.getElem?_append_left h]
theorem gL_cons (f : RawR.Ev → Nat) (T : List RawR.Ev) (t : RawR.Ev) (n : Nat) (hn : n = f t) : ∀ m, m < T.length + 1 → f ((T ++ [t]).getD ((T ++ [t]).length - 1 - m) ev0) = consN n (fun m => f (T.getD (T.length - 1 - m) ev0)) m
  | 0, _ => by simp [consN, hn]
  | m + 1, h => by
    simp only [consN, List.length_append, List.length_cons, List.length_nil]
    rw [show T.length + (0 + 1) - 1 - (m + 1) = T.length - 1 - m by omega, egetD_pre T t (by omega)]
theorem gF_cons (f : RawR.Ev → Nat → Int) (len : RawR.Ev → Nat) (T : List RawR.Ev) (t : RawR.Ev) (g : Ix → Int) : ∀ m, m < T.length + 1 → ∀ j, (∀ j, j < len t → g [j] = f t j) → j < len ((T ++ [t]).getD ((T ++ [t]).length - 1 - m) ev0) →
    f ((T ++ [t]).getD ((T ++ [t]).length - 1 - m) ev0) j = consF g (fun is => f (T.getD (T.length - 1 - is.headD 0) ev0) (is.tail.headD 0)) [m, j]
  | 0, _, j, hg, hj => by
    have e : (T ++ [t]).length - 1 - 0 = T.length := by simp
    rw [e, egetD_last] at hj ⊢
    simp only [consF]
    exact (hg j hj).symm
  | m + 1, h, j, hg, hj => by
    simp only [consF, List.headD, List.tail, List.length_append, List.length_cons, List.length_nil]
    rw [show T.length + (0 + 1) - 1 - (m + 1) = T.length - 1 - m by omega, egetD_pre T t (by omega)]
def sumsAL : List (FuncId × Summ) := [(76, spP.summ 48), (30, paP.summ 48)]
theorem baseAL : Base0 Tryd.prog sumsAL := ((baseO.cons Tryd.func30 (by kernel_rfl) (PC.summ_ok paP_pc gtopG)).cons Tryd.func76 (by kernel_rfl) (PC.summ_ok spP_pc gtopG))
theorem al0_p0 (H : List Ent) (t : List UInt8) (T : List RawR.Ev) (at0 k : Nat) :
    isEnd (evTill Tryd.prog sumsAL 500 (99) 900 40 [.code (bodyOf Tryd.f40)] (envOf [vS t] Tryd.f40.ntmps) (alX H ++ ([])) ⟨[.s true], 80⟩) (endP ([((141 : Nat), Rn.nil (4 : Nat)), ((142 : Nat), Rn.nil (1 : Nat)), ((143 : Nat), Rn.nil (1 : Nat))]) (alV (T, at0, k)) (evE 141 142 143 T) 470) =
    (OkL [(decide ((↑t.length : Int) > (100000 : Int)), true)] ∧
  (T.length = (0 : Nat) ∧
      (↑at0 : Int) = (0 : Int) ∧
        ((0 : Nat) = (0 : Nat) ∧
            (match nthL errL k with
              | some a =>
                match if Nat.beq (141 : Nat) a = true then Rn.nil (4 : Nat) else if Nat.beq (142 : Nat) a = true then Rn.nil (1 : Nat) else if Nat.beq (143 : Nat) a = true then Rn.nil (1 : Nat) else Rn.to a with
                | Rn.to k => k.beq (26 : Nat)
                | x => false
              | none => false) =
              true) ∧
          True) ∧
    T.length = (0 : Nat) ∧ T.length = (0 : Nat) ∧ T.length = (0 : Nat)) := by kernel_rfl

set_option maxHeartbeats 4000000 in
theorem al0 (H : List Ent) (t : List UInt8) (T : List RawR.Ev) (at0 k : Nat) (h : 100000 < t.length) (hT : T = []) (ha : at0 = 0) (hk : k = 3)  :
    RunsTo Tryd.prog 40 [.code (bodyOf Tryd.f40)] (envOf [vS t] Tryd.f40.ntmps) (Sx.look (alX H ++ ([]))) 80 (alV (T, at0, k)) (Sx.look (evE 141 142 143 T)) 470 := by
  have hTl : T.length = 0 := by rw [hT]; rfl
  refine runs_last baseAL (Sx.Ends.of (al0_p0 H t T at0 k) ⟨?oo, ?rr⟩) (by kernel_rfl) rfl (gtL (by decide)) (by decide)
  case oo =>
    refine (okc ?_ okn)
    all_goals first | rfl | (simp only [SS]; omega)
  case rr =>
    repeat' apply And.intro
    all_goals first | exact True.intro | with_reducible rfl | omega | (subst ha; rfl) | (subst hk; rfl) | (subst hk; decide) | (intro j hj; omega)

theorem al1_p0 (H : List Ent) (t : List UInt8) (ws : List (List UInt8)) :
    isMore (evTill Tryd.prog sumsAL 500 (behind Tryd.f40 0) 900 40 [.code (bodyOf Tryd.f40)] (envOf [vS t] Tryd.f40.ntmps) (alX H ++ ([])) ⟨[.s false, .s true], 80⟩) (moreP (headOf Tryd.f40 0) ([((103 : Nat), Rn.nil (4 : Nat)), ((101 : Nat), Rn.to (141 : Nat)), ((104 : Nat), Rn.nil (1 : Nat)), ((105 : Nat), Rn.nil (1 : Nat))]) Tryd.f40.ntmps ([(5, vL 103 4 (([] : List RawR.Ev)).length), (15, vL 101 1 ws.length), (16, vN ws.length), (17, vN (0 : Nat))]) (txE true 101 ws.length ws ++ evE 103 104 105 (([] : List RawR.Ev))) 470) =
    (OkL [(decide ((↑t.length : Int) > (100000 : Int)), false), (decide ([(10 : UInt8)] = [#[(10 : UInt8)].toList.headD (0 : UInt8)]) && (decide ((0 : Int) = (0 : Int)) && (decide ((-1 : Int) = (-1 : Int)) && decide (t.length ≤ (1000000 : Nat)))), true)] ∧ headOf Tryd.f40 (0 : Nat) = headOf Tryd.f40 (0 : Nat) ∧ ((0 : Nat) = (0 : Nat) ∧ ((0 : Nat) = (0 : Nat) ∧ ws.length = (splitR (#[(10 : UInt8)].toList.headD (0 : UInt8)) t).length) ∧ (↑ws.length : Int) = (↑(splitR (#[(10 : UInt8)].toList.headD (0 : UInt8)) t).length : Int) ∧ (↑(0 : Nat) : Int) = (0 : Int)) ∧ (ws.length = (splitR (#[(10 : UInt8)].toList.headD (0 : UInt8)) t).length ∧ ∀ (i : Nat), i < ws.length → ws.getD i [] = (splitR (#[(10 : UInt8)].toList.headD (0 : UInt8)) t).getD i []) ∧ (0 : Nat) = (0 : Nat) ∧ (0 : Nat) = (0 : Nat) ∧ (0 : Nat) = (0 : Nat)) := by kernel_rfl

set_option maxHeartbeats 4000000 in
theorem al1 (H : List Ent) (t : List UInt8) (ws : List (List UInt8)) (h : t.length ≤ 100000) (hw : splitR 10 t = ws)  (v : SV) (L' : HF) (next : RunsTo Tryd.prog 40 (headOf Tryd.f40 0) (envAt Tryd.f40.ntmps ([(5, vL 103 4 (([] : List RawR.Ev)).length), (15, vL 101 1 ws.length), (16, vN ws.length), (17, vN (0 : Nat))])) (Sx.look (alX H ++ (txE true 101 ws.length ws ++ evE 103 104 105 (([] : List RawR.Ev))))) 80 (v) (L') 470) :
    RunsTo Tryd.prog 40 [.code (bodyOf Tryd.f40)] (envOf [vS t] Tryd.f40.ntmps) (Sx.look (alX H ++ ([]))) 80 (v) (L') 470 := by
  refine runs_more baseAL (More.of (al1_p0 H t ws) ⟨?oo, rfl, ?rr⟩) (by kernel_rfl) (by kernel_rfl) rfl (gtL (by decide)) (by decide) next
  case oo =>
    clear next
    refine (okc ?_ (okc ?_ okn))
    all_goals first | rfl | omega | (simp only [SS]; first | done | omega) | (simp; omega)
  case rr =>
    clear next
    subst hw
    repeat' apply And.intro
    all_goals first | exact True.intro | with_reducible rfl | rfl | (intro j hj; exact absurd hj (Nat.not_lt_zero _)) | (intros; rfl)

theorem al2_p0 (H : List Ent) (ws : List (List UInt8)) (T : List RawR.Ev) (i : Nat) (l : List UInt8) :
    isMore (evTill Tryd.prog sumsAL 500 (behind Tryd.f40 0) 900 40 (headOf Tryd.f40 0) (envAt Tryd.f40.ntmps ([(5, vL 103 4 (T).length), (15, vL 101 1 ws.length), (16, vN ws.length), (17, vN (i : Nat))])) (alX H ++ (txE true 101 ws.length ws ++ evE 103 104 105 (T))) ⟨[.s true, .s true, .s true, .s true, .s true], 110⟩) (moreP (headOf Tryd.f40 0) ([]) Tryd.f40.ntmps ([(5, vL 103 4 (T).length), (15, vL 101 1 ws.length), (16, vN ws.length), (17, vN (i + 1 : Nat))]) (txE true 101 ws.length ws ++ evE 103 104 105 (T)) 470) =
    (OkL [(decide ((↑i : Int) < (↑ws.length : Int)), true), (decide ((0 : Int) ≤ (↑i : Int) ∧ (↑i : Int) < (↑ws.length : Int)), true), (((0 : Nat) + (↑i : Int).toNat).blt ws.length, true), (((0 : Nat) + (↑i : Int).toNat).blt ws.length, true), (ws.getD ((0 : Nat) + (↑i : Int).toNat) [] == [], true)] ∧ headOf Tryd.f40 (0 : Nat) = headOf Tryd.f40 (0 : Nat) ∧ (((0 : Nat) = (0 : Nat) ∧ T.length = T.length) ∧ ((0 : Nat) = (0 : Nat) ∧ ws.length = ws.length) ∧ (↑ws.length : Int) = (↑ws.length : Int) ∧ (↑(i + (1 : Nat)) : Int) = IntKind.i64.wrap ((↑i : Int) + (1 : Int))) ∧ (ws.length = ws.length ∧ ∀ (i : Nat), i < ws.length → ws.getD i [] = ws.getD i []) ∧ (T.length = T.length ∧ (∀ (i : Nat), i < T.length → eK T [i] = eK T [i]) ∧ (∀ (i : Nat), i < T.length → eN' T [i] = eN' T [i]) ∧ ((∀ (i : Nat), i < T.length → eX T [i] = eX T [i]) ∧ ∀ (i : Nat), i < T.length → eLB T [i] = eLB T [i]) ∧ (∀ (i : Nat), i < T.length → eX T [i] = eX T [i]) ∧ ∀ (i : Nat), i < T.length → eLM T [i] = eLM T [i]) ∧ (T.length = T.length ∧ ∀ (m : Nat), m < T.length → gLB T m = gLB T m ∧ ∀ (i : Nat), i < gLB T m → gB T [m, i] = gB T [m, i]) ∧ T.length = T.length ∧ ∀ (m : Nat), m < T.length → gLM T m = gLM T m ∧ ∀ (i : Nat), i < gLM T m → gM T [m, i] = gM T [m, i]) := by kernel_rfl

set_option maxHeartbeats 4000000 in
theorem al2 (H : List Ent) (ws : List (List UInt8)) (T : List RawR.Ev) (i : Nat) (l : List UInt8) (hi : i < ws.length) (hws : ws.length ≤ 200000) (hT : T.length ≤ 200000) (hl : ws.getD i [] = l) (hll : l.length ≤ 100000) (hs : l = [])  (v : SV) (L' : HF) (next : RunsTo Tryd.prog 40 (headOf Tryd.f40 0) (envAt Tryd.f40.ntmps ([(5, vL 103 4 (T).length), (15, vL 101 1 ws.length), (16, vN ws.length), (17, vN (i + 1 : Nat))])) (Sx.look (alX H ++ (txE true 101 ws.length ws ++ evE 103 104 105 (T)))) 80 (v) (L') 470) :
    RunsTo Tryd.prog 40 (headOf Tryd.f40 0) (envAt Tryd.f40.ntmps ([(5, vL 103 4 (T).length), (15, vL 101 1 ws.length), (16, vN ws.length), (17, vN (i : Nat))])) (Sx.look (alX H ++ (txE true 101 ws.length ws ++ evE 103 104 105 (T)))) 80 (v) (L') 470 := by
  have hw : IntKind.i64.wrap ((i : Int) + 1) = ((i + 1 : Nat) : Int) := by rw [wr64 (by omega)]; rfl
  have hi0 : 0 + ((i : Nat) : Int).toNat = i := by simp
  refine runs_more baseAL (More.of (al2_p0 H ws T i l) ⟨?oo, rfl, ?rr⟩) (by kernel_rfl) (by kernel_rfl) rfl (gtL (by decide)) (by decide) next
  case oo =>
    clear next
    refine (okc ?_ (okc ?_ (okc ?_ (okc ?_ (okc ?_ okn)))))
    all_goals ((try simp only [hi0, List.headD_cons, hl, hs]); first | done | rfl | omega | assumption | (simp (disch := omega) only [SS, hi0, List.headD_cons, hl, hs]; first | done | omega | assumption) | (simp_all; done) | (simp_all; omega))
  case rr =>
    clear next
    try simp (disch := omega) only [SS, hw]
    repeat' apply And.intro
    all_goals first | exact True.intro | with_reducible rfl | omega | (intros; first | exact True.intro | with_reducible rfl | omega | (simp_all; done)) | (simp_all; done) | rfl

theorem al3_p0 (H : List Ent) (ws : List (List UInt8)) (T : List RawR.Ev) (i : Nat) (l : List UInt8) :
    isMore (evTill Tryd.prog sumsAL 500 (behind Tryd.f40 0) 900 40 (headOf Tryd.f40 0) (envAt Tryd.f40.ntmps ([(5, vL 103 4 (T).length), (15, vL 101 1 ws.length), (16, vN ws.length), (17, vN (i : Nat))])) (alX H ++ (txE true 101 ws.length ws ++ evE 103 104 105 (T))) ⟨[.s true, .s true, .s true, .s true, .s false, .s true, .s true], 110⟩) (moreP (headOf Tryd.f40 0) ([]) Tryd.f40.ntmps ([(5, vL 103 4 (T).length), (15, vL 101 1 ws.length), (16, vN ws.length), (17, vN (i + 1 : Nat))]) (txE true 101 ws.length ws ++ evE 103 104 105 (T)) 470) =
    (OkL [(decide ((↑i : Int) < (↑ws.length : Int)), true), (decide ((0 : Int) ≤ (↑i : Int) ∧ (↑i : Int) < (↑ws.length : Int)), true), (((0 : Nat) + (↑i : Int).toNat).blt ws.length, true), (((0 : Nat) + (↑i : Int).toNat).blt ws.length, true), (ws.getD ((0 : Nat) + (↑i : Int).toNat) [] == [], false), (decide ((0 : Int) ≤ (0 : Int) ∧ (0 : Int) < (↑(ws.getD ((0 : Nat) + (↑i : Int).toNat) []).length : Int)), true), ((↑((ws.getD ((0 : Nat) + (↑i : Int).toNat) []).getD (0 : Nat) (0 : UInt8)).toNat : Int) == (35 : Int), true)] ∧ headOf Tryd.f40 (0 : Nat) = headOf Tryd.f40 (0 : Nat) ∧ (((0 : Nat) = (0 : Nat) ∧ T.length = T.length) ∧ ((0 : Nat) = (0 : Nat) ∧ ws.length = ws.length) ∧ (↑ws.length : Int) = (↑ws.length : Int) ∧ (↑(i + (1 : Nat)) : Int) = IntKind.i64.wrap ((↑i : Int) + (1 : Int))) ∧ (ws.length = ws.length ∧ ∀ (i : Nat), i < ws.length → ws.getD i [] = ws.getD i []) ∧ (T.length = T.length ∧ (∀ (i : Nat), i < T.length → eK T [i] = eK T [i]) ∧ (∀ (i : Nat), i < T.length → eN' T [i] = eN' T [i]) ∧ ((∀ (i : Nat), i < T.length → eX T [i] = eX T [i]) ∧ ∀ (i : Nat), i < T.length → eLB T [i] = eLB T [i]) ∧ (∀ (i : Nat), i < T.length → eX T [i] = eX T [i]) ∧ ∀ (i : Nat), i < T.length → eLM T [i] = eLM T [i]) ∧ (T.length = T.length ∧ ∀ (m : Nat), m < T.length → gLB T m = gLB T m ∧ ∀ (i : Nat), i < gLB T m → gB T [m, i] = gB T [m, i]) ∧ T.length = T.length ∧ ∀ (m : Nat), m < T.length → gLM T m = gLM T m ∧ ∀ (i : Nat), i < gLM T m → gM T [m, i] = gM T [m, i]) := by kernel_rfl

set_option maxHeartbeats 4000000 in
theorem al3 (H : List Ent) (ws : List (List UInt8)) (T : List RawR.Ev) (i : Nat) (l : List UInt8) (hi : i < ws.length) (hws : ws.length ≤ 200000) (hT : T.length ≤ 200000) (hl : ws.getD i [] = l) (hll : l.length ≤ 100000) (hs : l ≠ []) (h3 : l.getD 0 0 = 35)  (v : SV) (L' : HF) (next : RunsTo Tryd.prog 40 (headOf Tryd.f40 0) (envAt Tryd.f40.ntmps ([(5, vL 103 4 (T).length), (15, vL 101 1 ws.length), (16, vN ws.length), (17, vN (i + 1 : Nat))])) (Sx.look (alX H ++ (txE true 101 ws.length ws ++ evE 103 104 105 (T)))) 80 (v) (L') 470) :
    RunsTo Tryd.prog 40 (headOf Tryd.f40 0) (envAt Tryd.f40.ntmps ([(5, vL 103 4 (T).length), (15, vL 101 1 ws.length), (16, vN ws.length), (17, vN (i : Nat))])) (Sx.look (alX H ++ (txE true 101 ws.length ws ++ evE 103 104 105 (T)))) 80 (v) (L') 470 := by
  have hw : IntKind.i64.wrap ((i : Int) + 1) = ((i + 1 : Nat) : Int) := by rw [wr64 (by omega)]; rfl
  have hi0 : 0 + ((i : Nat) : Int).toNat = i := by simp
  have hp : 0 < l.length := List.length_pos_iff.2 hs
  have hz : (l == []) = false := beq_eq_false_iff_ne.2 hs
  have h35 : ((35 : UInt8).toNat : Int) = 35 := rfl
  refine runs_more baseAL (More.of (al3_p0 H ws T i l) ⟨?oo, rfl, ?rr⟩) (by kernel_rfl) (by kernel_rfl) rfl (gtL (by decide)) (by decide) next
  case oo =>
    clear next
    refine (okc ?_ (okc ?_ (okc ?_ (okc ?_ (okc ?_ (okc ?_ (okc ?_ okn)))))))
    all_goals ((try simp only [hi0, List.headD_cons, hl, hz, h3, h35]); first | done | rfl | omega | assumption | (simp (disch := omega) only [SS, hi0, List.headD_cons, hl, hz, h3, h35]; first | done | omega | assumption) | (simp_all; done) | (simp_all; omega))
  case rr =>
    clear next
    try simp (disch := omega) only [SS, hw]
    repeat' apply And.intro
    all_goals first | exact True.intro | with_reducible rfl | omega | (intros; first | exact True.intro | with_reducible rfl | omega | (simp_all; done)) | (simp_all; done) | rfl

theorem al4_p0 (H : List Ent) (ws : List (List UInt8)) (T : List RawR.Ev) (i : Nat) (l : List UInt8) (T' : List RawR.Ev) (at0 k : Nat) :
    isEnd (evTill Tryd.prog sumsAL 500 (99) 900 40 (headOf Tryd.f40 0) (envAt Tryd.f40.ntmps ([(5, vL 103 4 (T).length), (15, vL 101 1 ws.length), (16, vN ws.length), (17, vN (i : Nat))])) (alX H ++ (txE true 101 ws.length ws ++ evE 103 104 105 (T))) ⟨[.s true, .s true, .s true, .s true, .s false, .s true, .s false, .s true, .s true], 110⟩) (endP ([((141 : Nat), Rn.nil (4 : Nat)), ((142 : Nat), Rn.nil (1 : Nat)), ((143 : Nat), Rn.nil (1 : Nat))]) (alV (T', at0, k)) (evE 141 142 143 T') 470) =
    (OkL [(decide ((↑i : Int) < (↑ws.length : Int)), true), (decide ((0 : Int) ≤ (↑i : Int) ∧ (↑i : Int) < (↑ws.length : Int)), true), (((0 : Nat) + (↑i : Int).toNat).blt ws.length, true), (((0 : Nat) + (↑i : Int).toNat).blt ws.length, true), (ws.getD ((0 : Nat) + (↑i : Int).toNat) [] == [], false), (decide ((0 : Int) ≤ (0 : Int) ∧ (0 : Int) < (↑(ws.getD ((0 : Nat) + (↑i : Int).toNat) []).length : Int)), true), ((↑((ws.getD ((0 : Nat) + (↑i : Int).toNat) []).getD (0 : Nat) (0 : UInt8)).toNat : Int) == (35 : Int), false), (decide ((ws.getD ((0 : Nat) + (↑i : Int).toNat) []).length ≤ (100000 : Nat)), true), (!(List.map (fun c => if c.blt (80 : Nat) = true then c else (110 : Nat) + (c - (80 : Nat))) errL).length.ble (evK (ws.getD ((0 : Nat) + (↑i : Int).toNat) [])), true)] ∧ (T'.length = (0 : Nat) ∧ (↑at0 : Int) = IntKind.i64.wrap ((↑i : Int) + (1 : Int)) ∧ k = evK (ws.getD ((0 : Nat) + (↑i : Int).toNat) []) ∧ True) ∧ T'.length = (0 : Nat) ∧ T'.length = (0 : Nat) ∧ T'.length = (0 : Nat)) := by kernel_rfl

set_option maxHeartbeats 4000000 in
theorem al4 (H : List Ent) (ws : List (List UInt8)) (T : List RawR.Ev) (i : Nat) (l : List UInt8) (T' : List RawR.Ev) (at0 k : Nat) (hi : i < ws.length) (hws : ws.length ≤ 200000) (hT : T.length ≤ 200000) (hl : ws.getD i [] = l) (hll : l.length ≤ 100000) (hs : l ≠ []) (h3 : l.getD 0 0 ≠ 35) (hk : evK l = 4) (hT' : T' = []) (ha : at0 = i + 1) (hk' : k = 4)  :
    RunsTo Tryd.prog 40 (headOf Tryd.f40 0) (envAt Tryd.f40.ntmps ([(5, vL 103 4 (T).length), (15, vL 101 1 ws.length), (16, vN ws.length), (17, vN (i : Nat))])) (Sx.look (alX H ++ (txE true 101 ws.length ws ++ evE 103 104 105 (T)))) 80 (alV (T', at0, k)) (Sx.look (evE 141 142 143 T')) 470 := by
  have hw : IntKind.i64.wrap ((i : Int) + 1) = ((i + 1 : Nat) : Int) := by rw [wr64 (by omega)]; rfl
  have hi0 : 0 + ((i : Nat) : Int).toNat = i := by simp
  have hp : 0 < l.length := List.length_pos_iff.2 hs
  have hz : (l == []) = false := beq_eq_false_iff_ne.2 hs
  have h35 : (((l.getD 0 0).toNat : Int) == 35) = false := beq_eq_false_iff_ne.2 (fun e => h3 (UInt8.toNat_inj.1 (by show (l.getD 0 0).toNat = 35; omega)))
  have hTl : T'.length = 0 := by rw [hT']; rfl
  refine runs_last baseAL (Sx.Ends.of (al4_p0 H ws T i l T' at0 k) ⟨?oo, ?rr⟩) (by kernel_rfl) rfl (gtL (by decide)) (by decide)
  case oo =>
    refine (okc ?_ (okc ?_ (okc ?_ (okc ?_ (okc ?_ (okc ?_ (okc ?_ (okc ?_ (okc ?_ okn)))))))))
    all_goals ((try simp only [hi0, List.headD_cons, hl, hz, h35, hk]); first | done | rfl | omega | assumption | (simp (disch := omega) only [SS, hi0, List.headD_cons, hl, hz, h35, hk]; first | done | omega | assumption) | (simp_all; done) | (simp_all; omega))
  case rr =>
    (try simp only [hi0, List.headD_cons, hl, hk, hw])
    repeat' apply And.intro
    all_goals first | exact True.intro | with_reducible rfl | omega | (subst ha; rfl) | (subst hk'; rfl) | (intro j hj; omega) | (simp_all; done)

theorem al5_p0 (H : List Ent) (ws : List (List UInt8)) (T : List RawR.Ev) (i : Nat) (l : List UInt8) (e : RawR.Ev) :
    isMore (evTill Tryd.prog sumsAL 500 (behind Tryd.f40 0) 900 40 (headOf Tryd.f40 0) (envAt Tryd.f40.ntmps ([(5, vL 103 4 (T).length), (15, vL 101 1 ws.length), (16, vN ws.length), (17, vN (i : Nat))])) (alX H ++ (txE true 101 ws.length ws ++ evE 103 104 105 (T))) ⟨[.s true, .s true, .s true, .s true, .s false, .s true, .s false, .s true, .s false, .t, .s true, .s true], 110⟩) (moreP (headOf Tryd.f40 0) ([((103 : Nat), Rn.to (434 : Nat)), ((104 : Nat), Rn.to (432 : Nat)), ((105 : Nat), Rn.to (433 : Nat))]) Tryd.f40.ntmps ([(5, vL 103 4 (T ++ [e]).length), (15, vL 101 1 ws.length), (16, vN ws.length), (17, vN (i + 1 : Nat))]) (txE true 101 ws.length ws ++ evE 103 104 105 (T ++ [e])) 470) =
    (OkL [(decide ((↑i : Int) < (↑ws.length : Int)), true), (decide ((0 : Int) ≤ (↑i : Int) ∧ (↑i : Int) < (↑ws.length : Int)), true), (((0 : Nat) + (↑i : Int).toNat).blt ws.length, true), (((0 : Nat) + (↑i : Int).toNat).blt ws.length, true), (ws.getD ((0 : Nat) + (↑i : Int).toNat) [] == [], false), (decide ((0 : Int) ≤ (0 : Int) ∧ (0 : Int) < (↑(ws.getD ((0 : Nat) + (↑i : Int).toNat) []).length : Int)), true), ((↑((ws.getD ((0 : Nat) + (↑i : Int).toNat) []).getD (0 : Nat) (0 : UInt8)).toNat : Int) == (35 : Int), false), (decide ((ws.getD ((0 : Nat) + (↑i : Int).toNat) []).length ≤ (100000 : Nat)), true), (!(List.map (fun c => if c.blt (80 : Nat) = true then c else (110 : Nat) + (c - (80 : Nat))) errL).length.ble (evK (ws.getD ((0 : Nat) + (↑i : Int).toNat) [])), false), (((0 : Nat) + T.length).ble T.length, true), (decide (((2 : Nat) * (T.length + (1 : Nat)) + (192 : Nat)) * (64 : Nat) ≤ (281474976710656 : Nat)), true)] ∧ headOf Tryd.f40 (0 : Nat) = headOf Tryd.f40 (0 : Nat) ∧ (((0 : Nat) = (0 : Nat) ∧ (T ++ [e]).length = T.length + (1 : Nat)) ∧ ((0 : Nat) = (0 : Nat) ∧ ws.length = ws.length) ∧ (↑ws.length : Int) = (↑ws.length : Int) ∧ (↑(i + (1 : Nat)) : Int) = IntKind.i64.wrap ((↑i : Int) + (1 : Int))) ∧ (ws.length = ws.length ∧ ∀ (i : Nat), i < ws.length → ws.getD i [] = ws.getD i []) ∧ ((T ++ [e]).length = T.length + (1 : Nat) ∧ (∀ (i_1 : Nat), i_1 < (T ++ [e]).length → eK (T ++ [e]) [i_1] = appF T.length (0 : Nat) (eK T) (fun js => (evR (ws.getD ((0 : Nat) + (↑i : Int).toNat) [])).1) [i_1]) ∧ (∀ (i_1 : Nat), i_1 < (T ++ [e]).length → eN' (T ++ [e]) [i_1] = appF T.length (0 : Nat) (eN' T) (fun js => (evR (ws.getD ((0 : Nat) + (↑i : Int).toNat) [])).2) [i_1]) ∧ ((∀ (i : Nat), i < (T ++ [e]).length → eX (T ++ [e]) [i] = appF T.length (0 : Nat) (fun is => eX T is + (1 : Nat)) (fun js => (0 : Nat)) [i]) ∧ ∀ (i_1 : Nat), i_1 < (T ++ [e]).length → eLB (T ++ [e]) [i_1] = appF T.length (0 : Nat) (eLB T) (fun js => (evR (ws.getD ((0 : Nat) + (↑i : Int).toNat) [])).3.length) [i_1]) ∧ (∀ (i : Nat), i < (T ++ [e]).length → eX (T ++ [e]) [i] = appF T.length (0 : Nat) (fun is => eX T is + (1 : Nat)) (fun js => (0 : Nat)) [i]) ∧ ∀ (i_1 : Nat), i_1 < (T ++ [e]).length → eLM (T ++ [e]) [i_1] = appF T.length (0 : Nat) (eLM T) (fun js => (evR (ws.getD ((0 : Nat) + (↑i : Int).toNat) [])).4.length) [i_1]) ∧ ((T ++ [e]).length = T.length + (1 : Nat) ∧ ∀ (m : Nat), m < (T ++ [e]).length → gLB (T ++ [e]) m = consN (evR (ws.getD ((0 : Nat) + (↑i : Int).toNat) [])).3.length (gLB T) m ∧ ∀ (i_1 : Nat), i_1 < gLB (T ++ [e]) m → gB (T ++ [e]) [m, i_1] = consF (fun is => (↑((evR (ws.getD ((0 : Nat) + (↑i : Int).toNat) [])).3.getD (List.headD is (0 : Nat)) (0 : UInt8)).toNat : Int)) (gB T) [m, i_1]) ∧ (T ++ [e]).length = T.length + (1 : Nat) ∧ ∀ (m : Nat), m < (T ++ [e]).length → gLM (T ++ [e]) m = consN (evR (ws.getD ((0 : Nat) + (↑i : Int).toNat) [])).4.length (gLM T) m ∧ ∀ (i_1 : Nat), i_1 < gLM (T ++ [e]) m → gM (T ++ [e]) [m, i_1] = consF (fun is => (evR (ws.getD ((0 : Nat) + (↑i : Int).toNat) [])).4.getD (List.headD is (0 : Nat)) (0 : Int)) (gM T) [m, i_1]) := by kernel_rfl

set_option maxHeartbeats 4000000 in
theorem al5 (H : List Ent) (ws : List (List UInt8)) (T : List RawR.Ev) (i : Nat) (l : List UInt8) (e : RawR.Ev) (hi : i < ws.length) (hws : ws.length ≤ 200000) (hT : T.length ≤ 200000) (hl : ws.getD i [] = l) (hll : l.length ≤ 100000) (hs : l ≠ []) (h3 : l.getD 0 0 ≠ 35) (hk : evK l = 16) (he : evR l = e)  (v : SV) (L' : HF) (next : RunsTo Tryd.prog 40 (headOf Tryd.f40 0) (envAt Tryd.f40.ntmps ([(5, vL 103 4 (T ++ [e]).length), (15, vL 101 1 ws.length), (16, vN ws.length), (17, vN (i + 1 : Nat))])) (Sx.look (alX H ++ (txE true 101 ws.length ws ++ evE 103 104 105 (T ++ [e])))) 80 (v) (L') 470) :
    RunsTo Tryd.prog 40 (headOf Tryd.f40 0) (envAt Tryd.f40.ntmps ([(5, vL 103 4 (T).length), (15, vL 101 1 ws.length), (16, vN ws.length), (17, vN (i : Nat))])) (Sx.look (alX H ++ (txE true 101 ws.length ws ++ evE 103 104 105 (T)))) 80 (v) (L') 470 := by
  have hw : IntKind.i64.wrap ((i : Int) + 1) = ((i + 1 : Nat) : Int) := by rw [wr64 (by omega)]; rfl
  have hi0 : 0 + ((i : Nat) : Int).toNat = i := by simp
  have hp : 0 < l.length := List.length_pos_iff.2 hs
  have hz : (l == []) = false := beq_eq_false_iff_ne.2 hs
  have h35 : (((l.getD 0 0).toNat : Int) == 35) = false := beq_eq_false_iff_ne.2 (fun e => h3 (UInt8.toNat_inj.1 (by show (l.getD 0 0).toNat = 35; omega)))
  refine runs_more baseAL (More.of (al5_p0 H ws T i l e) ⟨?oo, rfl, ?rr⟩) (by kernel_rfl) (by kernel_rfl) rfl (gtL (by decide)) (by decide) next
  case oo =>
    clear next
    refine (okc ?_ (okc ?_ (okc ?_ (okc ?_ (okc ?_ (okc ?_ (okc ?_ (okc ?_ (okc ?_ (okc ?_ (okc ?_ okn)))))))))))
    all_goals ((try simp only [hi0, List.headD_cons, hl, hz, h35, hk, he]); first | done | rfl | omega | assumption | (simp (disch := omega) only [SS, hi0, List.headD_cons, hl, hz, h35, hk, he]; first | done | omega | assumption) | (simp_all; done) | (simp_all; omega))
  case rr =>
    clear next
    (try simp only [hi0, List.headD_cons, List.length_append, List.length_cons, List.length_nil, Nat.zero_add, hl, hw, he])
    repeat' apply And.intro
    all_goals first | exact True.intro | with_reducible rfl | omega | (simp only [List.length_append, List.length_cons, List.length_nil]; done) | exact ev_app (fun e => e.K) T e _ rfl | exact ev_app (fun e => e.N) T e _ rfl | exact ev_app (fun e => e.B.length) T e _ rfl | exact ev_app (fun e => e.M.length) T e _ rfl | exact eX_app T e _ _ (fun k hk => rfl) rfl | (simp; done) | (intro m hm; exact ⟨gL_cons (fun e => e.B.length) T e _ rfl m hm, fun j hj => gF_cons (fun e j => ((e.B.getD j 0).toNat : Int)) (fun e => e.B.length) T e _ m hm j (fun j hj => rfl) hj⟩) | (intro m hm; exact ⟨gL_cons (fun e => e.M.length) T e _ rfl m hm, fun j hj => gF_cons (fun e j => e.M.getD j 0) (fun e => e.M.length) T e _ m hm j (fun j hj => rfl) hj⟩)

theorem al6_p0 (H : List Ent) (ws : List (List UInt8)) (T : List RawR.Ev) (i at0 k : Nat) :
    isEnd (evTill Tryd.prog sumsAL 500 (99) 900 40 (headOf Tryd.f40 0) (envAt Tryd.f40.ntmps ([(5, vL 103 4 (T).length), (15, vL 101 1 ws.length), (16, vN ws.length), (17, vN (i : Nat))])) (alX H ++ (txE true 101 ws.length ws ++ evE 103 104 105 (T))) ⟨[.s false], 110⟩) (endP ([((141 : Nat), Rn.to (103 : Nat)), ((142 : Nat), Rn.to (104 : Nat)), ((143 : Nat), Rn.to (105 : Nat))]) (alV (T, at0, k)) (evE 141 142 143 T) 470) =
    (OkL [(decide ((↑i : Int) < (↑ws.length : Int)), false)] ∧ (((0 : Nat) = (0 : Nat) ∧ T.length = T.length) ∧ (↑at0 : Int) = (0 : Int) ∧ nthL errL k = none ∧ True) ∧ (T.length = T.length ∧ (∀ (i : Nat), i < T.length → eK T [i] = eK T [i]) ∧ (∀ (i : Nat), i < T.length → eN' T [i] = eN' T [i]) ∧ ((∀ (i : Nat), i < T.length → eX T [i] = eX T [i]) ∧ ∀ (i : Nat), i < T.length → eLB T [i] = eLB T [i]) ∧ (∀ (i : Nat), i < T.length → eX T [i] = eX T [i]) ∧ ∀ (i : Nat), i < T.length → eLM T [i] = eLM T [i]) ∧ (T.length = T.length ∧ ∀ (m : Nat), m < T.length → gLB T m = gLB T m ∧ ∀ (i : Nat), i < gLB T m → gB T [m, i] = gB T [m, i]) ∧ T.length = T.length ∧ ∀ (m : Nat), m < T.length → gLM T m = gLM T m ∧ ∀ (i : Nat), i < gLM T m → gM T [m, i] = gM T [m, i]) := by kernel_rfl

set_option maxHeartbeats 4000000 in
theorem al6 (H : List Ent) (ws : List (List UInt8)) (T : List RawR.Ev) (i at0 k : Nat) (hi : i = ws.length) (ha : at0 = 0) (hk : k = 16)  :
    RunsTo Tryd.prog 40 (headOf Tryd.f40 0) (envAt Tryd.f40.ntmps ([(5, vL 103 4 (T).length), (15, vL 101 1 ws.length), (16, vN ws.length), (17, vN (i : Nat))])) (Sx.look (alX H ++ (txE true 101 ws.length ws ++ evE 103 104 105 (T)))) 80 (alV (T, at0, k)) (Sx.look (evE 141 142 143 T)) 470 := by
  refine runs_last baseAL (Sx.Ends.of (al6_p0 H ws T i at0 k) ⟨?oo, ?rr⟩) (by kernel_rfl) rfl (gtL (by decide)) (by decide)
  case oo =>
    refine (okc ?_ okn)
    all_goals ((try simp (disch := omega) only [SS]); first | done | omega | assumption | (simp (disch := omega) only [SS] at *; first | done | omega | assumption) | (simp_all; done))
  case rr =>
    repeat' apply And.intro
    all_goals first | exact True.intro | with_reducible rfl | omega | (subst ha; rfl) | (subst hk; rfl) | (subst hk; decide) | (intros; rfl) | (intro m hm; exact ⟨rfl, fun j hj => rfl⟩)

theorem evK_two (l : List UInt8) : evK l = 16 ∨ evK l = 4 := by unfold evK; split <;> simp
theorem alT (H : List Ent) (t : List UInt8) : RunsTo Tryd.prog 40 [.code (bodyOf Tryd.f40)] (envOf [vS t] Tryd.f40.ntmps) (Sx.look (alX H ++ ([]))) 80 (alV (allR t)) (Sx.look (evE 141 142 143 (allR t).1)) 470 := by
  unfold allR
  by_cases h : 100000 < t.length
  · rw [if_pos h]; exact al0 H t [] 0 3 h rfl rfl rfl
  rw [if_neg h]
  have h : t.length ≤ 100000 := by omega
  have hmem := split_mem_len 10 t
  have hlen := splitR_len 10 t
  have hcl : t.count 10 ≤ t.length := List.count_le_length
  refine al1 H t (splitR 10 t) h rfl _ _ ?_
  generalize splitR 10 t = ws at hmem hlen
  suffices q : ∀ (j i : Nat) (T : List RawR.Ev), i + j = ws.length → T.length ≤ i → RunsTo Tryd.prog 40 (headOf Tryd.f40 0) (envAt Tryd.f40.ntmps ([(5, vL 103 4 (T).length), (15, vL 101 1 ws.length), (16, vN ws.length), (17, vN (i : Nat))])) (Sx.look (alX H ++ (txE true 101 ws.length ws ++ evE 103 104 105 (T)))) 80 (alV (allGo i T (ws.drop i))) (Sx.look (evE 141 142 143 (allGo i T (ws.drop i)).1)) 470 from q ws.length 0 [] (by omega) (by simp)
  intro j
  induction j with
  | zero =>
    intro i T hi hT
    rw [List.drop_eq_nil_of_le (by omega), allGo]
    exact al6 H ws T i 0 16 (by omega) rfl rfl
  | succ j ih =>
    intro i T hi hT
    have hm := hmem _ (getD_mem' (d := []) (show i < ws.length by omega))
    rw [dropT ws [] (show i < ws.length by omega)]
    generalize hl : ws.getD i [] = l at hm
    rw [allGo]
    by_cases hs : l = []
    · have : skipB l = true := by unfold skipB; rw [decide_eq_true hs]; rfl
      rw [if_pos this]
      exact al2 H ws T i l (by omega) (by omega) (by omega) hl (by omega) hs _ _ (ih (i + 1) T (by omega) (by omega))
    by_cases h3 : l.getD 0 0 = 35
    · have : skipB l = true := by unfold skipB; rw [decide_eq_true h3, Bool.or_true]
      rw [if_pos this]
      exact al3 H ws T i l (by omega) (by omega) (by omega) hl (by omega) hs h3 _ _ (ih (i + 1) T (by omega) (by omega))
    have hn : ¬ skipB l = true := by unfold skipB; rw [decide_eq_false hs, decide_eq_false h3]; decide
    rw [if_neg hn]
    rcases evK_two l with hk | hk
    · rw [if_pos hk]
      exact al5 H ws T i l (evR l) (by omega) (by omega) (by omega) hl (by omega) hs h3 hk rfl _ _ (ih (i + 1) _ (by omega) (by simp; omega))
    · rw [if_neg (by rw [hk]; decide)]
      exact al4 H ws T i l [] (i + 1) 4 (by omega) (by omega) (by omega) hl (by omega) hs h3 hk rfl rfl rfl
def alP : PC := { args := [.v (.vs 0)], heap := [], gs := [1, 2, 20, 21], G := 24, tp := 194, n := 80, n' := 470, cond := fun e => true, v := fun e => alV (allR (eS e 0 [])), post := fun e => evE 141 142 143 (allR (eS e 0 [])).1 }
theorem alP_pc : PC.Runs Tryd.prog 40 Tryd.f40 (bodyOf Tryd.f40) alP := ⟨Tryd.func40, by kernel_rfl, (fun g hg => by first | (cases hg; done) | (revert g; show ∀ g ∈ ([1, 2, 20, 21] : List Nat), g < 24; decide)), fun e H hc => by
  have hc : (true) = true := hc
  try simp only [Bool.and_eq_true, decide_eq_true_eq, Nat.beq_eq] at hc
  exact alT H (eS e 0 [])⟩
end Go.Proofs.YtankmgnjkcgpaaaDoor

set_option linter.unusedSimpArgs false
set_option linter.unusedVariables false
set_option maxRecDepth 100000
namespace Go.Proofs.YtankmgnjkcgpaaaDoor
open Go.Sx

open RawR
def dgtI (x : Int) : Int := if 97 ≤ x ∧ x ≤ 102 then x - 87 else if 48 ≤ x ∧ x ≤ 57 then x - 48 else 0
def dgt (c : UInt8) : Int := dgtI (c.toNat : Int)
def numD : Int → List UInt8 → Int
  | n, [] => n
  | n, c :: r => numD (10 * n + dgt c) r
def bytD : List UInt8 → List UInt8
  | a :: b :: r => UInt8.ofNat (16 * dgt a + dgt b).toNat :: bytD r
  | _ => []
def mrkD : Int → Bool → List UInt8 → List Int
  | n, o, [] => if o = true then [n] else []
  | n, o, c :: r => if c = 44 then (if o = true then n :: mrkD 0 false r else mrkD 0 false r) else mrkD (min (10 * n + dgt c) 100000) true r
def padR (T : List (List UInt8)) : List (List UInt8) := T ++ List.replicate (4 - T.length) []
def seemR (T : List (List UInt8)) : RawR.Ev :=
  if T.getD 0 [] = wBytes then ⟨1, 0, bytD (T.getD 1 []), mrkD 0 false (T.getD 3 [])⟩
  else if T.getD 0 [] = wGrant then ⟨2, numD 0 ((T.getD 1 []).take 5), [], []⟩
  else if T.getD 0 [] = wTick then ⟨3, numD 0 ((T.getD 1 []).take 5), [], []⟩
  else if T.getD 0 [] = wClose then ⟨4, 0, [], []⟩ else ev0
def dpR (s : List UInt8) : RawR.Ev := let e := seemR (padR (splitR 32 s)); if rightR e = true ∧ lineR e = s then e else ev0
def dpK (s : List UInt8) : Bool := let e := seemR (padR (splitR 32 s)); decide (rightR e = true ∧ lineR e = s)
def evD (f : Nat) (e : RawR.Ev) : Tr := .tc (.vi .i64 fun _ => e.K) (.tc (.vi .i64 fun _ => e.N) (.tc (.vs fun _ => e.B) (.tc (.vl f (fun _ => 0) 1 [] (fun _ => e.M.length)) .t0)))
def dpV (e : RawR.Ev) (k : Bool) : SV := .tup [(true, evD 141 e), (false, .vb fun _ => k)]
def bxE (k n : Int) : List Ent := [⟨101, true, none, 139000004, .tc (.vi .i64 fun _ => k) (.tc (.vi .i64 fun _ => n) (.tc (.vs fun _ => []) (.tc .vl0 .t0)))⟩]
def bx0 : List Ent := [⟨104, true, none, 139000004, .tc (.vi .i64 fun _ => 0) (.tc (.vi .i64 fun _ => 0) (.tc (.vs fun _ => []) (.tc .vl0 .t0)))⟩]
def bxM (b : List UInt8) (m : List Int) : List Ent := [⟨101, true, none, 139000004, .tc (.vi .i64 fun _ => 1) (.tc (.vi .i64 fun _ => 0) (.tc (.vs fun _ => b) (.tc (.vl 103 (fun _ => 0) 1 [] (fun _ => m.length)) .t0)))⟩]

variable (P T : List (List UInt8)) (b : List UInt8) (i : Nat) (m : List Int) (n : Int) (s w : List UInt8)
abbrev rq18 := ([] : List UInt8)
abbrev rq1 := (((0 : Int) = (0 : Int) ∧ (0 : Int) = (0 : Int) ∧ rq18 = [] ∧ 0 = 0) ∧ false = false ∧ True) ∧ 0 = 0
abbrev rq2 := (0 : Int) = (0 : Int) ∧ (0 : Int) = (0 : Int) ∧ rq18 = [] ∧ True
abbrev rq3 := (decide ((0 : Int) ≤ 1 ∧ (1 : Int) < (↑T.length : Int)), true)
abbrev rq4 := (Nat.blt (1 : Nat) T.length, true)
abbrev rq5 := (decide ((0 : Int) ≤ n) && decide (n ≤ (9223372036854775807 : Int)), true)
abbrev rq6 := (↑(T.getD (1 : Nat) []).length : Int)
abbrev rq7 := [(0, vS s), (2, vP 104), (4, vL 102 1 T.length), (6, vP 101), (9, vN (i : Nat))]
abbrev rq8 := (decide (n < (0 : Int)), false)
abbrev rq9 := 0 + (IntKind.i64.wrap ((↑(P ++ [w]).length : Int) - 1)).toNat
abbrev rq10 := (decide (6 + (Lib.itoa n).length ≤ (9223372036854775807 : Nat)), true)
abbrev rq11 := (decide (5 + (Lib.itoa n).length ≤ (9223372036854775807 : Nat)), true)
abbrev rq12 := (decide (n > (9999 : Int)), false)
abbrev rq13 := [(0, vS s), (2, vP 104), (4, vL 102 1 T.length), (6, vP 101), (49, vL 105 1 4), (50, vN 4), (51, vN (4 : Nat))]
abbrev rq14 := (decide ((i : Int) < (rq6 T)), true)
abbrev rq27 := Sx.look (iW 141 (ev0.M))
abbrev rq15 := RunsTo Tryd.prog 39 (headOf Tryd.f39 3) (envAt Tryd.f39.ntmps (rq7 T i s)) (Sx.look ([] ++ (bx0 ++ (bxE (2) (n) ++ txE true 102 (T).length (T))))) 80 (dpV (ev0) false) rq27 250
abbrev rq16 := RunsTo Tryd.prog 39 (headOf Tryd.f39 3) (envAt Tryd.f39.ntmps (rq7 T i s)) (Sx.look ([] ++ (bx0 ++ (bxE (3) (n) ++ txE true 102 (T).length (T))))) 80 (dpV (ev0) false) rq27 250
abbrev rq17 := 0 = 0 ∧ T.length = T.length
abbrev rq19 := (decide (0 ≤ IntKind.i64.wrap ((↑(P ++ [w]).length : Int) - 1) ∧ IntKind.i64.wrap ((↑(P ++ [w]).length : Int) - 1) < (↑(P ++ [w]).length : Int)), true)
abbrev rq20 := (decide ((i : Int) < 5), false)
abbrev rq21 := (decide ((i : Int) < (rq6 T)), false)
abbrev rq22 := ((0 + (i : Int).toNat).blt (4 : Nat), true)
abbrev rq23 := (↑((T.getD (1 : Nat) []).getD (i : Int).toNat (0 : UInt8)).toNat : Int)
abbrev rq35 := (i : Int) + 1
abbrev rq24 := s = s ∧ 0 = 0 ∧ (rq17 T) ∧ 0 = 0 ∧ (0 = 0 ∧ 4 = 4) ∧ (4 : Int) = (4 : Int) ∧ (↑(i + (1 : Nat)) : Int) = IntKind.i64.wrap (rq35 i)
abbrev rq25 := (![(103 : UInt8), (114 : UInt8), (97 : UInt8), (110 : UInt8), (116 : UInt8), (32 : UInt8)] ++ Lib.itoa n == s, false)
abbrev rq26 := (![(103 : UInt8), (114 : UInt8), (97 : UInt8), (110 : UInt8), (116 : UInt8), (32 : UInt8)] ++ Lib.itoa n == s, true)
abbrev rq28 := (↑(0 : Nat) : Int)
abbrev rq29 := (((2 : Int) = (2 : Int) ∧ n = n ∧ b = [] ∧ m.length = (0 : Nat)) ∧ true = true ∧ True) ∧ m.length = (0 : Nat)
abbrev rq30 := (decide (n > (9999 : Int)), true)
abbrev rq31 := (((3 : Int) = (3 : Int) ∧ n = n ∧ b = [] ∧ m.length = (0 : Nat)) ∧ true = true ∧ True) ∧ m.length = (0 : Nat)
abbrev rq32 := (![(116 : UInt8), (105 : UInt8), (99 : UInt8), (107 : UInt8), (32 : UInt8)] ++ Lib.itoa n == s, false)
abbrev rq33 := (![(116 : UInt8), (105 : UInt8), (99 : UInt8), (107 : UInt8), (32 : UInt8)] ++ Lib.itoa n == s, true)
abbrev rq34 := (Nat.blt (0 : Nat) T.length, true)
abbrev rq36 := (T.length = T.length ∧ ∀ (i : Nat), i < T.length → T.getD i [] = T.getD i [])
abbrev rq37 := (decide (0 ≤ (i : Int) ∧ (i : Int) < (↑(4 : Nat) : Int)), true)
set_option maxHeartbeats 4000000 in
theorem dgT (x : Int) (hx : 0 ≤ x ∧ x < 256)  :
    (RunsTo Tryd.prog 66 [.code (bodyOf Tryd.f66)] (envOf [vU x] Tryd.f66.ntmps) (Sx.look ([] ++ ([]))) 80 (vN (dgtI x)) (Sx.look ([])) 85) := by
  have h1 : 97 ≤ x → IntKind.i64.wrap (IntKind.i64.wrap (IntKind.u8.wrap (x - 97)) + 10) = x - 87 := fun h => by rw [u8id (by omega), wr64 (show -9223372036854775808 ≤ x - 97 ∧ x - 97 < 9223372036854775808 by omega), wr64 (by omega)]; omega
  have h2 : 48 ≤ x → IntKind.i64.wrap (IntKind.u8.wrap (x - 48)) = x - 48 := fun h => by rw [u8id (by omega), wr64 (by omega)]
  refine bcase (fun gg0 => (bcase (fun gg1 => (rEn baseO 300 (99) 900 80 (hI 2 0) ([]) [(decide (x ≥ (97 : Int)), false), (decide (x ≥ (48 : Int)), false)] (dgtI x = (0 : Int) ∧ True) (oc2 gg0 gg1 okn) ?_)) fun gg1 => (bcase (fun gg2 => (rEn baseO 300 (99) 900 80 (hI 3 4) ([]) [(decide (x ≥ (97 : Int)), false), (decide (x ≥ (48 : Int)), true), (decide (x ≤ (57 : Int)), false)] (dgtI x = (0 : Int) ∧ True) (oc3 gg0 gg1 gg2 okn) ?_)) fun gg2 => (rEn baseO 300 (99) 900 80 (hI 3 20) ([]) [(decide (x ≥ (97 : Int)), false), (decide (x ≥ (48 : Int)), true), (decide (x ≤ (57 : Int)), true)] (dgtI x = IntKind.i64.wrap (IntKind.u8.wrap (x - 48)) ∧ True) (oc3 gg0 gg1 gg2 okn) ?_)))) fun gg0 => (bcase (fun gg1 => (rEn baseO 300 (99) 900 80 (hI 4 17) ([]) [(decide (x ≥ (97 : Int)), true), (decide (x ≤ (102 : Int)), false), (decide (x ≥ (48 : Int)), true), (decide (x ≤ (57 : Int)), false)] (dgtI x = (0 : Int) ∧ True) (oc4 gg0 gg1 ?_ ?_ okn) ?_)) fun gg1 => (rEn baseO 300 (99) 900 80 (hI 2 5) ([]) [(decide (x ≥ (97 : Int)), true), (decide (x ≤ (102 : Int)), true)] (dgtI x = IntKind.i64.wrap (IntKind.i64.wrap (IntKind.u8.wrap (x - 97)) + 10) ∧ True) (oc2 gg0 gg1 okn) ?_))
  all_goals exact sc15

def dgP : PC := { args := [.v (.vi .u8 0)], heap := [], gs := [], G := 24, tp := 194, n := 80, n' := 85, cond := fun e => decide (0 ≤ eI e 0 [] ∧ eI e 0 [] < 256), v := fun e => vN (dgtI (eI e 0 [])), post := fun e => [] }
theorem dgP_pc : PC.Runs Tryd.prog 66 Tryd.f66 (bodyOf Tryd.f66) dgP := ⟨Tryd.func66, by kernel_rfl, (fun g hg => by first | (cases hg; done) | (revert g; show ∀ g ∈ ([] : List Nat), g < 24; decide)), fun e H hc => by
  have hc : (decide (0 ≤ eI e 0 [] ∧ eI e 0 [] < 256)) = true := hc
  try simp only [Bool.and_eq_true, decide_eq_true_eq, Nat.beq_eq] at hc
  exact dgT (eI e 0 []) hc⟩
def sumsDI : List (FuncId × Summ) := [(66, dgP.summ 48), (65, fgP.summ 48)]
theorem baseDI : Base0 Tryd.prog sumsDI := ((baseO.cons Tryd.func65 (by kernel_rfl) (PC.summ_ok fgP_pc gtopG)).cons Tryd.func66 (by kernel_rfl) (PC.summ_ok dgP_pc gtopG))
def sumsDC : List (FuncId × Summ) := [(35, rrP.summ 48), (36, rlP.summ 48), (66, dgP.summ 48)]
theorem baseDC : Base0 Tryd.prog sumsDC := (((baseO.cons Tryd.func66 (by kernel_rfl) (PC.summ_ok dgP_pc gtopG)).cons Tryd.func36 (by kernel_rfl) (PC.summ_ok rlP_pc gtopG)).cons Tryd.func35 (by kernel_rfl) (PC.summ_ok rrP_pc gtopG))

set_option maxHeartbeats 4000000 in
theorem dp0 (s : List UInt8)  (v : SV) (L' : HF) (next : RunsTo Tryd.prog 39 (headOf Tryd.f39 0) (envAt Tryd.f39.ntmps ([(0, vS s), (2, vP 104), (4, vL 102 1 (([] : List (List UInt8)) ++ [([] : List UInt8)]).length), (5, vN (0 : Nat))])) (Sx.look ([] ++ (bx0 ++ txE true 102 (([] : List (List UInt8)) ++ [([] : List UInt8)]).length (([] : List (List UInt8)) ++ [([] : List UInt8)])))) 80 (v) (L') 250) :
    RunsTo Tryd.prog 39 [.code (bodyOf Tryd.f39)] (envOf [vS s] Tryd.f39.ntmps) (Sx.look ([] ++ ([]))) 80 (v) (L') 250 := by
  refine rMo baseDI 500 (behind Tryd.f39 0) 900 80 (hI 0 0) ([((104 : Nat), Rn.to (80 : Nat)), ((102 : Nat), Rn.to (81 : Nat))]) [] ((s = s ∧ 0 = 0 ∧ (0 = 0 ∧ 1 = 1) ∧ rq28 = (0 : Int)) ∧ rq2 ∧ 1 = 1 ∧ ∀ (i : Nat), i < (1 : Nat) → ([] ++ [[]]).getD i rq18 = []) next okn ?_
  all_goals clear next; try dsimp only [rq28, rq2, rq18]
  all_goals exact sc16

theorem tl_get (P : List (List UInt8)) (w : List UInt8) : (P ++ [w]).getD P.length [] = w := by simp
theorem tx_app (T : List (List UInt8)) (a : List UInt8) : ∀ k, k < T.length + 1 → (T ++ [a]).getD k [] = appF T.length 0 (fun is => T.getD (is.headD 0) []) (fun _ => a) [k] := fun k hk => app_get (fun x : List UInt8 => x) [] T [a] (fun _ => a) (fun j hj => by obtain rfl : j = 0 := (by simp at hj; omega); rfl) k (by simpa using hk)
theorem tl_set (P : List (List UInt8)) (w v x : List UInt8) (n : Nat) (hn : n = P.length) (hx : x = v) (k : Nat) (hk : k < P.length + 1) : (P ++ [v]).getD k [] = upd (fun is => (P ++ [w]).getD (is.headD 0) []) [n] x [k] := by
  subst hn; subst hx
  by_cases h : k = P.length
  · subst h; simp [upd]
  · rw [upd_other _ _ (by simpa using h)]
    simp [List.getD, List.getElem?_append_left (show k < P.length by omega)]
theorem one_sub (s : List UInt8) {i : Nat} (h : i < s.length) : (s.take (i + 1)).drop i = [s.getD i 0] := by
  rw [List.take_add_one, List.getElem?_eq_getElem h, List.drop_append_of_le_length (by simp; omega)]
  simp [List.getD_eq_getElem?_getD, List.getElem?_eq_getElem h]

set_option maxHeartbeats 4000000 in
theorem dp1 (s : List UInt8) (P : List (List UInt8)) (w : List UInt8) (i : Nat) (c : UInt8) (h : c = 32) (hi : i < s.length) (hc : s.getD i 0 = c) (hP : P.length ≤ 1000) (hwl : w.length ≤ 1000) (hs : s.length ≤ 1000)  (v : SV) (L' : HF) (next : RunsTo Tryd.prog 39 (headOf Tryd.f39 0) (envAt Tryd.f39.ntmps ([(0, vS s), (2, vP 104), (4, vL 102 1 ((P ++ [w]) ++ [([] : List UInt8)]).length), (5, vN (i + 1 : Nat))])) (Sx.look ([] ++ (bx0 ++ txE true 102 ((P ++ [w]) ++ [([] : List UInt8)]).length ((P ++ [w]) ++ [([] : List UInt8)])))) 80 (v) (L') 250) :
    RunsTo Tryd.prog 39 (headOf Tryd.f39 0) (envAt Tryd.f39.ntmps ([(0, vS s), (2, vP 104), (4, vL 102 1 (P ++ [w]).length), (5, vN (i : Nat))])) (Sx.look ([] ++ (bx0 ++ txE true 102 (P ++ [w]).length (P ++ [w])))) 80 (v) (L') 250 := by
  have hw : IntKind.i64.wrap ((i : Int) + 1) = ((i + 1 : Nat) : Int) := by rw [wr64 (by omega)]; rfl
  have E' := (⟨hc, hw⟩ : _ ∧ _)
  refine rMo baseDI 500 (behind Tryd.f39 0) 900 110 (hI 6 1493) ([((102 : Nat), Rn.to (111 : Nat))]) [(decide ((i : Int) < (↑s.length : Int)), true), (decide (0 ≤ (i : Int) ∧ (i : Int) < (↑s.length : Int)), true), ((↑(s.getD (i : Int).toNat (0 : UInt8)).toNat : Int) == 32, true), ((0 + (P ++ [w]).length).ble (P ++ [w]).length, true), (decide (((2 : Nat) * ((P ++ [w]).length + (1 : Nat)) + (192 : Nat)) * (16 : Nat) ≤ (281474976710656 : Nat)), true)] ((s = s ∧ 0 = 0 ∧ (0 = 0 ∧ (P ++ [w] ++ [[]]).length = (P ++ [w]).length + (1 : Nat)) ∧ (↑(i + (1 : Nat)) : Int) = IntKind.i64.wrap (rq35 i)) ∧ rq2 ∧ (P ++ [w] ++ [[]]).length = (P ++ [w]).length + (1 : Nat) ∧ ∀ (i : Nat), i < (P ++ [w] ++ [[]]).length → (P ++ [w] ++ [[]]).getD i [] = appF (P ++ [w]).length (0 : Nat) (fun is => (P ++ [w]).getD (List.headD is (0 : Nat)) []) (fun js => []) [i]) next (oc5 ?_ ?_ ?_ ?_ ?_ okn) ?_
  all_goals clear next; try dsimp only [rq35, rq2, rq18]
  all_goals exact sc17

set_option maxHeartbeats 4000000 in
theorem dp2 (s : List UInt8) (P : List (List UInt8)) (w : List UInt8) (i : Nat) (c : UInt8) (h : c ≠ 32) (hi : i < s.length) (hc : s.getD i 0 = c) (hP : P.length ≤ 1000) (hwl : w.length ≤ 1000) (hs : s.length ≤ 1000)  (v : SV) (L' : HF) (next : RunsTo Tryd.prog 39 (headOf Tryd.f39 0) (envAt Tryd.f39.ntmps ([(0, vS s), (2, vP 104), (4, vL 102 1 (P ++ [(w ++ [c])]).length), (5, vN (i + 1 : Nat))])) (Sx.look ([] ++ (bx0 ++ txE true 102 (P ++ [(w ++ [c])]).length (P ++ [(w ++ [c])])))) 80 (v) (L') 250) :
    RunsTo Tryd.prog 39 (headOf Tryd.f39 0) (envAt Tryd.f39.ntmps ([(0, vS s), (2, vP 104), (4, vL 102 1 (P ++ [w]).length), (5, vN (i : Nat))])) (Sx.look ([] ++ (bx0 ++ txE true 102 (P ++ [w]).length (P ++ [w])))) 80 (v) (L') 250 := by
  have hw : IntKind.i64.wrap ((i : Int) + 1) = ((i + 1 : Nat) : Int) := by rw [wr64 (by omega)]; rfl
  have h32 : ((c.toNat : Int) == 32) = false := beq_eq_false_iff_ne.2 (fun e => h (UInt8.toNat_inj.1 (by show c.toNat = 32; omega)))
  have hlast : IntKind.i64.wrap (((P ++ [w]).length : Int) - 1) = (P.length : Int) := by rw [wr64 (by simp; omega)]; simp
  have hz : 0 + ((P.length : Nat) : Int).toNat = P.length := by simp
  have htl := tl_get P w
  have hsub := one_sub s hi
  rw [hc] at hsub
  have E' := (⟨hc, hw, h32, hlast, hz, htl, hsub⟩ : _ ∧ _ ∧ _ ∧ _ ∧ _ ∧ _ ∧ _)
  refine rMo baseDI 500 (behind Tryd.f39 0) 900 110 (hI 12 5592389) ([]) [(decide ((i : Int) < (↑s.length : Int)), true), (decide (0 ≤ (i : Int) ∧ (i : Int) < (↑s.length : Int)), true), ((↑(s.getD (i : Int).toNat (0 : UInt8)).toNat : Int) == 32, false), (rq19 P w), ((rq9 P w).blt (P ++ [w]).length, true), ((rq9 P w).blt (P ++ [w]).length, true), (decide (0 ≤ IntKind.i64.wrap (rq35 i) ∧ IntKind.i64.wrap (rq35 i) ≤ (↑s.length : Int)), true), (decide (0 ≤ (i : Int) ∧ (i : Int) ≤ IntKind.i64.wrap (rq35 i)), true), (decide (((P ++ [w]).getD (rq9 P w) []).length + (List.drop (i : Int).toNat (List.take (IntKind.i64.wrap (rq35 i)).toNat s)).length ≤ (9223372036854775807 : Nat)), true), (rq19 P w), ((rq9 P w).blt (P ++ [w]).length, true), ((rq9 P w).blt (P ++ [w]).length, true)] ((s = s ∧ 0 = 0 ∧ (0 = 0 ∧ (P ++ [w ++ [c]]).length = (P ++ [w]).length) ∧ (↑(i + (1 : Nat)) : Int) = IntKind.i64.wrap (rq35 i)) ∧ rq2 ∧ (P ++ [w ++ [c]]).length = (P ++ [w]).length ∧ ∀ (i_1 : Nat), i_1 < (P ++ [w ++ [c]]).length → (P ++ [w ++ [c]]).getD i_1 [] = upd (fun is => (P ++ [w]).getD (List.headD is (0 : Nat)) []) [0 + (IntKind.i64.wrap ((↑(P ++ [w]).length : Int) - 1)).toNat] ((P ++ [w]).getD (rq9 P w) [] ++ List.drop (i : Int).toNat (List.take (IntKind.i64.wrap (rq35 i)).toNat s)) [i_1]) next (oc3 ?_ ?_ ?_ (oc9 ?_ ?_ ?_ ?_ ?_ ?_ ?_ ?_ ?_ okn)) ?_
  all_goals clear next; try dsimp only [rq19, rq9, rq35, rq2, rq18]
  all_goals exact sc18

set_option maxHeartbeats 4000000 in
theorem dp3 (s : List UInt8) (P : List (List UInt8)) (w : List UInt8) (i : Nat) (hi : i = s.length)  (v : SV) (L' : HF) (next : RunsTo Tryd.prog 39 (headOf Tryd.f39 1) (envAt Tryd.f39.ntmps ([(0, vS s), (2, vP 104), (4, vL 102 1 (P ++ [w]).length)])) (Sx.look ([] ++ (bx0 ++ txE true 102 (P ++ [w]).length (P ++ [w])))) 80 (v) (L') 250) :
    RunsTo Tryd.prog 39 (headOf Tryd.f39 0) (envAt Tryd.f39.ntmps ([(0, vS s), (2, vP 104), (4, vL 102 1 (P ++ [w]).length), (5, vN (i : Nat))])) (Sx.look ([] ++ (bx0 ++ txE true 102 (P ++ [w]).length (P ++ [w])))) 80 (v) (L') 250 := by
  refine rMo baseDI 500 (behind Tryd.f39 1) 900 110 (hI 1 0) ([]) [(decide ((i : Int) < (↑s.length : Int)), false)] ((s = s ∧ 0 = 0 ∧ 0 = 0 ∧ (P ++ [w]).length = (P ++ [w]).length) ∧ rq2 ∧ (P ++ [w]).length = (P ++ [w]).length ∧ ∀ (i : Nat), i < (P ++ [w]).length → (P ++ [w]).getD i [] = (P ++ [w]).getD i []) next (oc1 ?_ okn) ?_
  all_goals clear next; try dsimp only [rq2, rq18]
  all_goals exact sc19

set_option maxHeartbeats 4000000 in
theorem dp4 (s : List UInt8) (T : List (List UInt8)) (h : T.length < 4) (h0 : 0 < T.length)  (v : SV) (L' : HF) (next : RunsTo Tryd.prog 39 (headOf Tryd.f39 1) (envAt Tryd.f39.ntmps ([(0, vS s), (2, vP 104), (4, vL 102 1 (T ++ [[]]).length)])) (Sx.look ([] ++ (bx0 ++ txE true 102 (T ++ [[]]).length (T ++ [[]])))) 80 (v) (L') 250) :
    RunsTo Tryd.prog 39 (headOf Tryd.f39 1) (envAt Tryd.f39.ntmps ([(0, vS s), (2, vP 104), (4, vL 102 1 (T).length)])) (Sx.look ([] ++ (bx0 ++ txE true 102 (T).length (T)))) 80 (v) (L') 250 := by
  refine rMo baseDI 500 (behind Tryd.f39 1) 900 110 (hI 4 93) ([((102 : Nat), Rn.to (111 : Nat))]) [(decide ((↑T.length : Int) < 4), true), ((0 + T.length).ble T.length, true), (decide (((2 : Nat) * (T.length + (1 : Nat)) + (192 : Nat)) * (16 : Nat) ≤ (281474976710656 : Nat)), true)] ((s = s ∧ 0 = 0 ∧ 0 = 0 ∧ (T ++ [[]]).length = T.length + (1 : Nat)) ∧ rq2 ∧ (T ++ [[]]).length = T.length + (1 : Nat) ∧ ∀ (i : Nat), i < (T ++ [[]]).length → (T ++ [[]]).getD i [] = appF T.length (0 : Nat) (fun is => T.getD (List.headD is (0 : Nat)) []) (fun js => []) [i]) next (oc3 ?_ ?_ ?_ okn) ?_
  all_goals clear next; try dsimp only [rq2, rq18]
  all_goals exact sc20

def kwE : List Ent := [⟨105, true, none, 1, .ta 4 (.vs fun is => ([[98, 121, 116, 101, 115], [103, 114, 97, 110, 116], [116, 105, 99, 107], [99, 108, 111, 115, 101]] : List (List UInt8)).getD (is.headD 0) [])⟩]

set_option maxHeartbeats 4000000 in
theorem dq0 (s : List UInt8) (T : List (List UInt8)) (h : 4 ≤ T.length) (hTl : T.length ≤ 2000)  (v : SV) (L' : HF) (next : RunsTo Tryd.prog 39 (headOf Tryd.f39 2) (envAt Tryd.f39.ntmps ([(0, vS s), (2, vP 104), (4, vL 102 1 T.length), (6, vP 101), (49, vL 105 1 4), (50, vN 4), (51, vN (0 : Nat))])) (Sx.look ([] ++ (bx0 ++ (bxE (0) 0 ++ (txE true 102 (T).length (T) ++ kwE))))) 80 (v) (L') 250) :
    RunsTo Tryd.prog 39 (headOf Tryd.f39 1) (envAt Tryd.f39.ntmps ([(0, vS s), (2, vP 104), (4, vL 102 1 (T).length)])) (Sx.look ([] ++ (bx0 ++ txE true 102 (T).length (T)))) 80 (v) (L') 250 := by
  refine rMo baseDI 500 (behind Tryd.f39 2) 900 110 (hI 1 0) ([((101 : Nat), Rn.to (110 : Nat)), ((105 : Nat), Rn.to (111 : Nat))]) [(decide ((↑T.length : Int) < 4), false)] ((s = s ∧ 0 = 0 ∧ (rq17 T) ∧ 0 = 0 ∧ (0 = 0 ∧ 4 = 4) ∧ (4 : Int) = (↑(4 : Nat) : Int) ∧ rq28 = (0 : Int)) ∧ rq2 ∧ rq2 ∧ (rq36 T) ∧ 4 = 4 ∧ ∀ (i : Nat), i < (4 : Nat) → [[(98 : UInt8), (121 : UInt8), (116 : UInt8), (101 : UInt8), (115 : UInt8)], [(103 : UInt8), (114 : UInt8), (97 : UInt8), (110 : UInt8), (116 : UInt8)], [(116 : UInt8), (105 : UInt8), (99 : UInt8), (107 : UInt8)], [(99 : UInt8), (108 : UInt8), (111 : UInt8), (115 : UInt8), (101 : UInt8)]].getD i [] = upd (upd (upd (upd (fun is => []) [(0 : Nat)] [(98 : UInt8), (121 : UInt8), (116 : UInt8), (101 : UInt8), (115 : UInt8)]) [(1 : Nat)] [(103 : UInt8), (114 : UInt8), (97 : UInt8), (110 : UInt8), (116 : UInt8)]) [(2 : Nat)] [(116 : UInt8), (105 : UInt8), (99 : UInt8), (107 : UInt8)]) [(3 : Nat)] [(99 : UInt8), (108 : UInt8), (111 : UInt8), (115 : UInt8), (101 : UInt8)] [i]) next (oc1 ?_ okn) ?_
  all_goals clear next; try dsimp only [rq17, rq28, rq2, rq18, rq36]
  all_goals exact sc21

set_option maxHeartbeats 4000000 in
theorem dq1 (s : List UInt8) (T : List (List UInt8)) (k : Int) (i : Nat) (x w : List UInt8) (he : w ≠ x) (hi : i < 4) (hx : ([[98, 121, 116, 101, 115], [103, 114, 97, 110, 116], [116, 105, 99, 107], [99, 108, 111, 115, 101]] : List (List UInt8)).getD i [] = x) (h0 : T.getD 0 [] = w) (h : 4 ≤ T.length)  (v : SV) (L' : HF) (next : RunsTo Tryd.prog 39 (headOf Tryd.f39 2) (envAt Tryd.f39.ntmps ([(0, vS s), (2, vP 104), (4, vL 102 1 T.length), (6, vP 101), (49, vL 105 1 4), (50, vN 4), (51, vN (i + 1 : Nat))])) (Sx.look ([] ++ (bx0 ++ (bxE (k) 0 ++ (txE true 102 (T).length (T) ++ kwE))))) 80 (v) (L') 250) :
    RunsTo Tryd.prog 39 (headOf Tryd.f39 2) (envAt Tryd.f39.ntmps ([(0, vS s), (2, vP 104), (4, vL 102 1 T.length), (6, vP 101), (49, vL 105 1 4), (50, vN 4), (51, vN (i : Nat))])) (Sx.look ([] ++ (bx0 ++ (bxE (k) 0 ++ (txE true 102 (T).length (T) ++ kwE))))) 80 (v) (L') 250 := by
  have hw : IntKind.i64.wrap ((i : Int) + 1) = ((i + 1 : Nat) : Int) := by rw [wr64 (by omega)]; rfl
  have hi0 : 0 + ((i : Nat) : Int).toNat = i := by simp
  have ez : (w == x) = false := beq_eq_false_iff_ne.2 he
  have E' := (⟨hw, hi0, hx, h0, ez⟩ : _ ∧ _ ∧ _ ∧ _ ∧ _)
  refine rMo baseDI 500 (behind Tryd.f39 2) 900 110 (hI 8 5461) ([]) [(decide ((i : Int) < 4), true), (rq37 i), (rq22 i), (rq22 i), (decide ((0 : Int) ≤ 0 ∧ (0 : Int) < (↑T.length : Int)), true), (rq34 T), (rq34 T), (T.getD (0 : Nat) [] == [[(98 : UInt8), (121 : UInt8), (116 : UInt8), (101 : UInt8), (115 : UInt8)], [(103 : UInt8), (114 : UInt8), (97 : UInt8), (110 : UInt8), (116 : UInt8)], [(116 : UInt8), (105 : UInt8), (99 : UInt8), (107 : UInt8)], [(99 : UInt8), (108 : UInt8), (111 : UInt8), (115 : UInt8), (101 : UInt8)]].getD (0 + (i : Int).toNat) [], false)] ((rq24 T i s) ∧ rq2 ∧ (k = k ∧ (0 : Int) = (0 : Int) ∧ rq18 = [] ∧ True) ∧ (rq36 T) ∧ 4 = 4 ∧ ∀ (i : Nat), i < (4 : Nat) → [[(98 : UInt8), (121 : UInt8), (116 : UInt8), (101 : UInt8), (115 : UInt8)], [(103 : UInt8), (114 : UInt8), (97 : UInt8), (110 : UInt8), (116 : UInt8)], [(116 : UInt8), (105 : UInt8), (99 : UInt8), (107 : UInt8)], [(99 : UInt8), (108 : UInt8), (111 : UInt8), (115 : UInt8), (101 : UInt8)]].getD i [] = [[(98 : UInt8), (121 : UInt8), (116 : UInt8), (101 : UInt8), (115 : UInt8)], [(103 : UInt8), (114 : UInt8), (97 : UInt8), (110 : UInt8), (116 : UInt8)], [(116 : UInt8), (105 : UInt8), (99 : UInt8), (107 : UInt8)], [(99 : UInt8), (108 : UInt8), (111 : UInt8), (115 : UInt8), (101 : UInt8)]].getD i []) next (oc8 ?_ ?_ ?_ ?_ ?_ ?_ ?_ ?_ okn) ?_
  all_goals clear next; try dsimp only [rq37, rq22, rq34, rq24, rq17, rq35, rq2, rq18, rq36]
  all_goals exact sc22

set_option maxHeartbeats 4000000 in
theorem dq2 (s : List UInt8) (T : List (List UInt8)) (k : Int) (i : Nat) (x w : List UInt8) (he : w = x) (hi : i < 4) (hx : ([[98, 121, 116, 101, 115], [103, 114, 97, 110, 116], [116, 105, 99, 107], [99, 108, 111, 115, 101]] : List (List UInt8)).getD i [] = x) (h0 : T.getD 0 [] = w) (h : 4 ≤ T.length)  (v : SV) (L' : HF) (next : RunsTo Tryd.prog 39 (headOf Tryd.f39 2) (envAt Tryd.f39.ntmps ([(0, vS s), (2, vP 104), (4, vL 102 1 T.length), (6, vP 101), (49, vL 105 1 4), (50, vN 4), (51, vN (i + 1 : Nat))])) (Sx.look ([] ++ (bx0 ++ (bxE ((i : Int) + 1) 0 ++ (txE true 102 (T).length (T) ++ kwE))))) 80 (v) (L') 250) :
    RunsTo Tryd.prog 39 (headOf Tryd.f39 2) (envAt Tryd.f39.ntmps ([(0, vS s), (2, vP 104), (4, vL 102 1 T.length), (6, vP 101), (49, vL 105 1 4), (50, vN 4), (51, vN (i : Nat))])) (Sx.look ([] ++ (bx0 ++ (bxE (k) 0 ++ (txE true 102 (T).length (T) ++ kwE))))) 80 (v) (L') 250 := by
  have hw : IntKind.i64.wrap ((i : Int) + 1) = ((i + 1 : Nat) : Int) := by rw [wr64 (by omega)]; rfl
  have hi0 : 0 + ((i : Nat) : Int).toNat = i := by simp
  have ez : (w == x) = true := beq_iff_eq.2 he
  have E' := (⟨hi0, hx, h0, ez⟩ : _ ∧ _ ∧ _ ∧ _)
  refine rMo baseDI 500 (behind Tryd.f39 2) 900 110 (hI 8 21845) ([]) [(decide ((i : Int) < 4), true), (rq37 i), (rq22 i), (rq22 i), (decide ((0 : Int) ≤ 0 ∧ (0 : Int) < (↑T.length : Int)), true), (rq34 T), (rq34 T), (T.getD (0 : Nat) [] == [[(98 : UInt8), (121 : UInt8), (116 : UInt8), (101 : UInt8), (115 : UInt8)], [(103 : UInt8), (114 : UInt8), (97 : UInt8), (110 : UInt8), (116 : UInt8)], [(116 : UInt8), (105 : UInt8), (99 : UInt8), (107 : UInt8)], [(99 : UInt8), (108 : UInt8), (111 : UInt8), (115 : UInt8), (101 : UInt8)]].getD (0 + (i : Int).toNat) [], true)] ((rq24 T i s) ∧ rq2 ∧ ((i : Int) + (1 : Int) = IntKind.i64.wrap (rq35 i) ∧ (0 : Int) = (0 : Int) ∧ rq18 = [] ∧ True) ∧ (rq36 T) ∧ 4 = 4 ∧ ∀ (i : Nat), i < (4 : Nat) → [[(98 : UInt8), (121 : UInt8), (116 : UInt8), (101 : UInt8), (115 : UInt8)], [(103 : UInt8), (114 : UInt8), (97 : UInt8), (110 : UInt8), (116 : UInt8)], [(116 : UInt8), (105 : UInt8), (99 : UInt8), (107 : UInt8)], [(99 : UInt8), (108 : UInt8), (111 : UInt8), (115 : UInt8), (101 : UInt8)]].getD i [] = [[(98 : UInt8), (121 : UInt8), (116 : UInt8), (101 : UInt8), (115 : UInt8)], [(103 : UInt8), (114 : UInt8), (97 : UInt8), (110 : UInt8), (116 : UInt8)], [(116 : UInt8), (105 : UInt8), (99 : UInt8), (107 : UInt8)], [(99 : UInt8), (108 : UInt8), (111 : UInt8), (115 : UInt8), (101 : UInt8)]].getD i []) next (oc8 ?_ ?_ ?_ ?_ ?_ ?_ ?_ ?_ okn) ?_
  all_goals clear next; try dsimp only [rq37, rq22, rq34, rq24, rq17, rq35, rq2, rq18, rq36]
  all_goals exact sc23

set_option maxHeartbeats 4000000 in
theorem dp5 (s : List UInt8) (T : List (List UInt8)) (h : 4 ≤ T.length) (hTl : T.length ≤ 2000)  (v : SV) (L' : HF) (next : RunsTo Tryd.prog 39 (headOf Tryd.f39 4) (envAt Tryd.f39.ntmps ([(0, vS s), (2, vP 104), (4, vL 102 1 T.length), (6, vP 101), (10, vL 103 1 (([] : List UInt8)).length), (11, vN (0 : Nat))])) (Sx.look ([] ++ (bx0 ++ (bxE 1 0 ++ (txE true 102 (T).length (T) ++ bW 103 (([] : List UInt8))))))) 80 (v) (L') 250) :
    RunsTo Tryd.prog 39 (headOf Tryd.f39 2) (envAt Tryd.f39.ntmps ([(0, vS s), (2, vP 104), (4, vL 102 1 T.length), (6, vP 101), (49, vL 105 1 4), (50, vN 4), (51, vN (4 : Nat))])) (Sx.look ([] ++ (bx0 ++ (bxE (1) 0 ++ (txE true 102 (T).length (T) ++ kwE))))) 80 (v) (L') 250 := by
  refine rMo baseDI 500 (behind Tryd.f39 4) 900 110 (hI 4 234) ([((103 : Nat), Rn.to (110 : Nat))]) [] ((s = s ∧ 0 = 0 ∧ (rq17 T) ∧ 0 = 0 ∧ (0 = 0 ∧ 0 = 0) ∧ rq28 = (0 : Int)) ∧ rq2 ∧ ((1 : Int) = (1 : Int) ∧ (0 : Int) = (0 : Int) ∧ rq18 = [] ∧ True) ∧ (rq36 T) ∧ 0 = 0 ∧ ∀ (i : Nat), i < (0 : Nat) → (↑([].getD i (0 : UInt8)).toNat : Int) = (0 : Int)) next okn ?_
  all_goals clear next; try dsimp only [rq17, rq28, rq2, rq18, rq36]
  all_goals exact sc24

set_option maxHeartbeats 4000000 in
theorem dp6 (s : List UInt8) (T : List (List UInt8)) (h : 4 ≤ T.length) (hTl : T.length ≤ 2000)  (v : SV) (L' : HF) (next : RunsTo Tryd.prog 39 (headOf Tryd.f39 3) (envAt Tryd.f39.ntmps ([(0, vS s), (2, vP 104), (4, vL 102 1 T.length), (6, vP 101), (9, vN (0 : Nat))])) (Sx.look ([] ++ (bx0 ++ (bxE (2) (0) ++ txE true 102 (T).length (T))))) 80 (v) (L') 250) :
    RunsTo Tryd.prog 39 (headOf Tryd.f39 2) (envAt Tryd.f39.ntmps ([(0, vS s), (2, vP 104), (4, vL 102 1 T.length), (6, vP 101), (49, vL 105 1 4), (50, vN 4), (51, vN (4 : Nat))])) (Sx.look ([] ++ (bx0 ++ (bxE (2) 0 ++ (txE true 102 (T).length (T) ++ kwE))))) 80 (v) (L') 250 := by
  refine rMo baseDI 500 (behind Tryd.f39 3) 900 110 (hI 2 14) ([]) [] ((s = s ∧ 0 = 0 ∧ (rq17 T) ∧ 0 = 0 ∧ rq28 = (0 : Int)) ∧ rq2 ∧ ((2 : Int) = (2 : Int) ∧ (0 : Int) = (0 : Int) ∧ rq18 = [] ∧ True) ∧ T.length = T.length ∧ ∀ (i : Nat), i < T.length → T.getD i [] = T.getD i []) next okn ?_
  all_goals clear next; try dsimp only [rq17, rq28, rq2, rq18]
  all_goals exact sc25

set_option maxHeartbeats 4000000 in
theorem dp7 (s : List UInt8) (T : List (List UInt8)) (h : 4 ≤ T.length) (hTl : T.length ≤ 2000)  (v : SV) (L' : HF) (next : RunsTo Tryd.prog 39 (headOf Tryd.f39 3) (envAt Tryd.f39.ntmps ([(0, vS s), (2, vP 104), (4, vL 102 1 T.length), (6, vP 101), (9, vN (0 : Nat))])) (Sx.look ([] ++ (bx0 ++ (bxE (3) (0) ++ txE true 102 (T).length (T))))) 80 (v) (L') 250) :
    RunsTo Tryd.prog 39 (headOf Tryd.f39 2) (envAt Tryd.f39.ntmps ([(0, vS s), (2, vP 104), (4, vL 102 1 T.length), (6, vP 101), (49, vL 105 1 4), (50, vN 4), (51, vN (4 : Nat))])) (Sx.look ([] ++ (bx0 ++ (bxE (3) 0 ++ (txE true 102 (T).length (T) ++ kwE))))) 80 (v) (L') 250 := by
  refine rMo baseDI 500 (behind Tryd.f39 3) 900 110 (hI 3 58) ([]) [] ((s = s ∧ 0 = 0 ∧ (rq17 T) ∧ 0 = 0 ∧ rq28 = (0 : Int)) ∧ rq2 ∧ ((3 : Int) = (3 : Int) ∧ (0 : Int) = (0 : Int) ∧ rq18 = [] ∧ True) ∧ T.length = T.length ∧ ∀ (i : Nat), i < T.length → T.getD i [] = T.getD i []) next okn ?_
  all_goals clear next; try dsimp only [rq17, rq28, rq2, rq18]
  all_goals exact sc25

set_option maxHeartbeats 4000000 in
theorem dp8 (s : List UInt8) (T : List (List UInt8)) (b : List UInt8) (m : List Int) (h : 4 ≤ T.length) (hTl : T.length ≤ 2000) (hb : b = []) (hm : m = []) (hs : s = [99, 108, 111, 115, 101])  :
    (RunsTo Tryd.prog 39 (headOf Tryd.f39 2) (envAt Tryd.f39.ntmps (rq13 T s)) (Sx.look ([] ++ (bx0 ++ (bxE (4) 0 ++ (txE true 102 (T).length (T) ++ kwE))))) 80 (dpV (⟨4, 0, b, m⟩) true) (Sx.look (iW 141 (m))) 250) := by
  refine rEn baseDI 500 (99) 900 110 (hI 20 251988454058) ([((141 : Nat), Rn.nil (1 : Nat))]) [(![(99 : UInt8), (108 : UInt8), (111 : UInt8), (115 : UInt8), (101 : UInt8)] == s, false)] ((((4 : Int) = (4 : Int) ∧ (0 : Int) = (0 : Int) ∧ b = [] ∧ m.length = (0 : Nat)) ∧ true = true ∧ True) ∧ m.length = (0 : Nat)) (oc1 ?_ okn) ?_
  all_goals exact sc26

set_option maxHeartbeats 4000000 in
theorem dp9 (s : List UInt8) (T : List (List UInt8)) (h : 4 ≤ T.length) (hTl : T.length ≤ 2000) (hs : s ≠ [99, 108, 111, 115, 101])  :
    (RunsTo Tryd.prog 39 (headOf Tryd.f39 2) (envAt Tryd.f39.ntmps (rq13 T s)) (Sx.look ([] ++ (bx0 ++ (bxE (4) 0 ++ (txE true 102 (T).length (T) ++ kwE))))) 80 (dpV (ev0) false) rq27 250) := by
  have hz : ([99, 108, 111, 115, 101] == s) = false := beq_eq_false_iff_ne.2 (fun e => hs e.symm)
  refine rEn baseDI 500 (99) 900 110 (hI 20 526866361002) ([((141 : Nat), Rn.nil (1 : Nat))]) [(![(99 : UInt8), (108 : UInt8), (111 : UInt8), (115 : UInt8), (101 : UInt8)] == s, true)] rq1 (oc1 ?_ okn) ?_
  all_goals try dsimp only [rq1, rq18]
  all_goals exact sc26

set_option maxHeartbeats 4000000 in
theorem dpa (s : List UInt8) (T : List (List UInt8)) (h : 4 ≤ T.length) (hTl : T.length ≤ 2000)  :
    (RunsTo Tryd.prog 39 (headOf Tryd.f39 2) (envAt Tryd.f39.ntmps (rq13 T s)) (Sx.look ([] ++ (bx0 ++ (bxE (0) 0 ++ (txE true 102 (T).length (T) ++ kwE))))) 80 (dpV (ev0) false) rq27 250) := by
  refine rEn baseDI 500 (99) 900 110 (hI 6 4010) ([((141 : Nat), Rn.nil (1 : Nat))]) [] rq1 okn ?_
  all_goals try dsimp only [rq1, rq18]
  all_goals exact sc26

theorem dgt_le (c : UInt8) : 0 ≤ dgt c ∧ dgt c ≤ 15 := by
  unfold dgt dgtI
  have := c.toNat_lt
  repeat' split
  all_goals omega

set_option maxHeartbeats 4000000 in
theorem dpb (s : List UInt8) (T : List (List UInt8)) (k n : Int) (i : Nat) (w : List UInt8) (c : UInt8) (hi : i < w.length) (h5 : i < 5) (hc : w.getD i 0 = c) (hk : k = 2 ∨ k = 3) (hw1 : T.getD 1 [] = w) (h0 : 0 ≤ n) (hn : n ≤ 1000000) (h : 4 ≤ T.length) (hTl : T.length ≤ 2000)  (v : SV) (L' : HF) (next : RunsTo Tryd.prog 39 (headOf Tryd.f39 3) (envAt Tryd.f39.ntmps ([(0, vS s), (2, vP 104), (4, vL 102 1 T.length), (6, vP 101), (9, vN (i + 1 : Nat))])) (Sx.look ([] ++ (bx0 ++ (bxE (k) (10 * n + dgt c) ++ txE true 102 (T).length (T))))) 80 (v) (L') 250) :
    RunsTo Tryd.prog 39 (headOf Tryd.f39 3) (envAt Tryd.f39.ntmps ([(0, vS s), (2, vP 104), (4, vL 102 1 T.length), (6, vP 101), (9, vN (i : Nat))])) (Sx.look ([] ++ (bx0 ++ (bxE (k) (n) ++ txE true 102 (T).length (T))))) 80 (v) (L') 250 := by
  have hw : IntKind.i64.wrap ((i : Int) + 1) = ((i + 1 : Nat) : Int) := by rw [wr64 (by omega)]; rfl
  have hd := dgt_le c
  have hc8 := u8nat c
  have hv : dgtI (c.toNat : Int) = dgt c := rfl
  have hm1 : IntKind.i64.wrap (10 * n) = 10 * n := wr64 (by omega)
  have hm2 : IntKind.i64.wrap (10 * n + dgt c) = 10 * n + dgt c := wr64 (by omega)
  have E' := (⟨hw1, hc, hv, hm1, hm2⟩ : _ ∧ _ ∧ _ ∧ _ ∧ _)
  refine rMo baseDI 500 (behind Tryd.f39 3) 900 110 (hI 10 349525) ([]) [(rq3 T), (rq4 T), (rq4 T), (rq14 T i), (decide ((i : Int) < 5), true), (rq3 T), (rq4 T), (rq4 T), (decide (0 ≤ (i : Int) ∧ (i : Int) < (rq6 T)), true), (decide (0 ≤ (rq23 T i) ∧ (rq23 T i) < 256), true)] ((s = s ∧ 0 = 0 ∧ (rq17 T) ∧ 0 = 0 ∧ (↑(i + (1 : Nat)) : Int) = IntKind.i64.wrap (rq35 i)) ∧ rq2 ∧ (k = k ∧ (10 : Int) * n + dgt c = IntKind.i64.wrap (IntKind.i64.wrap ((10 : Int) * n) + dgtI (rq23 T i)) ∧ rq18 = [] ∧ True) ∧ T.length = T.length ∧ ∀ (i : Nat), i < T.length → T.getD i [] = T.getD i []) next (oc1 ?_ (oc9 ?_ ?_ ?_ ?_ ?_ ?_ ?_ ?_ ?_ okn)) ?_
  all_goals clear next; try dsimp only [rq3, rq4, rq14, rq6, rq23, rq17, rq35, rq2, rq18]
  all_goals exact sc27

set_option maxHeartbeats 4000000 in
theorem dpc2 (s : List UInt8) (T : List (List UInt8)) (n : Int) (i : Nat) (w : List UInt8) (b : List UInt8) (m : List Int) (he : ¬ (i < w.length ∧ i < 5)) (hw1 : T.getD 1 [] = w) (h0 : 0 ≤ n) (q1 : (Lib.itoa n).length ≤ 21) (hn : n ≤ 10000000) (h : 4 ≤ T.length) (hTl : T.length ≤ 2000) (hb : b = []) (hm : m = []) (h9 : n ≤ 9999) (hl : [103, 114, 97, 110, 116, 32] ++ Lib.itoa n = s)  :
    (RunsTo Tryd.prog 39 (headOf Tryd.f39 3) (envAt Tryd.f39.ntmps (rq7 T i s)) (Sx.look ([] ++ (bx0 ++ (bxE (2) (n) ++ txE true 102 (T).length (T))))) 80 (dpV (⟨2, n, b, m⟩) true) (Sx.look (iW 141 (m))) 250) := by
  have E' := (⟨hw1, hl⟩ : _ ∧ _)
  refine bcase (fun gg0 => (rEn baseDI 500 (99) 900 110 (hI 20 101647952405) ([((141 : Nat), Rn.nil (1 : Nat))]) [(rq3 T), (rq4 T), (rq4 T), (rq21 T i), (rq8 n), (rq12 n), (rq5 n), (rq10 n), (rq25 n s)] (rq29 b m n) (oc9 ?_ ?_ ?_ gg0 ?_ ?_ ?_ ?_ ?_ okn) ?_)) fun gg0 => (rEn baseDI 500 (99) 900 110 (hI 21 406591809621) ([((141 : Nat), Rn.nil (1 : Nat))]) [(rq3 T), (rq4 T), (rq4 T), (rq14 T i), (rq20 i), (rq8 n), (rq12 n), (rq5 n), (rq10 n), (rq25 n s)] (rq29 b m n) (oc1 ?_ (oc9 ?_ ?_ gg0 ?_ ?_ ?_ ?_ ?_ ?_ okn)) ?_)
  all_goals try dsimp only [rq3, rq4, rq21, rq6, rq8, rq12, rq5, rq10, rq25, rq29, rq14, rq20] at *
  all_goals exact sc28

set_option maxHeartbeats 4000000 in
theorem dpd2 (s : List UInt8) (T : List (List UInt8)) (n : Int) (i : Nat) (w : List UInt8) (b : List UInt8) (m : List Int) (he : ¬ (i < w.length ∧ i < 5)) (hw1 : T.getD 1 [] = w) (h0 : 0 ≤ n) (q1 : (Lib.itoa n).length ≤ 21) (hn : n ≤ 10000000) (h : 4 ≤ T.length) (hTl : T.length ≤ 2000) (hb : b = []) (hm : m = []) (h9 : n ≤ 9999) (hl : [103, 114, 97, 110, 116, 32] ++ Lib.itoa n ≠ s)  :
    (rq15 T i n s) := by
  have hz : ([103, 114, 97, 110, 116, 32] ++ Lib.itoa n == s) = false := beq_eq_false_iff_ne.2 hl
  have E' := (⟨hw1, hz⟩ : _ ∧ _)
  refine bcase (fun gg0 => (rEn baseDI 500 (99) 900 110 (hI 20 376525859349) ([((141 : Nat), Rn.nil (1 : Nat))]) [(rq3 T), (rq4 T), (rq4 T), (rq21 T i), (rq8 n), (rq12 n), (rq5 n), (rq10 n), (rq26 n s)] rq1 (oc9 ?_ ?_ ?_ gg0 ?_ ?_ ?_ ?_ ?_ okn) ?_)) fun gg0 => (rEn baseDI 500 (99) 900 110 (hI 21 1506103437397) ([((141 : Nat), Rn.nil (1 : Nat))]) [(rq3 T), (rq4 T), (rq4 T), (rq14 T i), (rq20 i), (rq8 n), (rq12 n), (rq5 n), (rq10 n), (rq26 n s)] rq1 (oc1 ?_ (oc9 ?_ ?_ gg0 ?_ ?_ ?_ ?_ ?_ ?_ okn)) ?_)
  all_goals try dsimp only [rq3, rq4, rq21, rq6, rq8, rq12, rq5, rq10, rq26, rq1, rq18, rq14, rq20] at *
  all_goals exact sc29

set_option maxHeartbeats 4000000 in
theorem dpe2 (s : List UInt8) (T : List (List UInt8)) (n : Int) (i : Nat) (w : List UInt8) (b : List UInt8) (m : List Int) (he : ¬ (i < w.length ∧ i < 5)) (hw1 : T.getD 1 [] = w) (h0 : 0 ≤ n) (q1 : (Lib.itoa n).length ≤ 21) (hn : n ≤ 10000000) (h : 4 ≤ T.length) (hTl : T.length ≤ 2000) (hb : b = []) (hm : m = []) (h9 : ¬ n ≤ 9999)  :
    (rq15 T i n s) := by
  have E' := hw1
  refine bcase (fun gg0 => (rEn baseDI 500 (99) 900 110 (hI 11 3451413) ([((141 : Nat), Rn.nil (1 : Nat))]) [(rq3 T), (rq4 T), (rq4 T), (rq21 T i), (rq8 n), (rq30 n)] rq1 (oc6 ?_ ?_ ?_ gg0 ?_ ?_ okn) ?_)) fun gg0 => (rEn baseDI 500 (99) 900 110 (hI 12 13805653) ([((141 : Nat), Rn.nil (1 : Nat))]) [(rq3 T), (rq4 T), (rq4 T), (rq14 T i), (rq20 i), (rq8 n), (rq30 n)] rq1 (oc7 ?_ ?_ ?_ gg0 ?_ ?_ ?_ okn) ?_)
  all_goals try dsimp only [rq3, rq4, rq21, rq6, rq8, rq30, rq1, rq18, rq14, rq20] at *
  all_goals exact sc30

set_option maxHeartbeats 4000000 in
theorem dpc3 (s : List UInt8) (T : List (List UInt8)) (n : Int) (i : Nat) (w : List UInt8) (b : List UInt8) (m : List Int) (he : ¬ (i < w.length ∧ i < 5)) (hw1 : T.getD 1 [] = w) (h0 : 0 ≤ n) (q1 : (Lib.itoa n).length ≤ 21) (hn : n ≤ 10000000) (h : 4 ≤ T.length) (hTl : T.length ≤ 2000) (hb : b = []) (hm : m = []) (h9 : n ≤ 9999) (hl : [116, 105, 99, 107, 32] ++ Lib.itoa n = s)  :
    (RunsTo Tryd.prog 39 (headOf Tryd.f39 3) (envAt Tryd.f39.ntmps (rq7 T i s)) (Sx.look ([] ++ (bx0 ++ (bxE (3) (n) ++ txE true 102 (T).length (T))))) 80 (dpV (⟨3, n, b, m⟩) true) (Sx.look (iW 141 (m))) 250) := by
  have E' := (⟨hw1, hl⟩ : _ ∧ _)
  refine bcase (fun gg0 => (rEn baseDI 500 (99) 900 110 (hI 21 406590630421) ([((141 : Nat), Rn.nil (1 : Nat))]) [(rq3 T), (rq4 T), (rq4 T), (rq21 T i), (rq8 n), (rq12 n), (rq5 n), (rq11 n), (rq32 n s)] (rq31 b m n) (oc9 ?_ ?_ ?_ gg0 ?_ ?_ ?_ ?_ ?_ okn) ?_)) fun gg0 => (rEn baseDI 500 (99) 900 110 (hI 22 1626362521685) ([((141 : Nat), Rn.nil (1 : Nat))]) [(rq3 T), (rq4 T), (rq4 T), (rq14 T i), (rq20 i), (rq8 n), (rq12 n), (rq5 n), (rq11 n), (rq32 n s)] (rq31 b m n) (oc1 ?_ (oc9 ?_ ?_ gg0 ?_ ?_ ?_ ?_ ?_ ?_ okn)) ?_)
  all_goals try dsimp only [rq3, rq4, rq21, rq6, rq8, rq12, rq5, rq11, rq32, rq31, rq14, rq20] at *
  all_goals exact sc28

set_option maxHeartbeats 4000000 in
theorem dpd3 (s : List UInt8) (T : List (List UInt8)) (n : Int) (i : Nat) (w : List UInt8) (b : List UInt8) (m : List Int) (he : ¬ (i < w.length ∧ i < 5)) (hw1 : T.getD 1 [] = w) (h0 : 0 ≤ n) (q1 : (Lib.itoa n).length ≤ 21) (hn : n ≤ 10000000) (h : 4 ≤ T.length) (hTl : T.length ≤ 2000) (hb : b = []) (hm : m = []) (h9 : n ≤ 9999) (hl : [116, 105, 99, 107, 32] ++ Lib.itoa n ≠ s)  :
    (rq16 T i n s) := by
  have hz : ([116, 105, 99, 107, 32] ++ Lib.itoa n == s) = false := beq_eq_false_iff_ne.2 hl
  have E' := (⟨hw1, hz⟩ : _ ∧ _)
  refine bcase (fun gg0 => (rEn baseDI 500 (99) 900 110 (hI 21 1506102258197) ([((141 : Nat), Rn.nil (1 : Nat))]) [(rq3 T), (rq4 T), (rq4 T), (rq21 T i), (rq8 n), (rq12 n), (rq5 n), (rq11 n), (rq33 n s)] rq1 (oc9 ?_ ?_ ?_ gg0 ?_ ?_ ?_ ?_ ?_ okn) ?_)) fun gg0 => (rEn baseDI 500 (99) 900 110 (hI 22 6024409032789) ([((141 : Nat), Rn.nil (1 : Nat))]) [(rq3 T), (rq4 T), (rq4 T), (rq14 T i), (rq20 i), (rq8 n), (rq12 n), (rq5 n), (rq11 n), (rq33 n s)] rq1 (oc1 ?_ (oc9 ?_ ?_ gg0 ?_ ?_ ?_ ?_ ?_ ?_ okn)) ?_)
  all_goals try dsimp only [rq3, rq4, rq21, rq6, rq8, rq12, rq5, rq11, rq33, rq1, rq18, rq14, rq20] at *
  all_goals exact sc29

set_option maxHeartbeats 4000000 in
theorem dpe3 (s : List UInt8) (T : List (List UInt8)) (n : Int) (i : Nat) (w : List UInt8) (b : List UInt8) (m : List Int) (he : ¬ (i < w.length ∧ i < 5)) (hw1 : T.getD 1 [] = w) (h0 : 0 ≤ n) (q1 : (Lib.itoa n).length ≤ 21) (hn : n ≤ 10000000) (h : 4 ≤ T.length) (hTl : T.length ≤ 2000) (hb : b = []) (hm : m = []) (h9 : ¬ n ≤ 9999)  :
    (rq16 T i n s) := by
  have E' := hw1
  refine bcase (fun gg0 => (rEn baseDI 500 (99) 900 110 (hI 11 3451413) ([((141 : Nat), Rn.nil (1 : Nat))]) [(rq3 T), (rq4 T), (rq4 T), (rq21 T i), (rq8 n), (rq30 n)] rq1 (oc6 ?_ ?_ ?_ gg0 ?_ ?_ okn) ?_)) fun gg0 => (rEn baseDI 500 (99) 900 110 (hI 12 13805653) ([((141 : Nat), Rn.nil (1 : Nat))]) [(rq3 T), (rq4 T), (rq4 T), (rq14 T i), (rq20 i), (rq8 n), (rq30 n)] rq1 (oc7 ?_ ?_ ?_ gg0 ?_ ?_ ?_ okn) ?_)
  all_goals try dsimp only [rq3, rq4, rq21, rq6, rq8, rq30, rq1, rq18, rq14, rq20] at *
  all_goals exact sc30

end Go.Proofs.YtankmgnjkcgpaaaDoor

set_option linter.unusedSimpArgs false
set_option linter.unusedVariables false
set_option maxRecDepth 100000
namespace Go.Proofs.YtankmgnjkcgpaaaDoor
open Go.Sx

open RawR
theorem byt_or (a b : UInt8) : IntKind.u8.wrap (16 * dgt a + dgt b) = ((UInt8.ofNat (16 * dgt a + dgt b).toNat).toNat : Int) := by
  have ha := dgt_le a
  have hb := dgt_le b
  rw [u8id (by omega)]
  simp [UInt8.toNat_ofNat']
  omega
theorem dr1_p0 (s : List UInt8) (T : List (List UInt8)) (o : List UInt8) (i : Nat) (w : List UInt8) (a b : UInt8) :
    isMore (evTill Tryd.prog sumsDI 500 (behind Tryd.f39 4) 900 39 (headOf Tryd.f39 4) (envAt Tryd.f39.ntmps ([(0, vS s), (2, vP 104), (4, vL 102 1 T.length), (6, vP 101), (10, vL 103 1 (o).length), (11, vN (i : Nat))])) ([] ++ (bx0 ++ (bxE 1 0 ++ (txE true 102 (T).length (T) ++ bW 103 (o))))) ⟨[.s true, .s true, .s true, .s true, .s true, .s true, .s true, .s true, .s true, .s true, .s true, .s true, .s true, .s true, .t, .s true, .s true], 110⟩) (moreP (headOf Tryd.f39 4) ([((103 : Nat), Rn.to (121 : Nat))]) Tryd.f39.ntmps ([(0, vS s), (2, vP 104), (4, vL 102 1 T.length), (6, vP 101), (10, vL 103 1 (o ++ [UInt8.ofNat (16 * dgt a + dgt b).toNat]).length), (11, vN (i + 2 : Nat))]) (bx0 ++ (bxE 1 0 ++ (txE true 102 (T).length (T) ++ bW 103 (o ++ [UInt8.ofNat (16 * dgt a + dgt b).toNat])))) 250) =
    (OkL [(decide ((0 : Int) ≤ (1 : Int) ∧ (1 : Int) < (↑T.length : Int)), true), (Nat.blt (1 : Nat) T.length, true), (Nat.blt (1 : Nat) T.length, true), (decide (IntKind.i64.wrap ((↑i : Int) + (1 : Int)) < (↑(T.getD (1 : Nat) []).length : Int)), true), (decide ((0 : Int) ≤ (1 : Int) ∧ (1 : Int) < (↑T.length : Int)), true), (Nat.blt (1 : Nat) T.length, true), (Nat.blt (1 : Nat) T.length, true), (decide ((0 : Int) ≤ (↑i : Int) ∧ (↑i : Int) < (↑(T.getD (1 : Nat) []).length : Int)), true), (decide ((0 : Int) ≤ (↑((T.getD (1 : Nat) []).getD (↑i : Int).toNat (0 : UInt8)).toNat : Int) ∧ (↑((T.getD (1 : Nat) []).getD (↑i : Int).toNat (0 : UInt8)).toNat : Int) < (256 : Int)), true), (decide ((0 : Int) ≤ (1 : Int) ∧ (1 : Int) < (↑T.length : Int)), true), (Nat.blt (1 : Nat) T.length, true), (Nat.blt (1 : Nat) T.length, true), (decide ((0 : Int) ≤ IntKind.i64.wrap ((↑i : Int) + (1 : Int)) ∧ IntKind.i64.wrap ((↑i : Int) + (1 : Int)) < (↑(T.getD (1 : Nat) []).length : Int)), true), (decide ((0 : Int) ≤ (↑((T.getD (1 : Nat) []).getD (IntKind.i64.wrap ((↑i : Int) + (1 : Int))).toNat (0 : UInt8)).toNat : Int) ∧ (↑((T.getD (1 : Nat) []).getD (IntKind.i64.wrap ((↑i : Int) + (1 : Int))).toNat (0 : UInt8)).toNat : Int) < (256 : Int)), true), (((0 : Nat) + o.length).ble o.length, true), (decide (((2 : Nat) * (o.length + (1 : Nat)) + (192 : Nat)) * (1 : Nat) ≤ (281474976710656 : Nat)), true)] ∧ headOf Tryd.f39 (4 : Nat) = headOf Tryd.f39 (4 : Nat) ∧ (s = s ∧ (0 : Nat) = (0 : Nat) ∧ ((0 : Nat) = (0 : Nat) ∧ T.length = T.length) ∧ (0 : Nat) = (0 : Nat) ∧ ((0 : Nat) = (0 : Nat) ∧ (o ++ [UInt8.ofNat ((16 : Int) * dgt a + dgt b).toNat]).length = o.length + (1 : Nat)) ∧ (↑(i + (2 : Nat)) : Int) = IntKind.i64.wrap ((↑i : Int) + (2 : Int))) ∧ ((0 : Int) = (0 : Int) ∧ (0 : Int) = (0 : Int) ∧ ([] : List UInt8) = [] ∧ True) ∧ ((1 : Int) = (1 : Int) ∧ (0 : Int) = (0 : Int) ∧ ([] : List UInt8) = [] ∧ True) ∧ (T.length = T.length ∧ ∀ (i : Nat), i < T.length → T.getD i [] = T.getD i []) ∧ (o ++ [UInt8.ofNat ((16 : Int) * dgt a + dgt b).toNat]).length = o.length + (1 : Nat) ∧ ∀ (i_1 : Nat), i_1 < (o ++ [UInt8.ofNat ((16 : Int) * dgt a + dgt b).toNat]).length → (↑((o ++ [UInt8.ofNat ((16 : Int) * dgt a + dgt b).toNat]).getD i_1 (0 : UInt8)).toNat : Int) = appF o.length (0 : Nat) (fun is => (↑(o.getD (List.headD is (0 : Nat)) (0 : UInt8)).toNat : Int)) (fun js => IntKind.u8.wrap (IntKind.i64.wrap (IntKind.i64.wrap ((16 : Int) * dgtI (↑((T.getD (1 : Nat) []).getD (↑i : Int).toNat (0 : UInt8)).toNat : Int)) + dgtI (↑((T.getD (1 : Nat) []).getD (IntKind.i64.wrap ((↑i : Int) + (1 : Int))).toNat (0 : UInt8)).toNat : Int)))) [i_1]) := by kernel_rfl

set_option maxHeartbeats 4000000 in
theorem dr1 (s : List UInt8) (T : List (List UInt8)) (o : List UInt8) (i : Nat) (w : List UInt8) (a b : UInt8) (hi : i + 1 < w.length) (hwl : w.length ≤ 1000) (ha : w.getD i 0 = a) (hb : w.getD (i + 1) 0 = b) (hw1 : T.getD 1 [] = w) (h : 4 ≤ T.length) (ho : o.length ≤ 10000)  (v : SV) (L' : HF) (next : RunsTo Tryd.prog 39 (headOf Tryd.f39 4) (envAt Tryd.f39.ntmps ([(0, vS s), (2, vP 104), (4, vL 102 1 T.length), (6, vP 101), (10, vL 103 1 (o ++ [UInt8.ofNat (16 * dgt a + dgt b).toNat]).length), (11, vN (i + 2 : Nat))])) (Sx.look ([] ++ (bx0 ++ (bxE 1 0 ++ (txE true 102 (T).length (T) ++ bW 103 (o ++ [UInt8.ofNat (16 * dgt a + dgt b).toNat])))))) 80 (v) (L') 250) :
    RunsTo Tryd.prog 39 (headOf Tryd.f39 4) (envAt Tryd.f39.ntmps ([(0, vS s), (2, vP 104), (4, vL 102 1 T.length), (6, vP 101), (10, vL 103 1 (o).length), (11, vN (i : Nat))])) (Sx.look ([] ++ (bx0 ++ (bxE 1 0 ++ (txE true 102 (T).length (T) ++ bW 103 (o)))))) 80 (v) (L') 250 := by
  have hw : IntKind.i64.wrap ((i : Int) + 2) = ((i + 2 : Nat) : Int) := by rw [wr64 (by omega)]; rfl
  have hw0 : IntKind.i64.wrap ((i : Int) + 1) = ((i + 1 : Nat) : Int) := by rw [wr64 (by omega)]; rfl
  have d1 := dgt_le a
  have d2 := dgt_le b
  have a8 := u8nat a
  have b8 := u8nat b
  have va : dgtI (a.toNat : Int) = dgt a := rfl
  have vb : dgtI (b.toNat : Int) = dgt b := rfl
  have m1 : IntKind.i64.wrap (16 * dgt a) = 16 * dgt a := wr64 (by omega)
  have m2 : IntKind.i64.wrap (16 * dgt a + dgt b) = 16 * dgt a + dgt b := wr64 (by omega)
  have hap := app_byte o _ (fun _ => IntKind.u8.wrap (16 * dgt a + dgt b)) (byt_or a b)
  refine runs_more baseDI (More.of (dr1_p0 s T o i w a b) ⟨?oo, rfl, ?rr⟩) (by kernel_rfl) (by kernel_rfl) rfl (gtL (by decide)) (by decide) next
  case oo =>
    clear next
    refine (okc ?_ (okc ?_ (okc ?_ (okc ?_ (okc ?_ (okc ?_ (okc ?_ (okc ?_ (okc ?_ (okc ?_ (okc ?_ (okc ?_ (okc ?_ (okc ?_ (okc ?_ (okc ?_ okn))))))))))))))))
    all_goals ((try simp only [hw0, hw1, ha, hb, va, vb, m1, m2, Int.toNat_natCast]); first | done | rfl | omega | (simp (disch := omega) only [SS, hw0, hw1, ha, hb, va, vb, m1, m2]; first | done | omega) | (simp_all; done) | (simp_all; omega))
  case rr =>
    clear next
    simp only [hw, hw0, hw1, ha, hb, va, vb, m1, m2, Int.toNat_natCast]
    repeat' apply And.intro
    all_goals first | exact True.intro | with_reducible rfl | (intro k hk; exact hap k hk) | (simp; done) | (intros; rfl) | (intros; trivial)

theorem dr2_p0 (s : List UInt8) (T : List (List UInt8)) (o : List UInt8) (i : Nat) (w : List UInt8) :
    isMore (evTill Tryd.prog sumsDI 500 (behind Tryd.f39 5) 900 39 (headOf Tryd.f39 4) (envAt Tryd.f39.ntmps ([(0, vS s), (2, vP 104), (4, vL 102 1 T.length), (6, vP 101), (10, vL 103 1 (o).length), (11, vN (i : Nat))])) ([] ++ (bx0 ++ (bxE 1 0 ++ (txE true 102 (T).length (T) ++ bW 103 (o))))) ⟨[.s true, .s true, .s true, .s false, .s true], 110⟩) (moreP (headOf Tryd.f39 5) ([((103 : Nat), Rn.nil (1 : Nat))]) Tryd.f39.ntmps ([(0, vS s), (2, vP 104), (4, vL 102 1 T.length), (6, vP 101), (12, vN (0)), (13, vB false), (14, vN (0 : Nat))]) (bx0 ++ (bxM (o) (([] : List Int)) ++ (txE true 102 (T).length (T) ++ iW 103 (([] : List Int))))) 250) =
    (OkL [(decide ((0 : Int) ≤ (1 : Int) ∧ (1 : Int) < (↑T.length : Int)), true), (Nat.blt (1 : Nat) T.length, true), (Nat.blt (1 : Nat) T.length, true), (decide (IntKind.i64.wrap ((↑i : Int) + (1 : Int)) < (↑(T.getD (1 : Nat) []).length : Int)), false), (((0 : Nat) + o.length).ble o.length, true)] ∧ headOf Tryd.f39 (5 : Nat) = headOf Tryd.f39 (5 : Nat) ∧ (s = s ∧ (0 : Nat) = (0 : Nat) ∧ ((0 : Nat) = (0 : Nat) ∧ T.length = T.length) ∧ (0 : Nat) = (0 : Nat) ∧ (0 : Int) = (0 : Int) ∧ false = false ∧ (↑(0 : Nat) : Int) = (0 : Int)) ∧ ((0 : Int) = (0 : Int) ∧ (0 : Int) = (0 : Int) ∧ ([] : List UInt8) = [] ∧ True) ∧ ((1 : Int) = (1 : Int) ∧ (0 : Int) = (0 : Int) ∧ o = bytesOf (fun is => (↑(o.getD (List.headD is (0 : Nat)) (0 : UInt8)).toNat : Int)) [] (0 : Nat) o.length ∧ (0 : Nat) = (0 : Nat)) ∧ (T.length = T.length ∧ ∀ (i : Nat), i < T.length → T.getD i [] = T.getD i []) ∧ (0 : Nat) = (0 : Nat)) := by kernel_rfl

set_option maxHeartbeats 4000000 in
theorem dr2 (s : List UInt8) (T : List (List UInt8)) (o : List UInt8) (i : Nat) (w : List UInt8) (hi : ¬ i + 1 < w.length) (hil : i ≤ 2000) (hw1 : T.getD 1 [] = w) (h : 4 ≤ T.length) (ho : o.length ≤ 10000)  (v : SV) (L' : HF) (next : RunsTo Tryd.prog 39 (headOf Tryd.f39 5) (envAt Tryd.f39.ntmps ([(0, vS s), (2, vP 104), (4, vL 102 1 T.length), (6, vP 101), (12, vN (0)), (13, vB false), (14, vN (0 : Nat))])) (Sx.look ([] ++ (bx0 ++ (bxM (o) (([] : List Int)) ++ (txE true 102 (T).length (T) ++ iW 103 (([] : List Int))))))) 80 (v) (L') 250) :
    RunsTo Tryd.prog 39 (headOf Tryd.f39 4) (envAt Tryd.f39.ntmps ([(0, vS s), (2, vP 104), (4, vL 102 1 T.length), (6, vP 101), (10, vL 103 1 (o).length), (11, vN (i : Nat))])) (Sx.look ([] ++ (bx0 ++ (bxE 1 0 ++ (txE true 102 (T).length (T) ++ bW 103 (o)))))) 80 (v) (L') 250 := by
  have hw : IntKind.i64.wrap ((i : Int) + 2) = ((i + 2 : Nat) : Int) := by rw [wr64 (by omega)]; rfl
  have hw0 : IntKind.i64.wrap ((i : Int) + 1) = ((i + 1 : Nat) : Int) := by rw [wr64 (by omega)]; rfl
  refine runs_more baseDI (More.of (dr2_p0 s T o i w) ⟨?oo, rfl, ?rr⟩) (by kernel_rfl) (by kernel_rfl) rfl (gtL (by decide)) (by decide) next
  case oo =>
    clear next
    refine (okc ?_ (okc ?_ (okc ?_ (okc ?_ (okc ?_ okn)))))
    all_goals ((try simp only [hw0, hw1]); first | done | rfl | omega | (simp (disch := omega) only [SS, hw0, hw1]; first | done | omega) | (simp_all; done) | (simp_all; omega))
  case rr =>
    clear next
    repeat' apply And.intro
    all_goals first | exact True.intro | with_reducible rfl | (intro j hj; exact absurd hj (Nat.not_lt_zero _)) | (exact (bytes_is rfl (fun j hj => rfl)).symm) | (simp only [Go.Sx.sum]; exact (bytes_is rfl (fun j hj => rfl)).symm) | (intros; rfl) | rfl

theorem dr3_p0 (s : List UInt8) (T : List (List UInt8)) (b : List UInt8) (m : List Int) (n : Int) (i : Nat) (w : List UInt8) (c : UInt8) :
    isMore (evTill Tryd.prog sumsDI 500 (behind Tryd.f39 5) 900 39 (headOf Tryd.f39 5) (envAt Tryd.f39.ntmps ([(0, vS s), (2, vP 104), (4, vL 102 1 T.length), (6, vP 101), (12, vN (n)), (13, vB true), (14, vN (i : Nat))])) ([] ++ (bx0 ++ (bxM (b) (m) ++ (txE true 102 (T).length (T) ++ iW 103 (m))))) ⟨[.s true, .s true, .s true, .s true, .s true, .s true, .s true, .s false, .s true, .s true, .s true, .s true, .s true, .t, .t, .s true, .s true], 110⟩) (moreP (headOf Tryd.f39 5) ([((103 : Nat), Rn.to (111 : Nat))]) Tryd.f39.ntmps ([(0, vS s), (2, vP 104), (4, vL 102 1 T.length), (6, vP 101), (12, vN (0)), (13, vB false), (14, vN (i + 1 : Nat))]) (bx0 ++ (bxM (b) (m ++ [n]) ++ (txE true 102 (T).length (T) ++ iW 103 (m ++ [n])))) 250) =
    (OkL [(decide ((0 : Int) ≤ (3 : Int) ∧ (3 : Int) < (↑T.length : Int)), true), (Nat.blt (3 : Nat) T.length, true), (Nat.blt (3 : Nat) T.length, true), (decide ((↑i : Int) ≤ (↑(T.getD (3 : Nat) []).length : Int)), true), (decide ((0 : Int) ≤ (3 : Int) ∧ (3 : Int) < (↑T.length : Int)), true), (Nat.blt (3 : Nat) T.length, true), (Nat.blt (3 : Nat) T.length, true), ((↑i : Int) == (↑(T.getD (3 : Nat) []).length : Int), false), (decide ((0 : Int) ≤ (3 : Int) ∧ (3 : Int) < (↑T.length : Int)), true), (Nat.blt (3 : Nat) T.length, true), (Nat.blt (3 : Nat) T.length, true), (decide ((0 : Int) ≤ (↑i : Int) ∧ (↑i : Int) < (↑(T.getD (3 : Nat) []).length : Int)), true), ((↑((T.getD (3 : Nat) []).getD (↑i : Int).toNat (0 : UInt8)).toNat : Int) == (44 : Int), true), (((0 : Nat) + m.length).ble m.length, true), (decide (((2 : Nat) * (m.length + (1 : Nat)) + (192 : Nat)) * (8 : Nat) ≤ (281474976710656 : Nat)), true)] ∧ headOf Tryd.f39 (5 : Nat) = headOf Tryd.f39 (5 : Nat) ∧ (s = s ∧ (0 : Nat) = (0 : Nat) ∧ ((0 : Nat) = (0 : Nat) ∧ T.length = T.length) ∧ (0 : Nat) = (0 : Nat) ∧ (0 : Int) = (0 : Int) ∧ false = false ∧ (↑(i + (1 : Nat)) : Int) = IntKind.i64.wrap ((↑i : Int) + (1 : Int))) ∧ ((0 : Int) = (0 : Int) ∧ (0 : Int) = (0 : Int) ∧ ([] : List UInt8) = [] ∧ True) ∧ ((1 : Int) = (1 : Int) ∧ (0 : Int) = (0 : Int) ∧ b = b ∧ (0 : Nat) = (0 : Nat) ∧ (m ++ [n]).length = m.length + (1 : Nat)) ∧ (T.length = T.length ∧ ∀ (i : Nat), i < T.length → T.getD i [] = T.getD i []) ∧ (m ++ [n]).length = m.length + (1 : Nat) ∧ ∀ (i : Nat), i < (m ++ [n]).length → (m ++ [n]).getD i (0 : Int) = appF m.length (0 : Nat) (fun is => m.getD (List.headD is (0 : Nat)) (0 : Int)) (fun js => n) [i]) := by kernel_rfl

set_option maxHeartbeats 4000000 in
theorem dr3 (s : List UInt8) (T : List (List UInt8)) (b : List UInt8) (m : List Int) (n : Int) (i : Nat) (w : List UInt8) (c : UInt8) (hi : i < w.length) (hc : w.getD i 0 = c) (h44 : c = 44) (hw3 : T.getD 3 [] = w) (h : 4 ≤ T.length) (hn : 0 ≤ n ∧ n ≤ 100000) (hm : m.length ≤ 10000) (hwl : w.length ≤ 1000)  (v : SV) (L' : HF) (next : RunsTo Tryd.prog 39 (headOf Tryd.f39 5) (envAt Tryd.f39.ntmps ([(0, vS s), (2, vP 104), (4, vL 102 1 T.length), (6, vP 101), (12, vN (0)), (13, vB false), (14, vN (i + 1 : Nat))])) (Sx.look ([] ++ (bx0 ++ (bxM (b) (m ++ [n]) ++ (txE true 102 (T).length (T) ++ iW 103 (m ++ [n])))))) 80 (v) (L') 250) :
    RunsTo Tryd.prog 39 (headOf Tryd.f39 5) (envAt Tryd.f39.ntmps ([(0, vS s), (2, vP 104), (4, vL 102 1 T.length), (6, vP 101), (12, vN (n)), (13, vB true), (14, vN (i : Nat))])) (Sx.look ([] ++ (bx0 ++ (bxM (b) (m) ++ (txE true 102 (T).length (T) ++ iW 103 (m)))))) 80 (v) (L') 250 := by
  have hw : IntKind.i64.wrap ((i : Int) + 1) = ((i + 1 : Nat) : Int) := by rw [wr64 (by omega)]; rfl
  have hap := app_get (fun x : Int => x) 0 m [n] (fun _ => n) (fun j hj => by obtain rfl : j = 0 := (by simp at hj; omega); rfl)
  have h4 : (((44 : UInt8).toNat : Nat) : Int) = 44 := rfl
  refine runs_more baseDI (More.of (dr3_p0 s T b m n i w c) ⟨?oo, rfl, ?rr⟩) (by kernel_rfl) (by kernel_rfl) rfl (gtL (by decide)) (by decide) next
  case oo =>
    clear next
    refine (okc ?_ (okc ?_ (okc ?_ (okc ?_ (okc ?_ (okc ?_ (okc ?_ (okc ?_ (okc ?_ (okc ?_ (okc ?_ (okc ?_ (okc ?_ (okc ?_ (okc ?_ okn)))))))))))))))
    all_goals ((try simp only [hw, hw3, hc, h44, h4, Int.toNat_natCast]); first | done | rfl | omega | (simp (disch := omega) only [SS, hw, hw3, hc, h44, h4]; first | done | omega) | (simp_all; done) | (simp_all; omega))
  case rr =>
    clear next
    simp only [hw, hw3, hc, h44, h4, Int.toNat_natCast]
    repeat' apply And.intro
    all_goals first | exact True.intro | with_reducible rfl | omega | (intro k hk; exact hap k hk) | (simp; done) | (intros; rfl) | (intros; trivial)

theorem dr4_p0 (s : List UInt8) (T : List (List UInt8)) (b : List UInt8) (m : List Int) (n : Int) (i : Nat) (w : List UInt8) (c : UInt8) :
    isMore (evTill Tryd.prog sumsDI 500 (behind Tryd.f39 5) 900 39 (headOf Tryd.f39 5) (envAt Tryd.f39.ntmps ([(0, vS s), (2, vP 104), (4, vL 102 1 T.length), (6, vP 101), (12, vN (n)), (13, vB false), (14, vN (i : Nat))])) ([] ++ (bx0 ++ (bxM (b) (m) ++ (txE true 102 (T).length (T) ++ iW 103 (m))))) ⟨[.s true, .s true, .s true, .s true, .s true, .s true, .s true, .s false, .s true, .s true, .s true, .s true, .s true, .f], 110⟩) (moreP (headOf Tryd.f39 5) ([]) Tryd.f39.ntmps ([(0, vS s), (2, vP 104), (4, vL 102 1 T.length), (6, vP 101), (12, vN (0)), (13, vB false), (14, vN (i + 1 : Nat))]) (bx0 ++ (bxM (b) (m) ++ (txE true 102 (T).length (T) ++ iW 103 (m)))) 250) =
    (OkL [(decide ((0 : Int) ≤ (3 : Int) ∧ (3 : Int) < (↑T.length : Int)), true), (Nat.blt (3 : Nat) T.length, true), (Nat.blt (3 : Nat) T.length, true), (decide ((↑i : Int) ≤ (↑(T.getD (3 : Nat) []).length : Int)), true), (decide ((0 : Int) ≤ (3 : Int) ∧ (3 : Int) < (↑T.length : Int)), true), (Nat.blt (3 : Nat) T.length, true), (Nat.blt (3 : Nat) T.length, true), ((↑i : Int) == (↑(T.getD (3 : Nat) []).length : Int), false), (decide ((0 : Int) ≤ (3 : Int) ∧ (3 : Int) < (↑T.length : Int)), true), (Nat.blt (3 : Nat) T.length, true), (Nat.blt (3 : Nat) T.length, true), (decide ((0 : Int) ≤ (↑i : Int) ∧ (↑i : Int) < (↑(T.getD (3 : Nat) []).length : Int)), true), ((↑((T.getD (3 : Nat) []).getD (↑i : Int).toNat (0 : UInt8)).toNat : Int) == (44 : Int), true)] ∧ headOf Tryd.f39 (5 : Nat) = headOf Tryd.f39 (5 : Nat) ∧ (s = s ∧ (0 : Nat) = (0 : Nat) ∧ ((0 : Nat) = (0 : Nat) ∧ T.length = T.length) ∧ (0 : Nat) = (0 : Nat) ∧ (0 : Int) = (0 : Int) ∧ false = false ∧ (↑(i + (1 : Nat)) : Int) = IntKind.i64.wrap ((↑i : Int) + (1 : Int))) ∧ ((0 : Int) = (0 : Int) ∧ (0 : Int) = (0 : Int) ∧ ([] : List UInt8) = [] ∧ True) ∧ ((1 : Int) = (1 : Int) ∧ (0 : Int) = (0 : Int) ∧ b = b ∧ (0 : Nat) = (0 : Nat) ∧ m.length = m.length) ∧ (T.length = T.length ∧ ∀ (i : Nat), i < T.length → T.getD i [] = T.getD i []) ∧ m.length = m.length ∧ ∀ (i : Nat), i < m.length → m.getD i (0 : Int) = m.getD i (0 : Int)) := by kernel_rfl

set_option maxHeartbeats 4000000 in
theorem dr4 (s : List UInt8) (T : List (List UInt8)) (b : List UInt8) (m : List Int) (n : Int) (i : Nat) (w : List UInt8) (c : UInt8) (hi : i < w.length) (hc : w.getD i 0 = c) (h44 : c = 44) (hw3 : T.getD 3 [] = w) (h : 4 ≤ T.length) (hn : 0 ≤ n ∧ n ≤ 100000) (hm : m.length ≤ 10000) (hwl : w.length ≤ 1000)  (v : SV) (L' : HF) (next : RunsTo Tryd.prog 39 (headOf Tryd.f39 5) (envAt Tryd.f39.ntmps ([(0, vS s), (2, vP 104), (4, vL 102 1 T.length), (6, vP 101), (12, vN (0)), (13, vB false), (14, vN (i + 1 : Nat))])) (Sx.look ([] ++ (bx0 ++ (bxM (b) (m) ++ (txE true 102 (T).length (T) ++ iW 103 (m)))))) 80 (v) (L') 250) :
    RunsTo Tryd.prog 39 (headOf Tryd.f39 5) (envAt Tryd.f39.ntmps ([(0, vS s), (2, vP 104), (4, vL 102 1 T.length), (6, vP 101), (12, vN (n)), (13, vB false), (14, vN (i : Nat))])) (Sx.look ([] ++ (bx0 ++ (bxM (b) (m) ++ (txE true 102 (T).length (T) ++ iW 103 (m)))))) 80 (v) (L') 250 := by
  have hw : IntKind.i64.wrap ((i : Int) + 1) = ((i + 1 : Nat) : Int) := by rw [wr64 (by omega)]; rfl
  have h4 : (((44 : UInt8).toNat : Nat) : Int) = 44 := rfl
  refine runs_more baseDI (More.of (dr4_p0 s T b m n i w c) ⟨?oo, rfl, ?rr⟩) (by kernel_rfl) (by kernel_rfl) rfl (gtL (by decide)) (by decide) next
  case oo =>
    clear next
    refine (okc ?_ (okc ?_ (okc ?_ (okc ?_ (okc ?_ (okc ?_ (okc ?_ (okc ?_ (okc ?_ (okc ?_ (okc ?_ (okc ?_ (okc ?_ okn)))))))))))))
    all_goals ((try simp only [hw, hw3, hc, h44, h4, Int.toNat_natCast]); first | done | rfl | omega | (simp (disch := omega) only [SS, hw, hw3, hc, h44, h4]; first | done | omega) | (simp_all; done) | (simp_all; omega))
  case rr =>
    clear next
    simp only [hw, hw3, hc, h44, h4, Int.toNat_natCast]
    repeat' apply And.intro
    all_goals first | exact True.intro | with_reducible rfl | omega | (simp; done) | (intros; rfl) | (intros; trivial)

theorem dr5_p0 (s : List UInt8) (T : List (List UInt8)) (b : List UInt8) (m : List Int) (n : Int) (i : Nat) (w : List UInt8) (op : Bool) (c : UInt8) :
    isMore (evTill Tryd.prog sumsDI 500 (behind Tryd.f39 5) 900 39 (headOf Tryd.f39 5) (envAt Tryd.f39.ntmps ([(0, vS s), (2, vP 104), (4, vL 102 1 T.length), (6, vP 101), (12, vN (n)), (13, vB op), (14, vN (i : Nat))])) ([] ++ (bx0 ++ (bxM (b) (m) ++ (txE true 102 (T).length (T) ++ iW 103 (m))))) ⟨[.s true, .s true, .s true, .s true, .s true, .s true, .s true, .s false, .s true, .s true, .s true, .s true, .s false, .s true, .s true, .s true, .s true, .s true], 110⟩) (moreP (headOf Tryd.f39 5) ([]) Tryd.f39.ntmps ([(0, vS s), (2, vP 104), (4, vL 102 1 T.length), (6, vP 101), (12, vN (min (10 * n + dgt c) 100000)), (13, vB true), (14, vN (i + 1 : Nat))]) (bx0 ++ (bxM (b) (m) ++ (txE true 102 (T).length (T) ++ iW 103 (m)))) 250) =
    (OkL [(decide ((0 : Int) ≤ (3 : Int) ∧ (3 : Int) < (↑T.length : Int)), true), (Nat.blt (3 : Nat) T.length, true), (Nat.blt (3 : Nat) T.length, true), (decide ((↑i : Int) ≤ (↑(T.getD (3 : Nat) []).length : Int)), true), (decide ((0 : Int) ≤ (3 : Int) ∧ (3 : Int) < (↑T.length : Int)), true), (Nat.blt (3 : Nat) T.length, true), (Nat.blt (3 : Nat) T.length, true), ((↑i : Int) == (↑(T.getD (3 : Nat) []).length : Int), false), (decide ((0 : Int) ≤ (3 : Int) ∧ (3 : Int) < (↑T.length : Int)), true), (Nat.blt (3 : Nat) T.length, true), (Nat.blt (3 : Nat) T.length, true), (decide ((0 : Int) ≤ (↑i : Int) ∧ (↑i : Int) < (↑(T.getD (3 : Nat) []).length : Int)), true), ((↑((T.getD (3 : Nat) []).getD (↑i : Int).toNat (0 : UInt8)).toNat : Int) == (44 : Int), false), (decide ((0 : Int) ≤ (3 : Int) ∧ (3 : Int) < (↑T.length : Int)), true), (Nat.blt (3 : Nat) T.length, true), (Nat.blt (3 : Nat) T.length, true), (decide ((0 : Int) ≤ (↑i : Int) ∧ (↑i : Int) < (↑(T.getD (3 : Nat) []).length : Int)), true), (decide ((0 : Int) ≤ (↑((T.getD (3 : Nat) []).getD (↑i : Int).toNat (0 : UInt8)).toNat : Int) ∧ (↑((T.getD (3 : Nat) []).getD (↑i : Int).toNat (0 : UInt8)).toNat : Int) < (256 : Int)), true)] ∧ headOf Tryd.f39 (5 : Nat) = headOf Tryd.f39 (5 : Nat) ∧ (s = s ∧ (0 : Nat) = (0 : Nat) ∧ ((0 : Nat) = (0 : Nat) ∧ T.length = T.length) ∧ (0 : Nat) = (0 : Nat) ∧ (min ((10 : Int) * n + dgt c) (100000 : Int) = if (100000 : Int) < IntKind.i64.wrap (IntKind.i64.wrap ((10 : Int) * n) + dgtI (↑((T.getD (3 : Nat) []).getD (↑i : Int).toNat (0 : UInt8)).toNat : Int)) then (100000 : Int) else IntKind.i64.wrap (IntKind.i64.wrap ((10 : Int) * n) + dgtI (↑((T.getD (3 : Nat) []).getD (↑i : Int).toNat (0 : UInt8)).toNat : Int))) ∧ true = true ∧ (↑(i + (1 : Nat)) : Int) = IntKind.i64.wrap ((↑i : Int) + (1 : Int))) ∧ ((0 : Int) = (0 : Int) ∧ (0 : Int) = (0 : Int) ∧ ([] : List UInt8) = [] ∧ True) ∧ ((1 : Int) = (1 : Int) ∧ (0 : Int) = (0 : Int) ∧ b = b ∧ (0 : Nat) = (0 : Nat) ∧ m.length = m.length) ∧ (T.length = T.length ∧ ∀ (i : Nat), i < T.length → T.getD i [] = T.getD i []) ∧ m.length = m.length ∧ ∀ (i : Nat), i < m.length → m.getD i (0 : Int) = m.getD i (0 : Int)) := by kernel_rfl

set_option maxHeartbeats 4000000 in
theorem dr5 (s : List UInt8) (T : List (List UInt8)) (b : List UInt8) (m : List Int) (n : Int) (i : Nat) (w : List UInt8) (op : Bool) (c : UInt8) (hi : i < w.length) (hc : w.getD i 0 = c) (h44 : c ≠ 44) (hw3 : T.getD 3 [] = w) (h : 4 ≤ T.length) (hn : 0 ≤ n ∧ n ≤ 100000) (hm : m.length ≤ 10000) (hwl : w.length ≤ 1000)  (v : SV) (L' : HF) (next : RunsTo Tryd.prog 39 (headOf Tryd.f39 5) (envAt Tryd.f39.ntmps ([(0, vS s), (2, vP 104), (4, vL 102 1 T.length), (6, vP 101), (12, vN (min (10 * n + dgt c) 100000)), (13, vB true), (14, vN (i + 1 : Nat))])) (Sx.look ([] ++ (bx0 ++ (bxM (b) (m) ++ (txE true 102 (T).length (T) ++ iW 103 (m)))))) 80 (v) (L') 250) :
    RunsTo Tryd.prog 39 (headOf Tryd.f39 5) (envAt Tryd.f39.ntmps ([(0, vS s), (2, vP 104), (4, vL 102 1 T.length), (6, vP 101), (12, vN (n)), (13, vB op), (14, vN (i : Nat))])) (Sx.look ([] ++ (bx0 ++ (bxM (b) (m) ++ (txE true 102 (T).length (T) ++ iW 103 (m)))))) 80 (v) (L') 250 := by
  have hw : IntKind.i64.wrap ((i : Int) + 1) = ((i + 1 : Nat) : Int) := by rw [wr64 (by omega)]; rfl
  have hz : ((c.toNat : Int) == 44) = false := beq_eq_false_iff_ne.2 (fun e => h44 (UInt8.toNat_inj.1 (by show c.toNat = 44; omega)))
  have hd := dgt_le c
  have hc8 := u8nat c
  have hv : dgtI (c.toNat : Int) = dgt c := rfl
  have m1 : IntKind.i64.wrap (10 * n) = 10 * n := wr64 (by omega)
  have m2 : IntKind.i64.wrap (10 * n + dgt c) = 10 * n + dgt c := wr64 (by omega)
  refine runs_more baseDI (More.of (dr5_p0 s T b m n i w op c) ⟨?oo, rfl, ?rr⟩) (by kernel_rfl) (by kernel_rfl) rfl (gtL (by decide)) (by decide) next
  case oo =>
    clear next
    refine (okc ?_ (okc ?_ (okc ?_ (okc ?_ (okc ?_ (okc ?_ (okc ?_ (okc ?_ (okc ?_ (okc ?_ (okc ?_ (okc ?_ (okc ?_ (okc ?_ (okc ?_ (okc ?_ (okc ?_ (okc ?_ okn))))))))))))))))))
    all_goals ((try simp only [hw, hw3, hc, hz, hv, m1, m2, Int.toNat_natCast]); first | done | rfl | omega | (simp (disch := omega) only [SS, hw, hw3, hc, hz, hv, m1, m2]; first | done | omega) | (simp_all; done) | (simp_all; omega))
  case rr =>
    clear next
    simp only [hw, hw3, hc, hv, m1, m2, Int.toNat_natCast]
    repeat' apply And.intro
    all_goals first | exact True.intro | with_reducible rfl | omega | (split <;> omega) | (simp; done) | (intros; rfl) | (intros; trivial)

theorem dr6_p0 (s : List UInt8) (T : List (List UInt8)) (b : List UInt8) (m : List Int) (n : Int) (i : Nat) (w : List UInt8) :
    isMore (evTill Tryd.prog sumsDI 500 (behind Tryd.f39 5) 900 39 (headOf Tryd.f39 5) (envAt Tryd.f39.ntmps ([(0, vS s), (2, vP 104), (4, vL 102 1 T.length), (6, vP 101), (12, vN (n)), (13, vB true), (14, vN (i : Nat))])) ([] ++ (bx0 ++ (bxM (b) (m) ++ (txE true 102 (T).length (T) ++ iW 103 (m))))) ⟨[.s true, .s true, .s true, .s true, .s true, .s true, .s true, .s true, .t, .t, .s true, .s true], 110⟩) (moreP (headOf Tryd.f39 5) ([((103 : Nat), Rn.to (111 : Nat))]) Tryd.f39.ntmps ([(0, vS s), (2, vP 104), (4, vL 102 1 T.length), (6, vP 101), (12, vN (0)), (13, vB false), (14, vN (i + 1 : Nat))]) (bx0 ++ (bxM (b) (m ++ [n]) ++ (txE true 102 (T).length (T) ++ iW 103 (m ++ [n])))) 250) =
    (OkL [(decide ((0 : Int) ≤ (3 : Int) ∧ (3 : Int) < (↑T.length : Int)), true), (Nat.blt (3 : Nat) T.length, true), (Nat.blt (3 : Nat) T.length, true), (decide ((↑i : Int) ≤ (↑(T.getD (3 : Nat) []).length : Int)), true), (decide ((0 : Int) ≤ (3 : Int) ∧ (3 : Int) < (↑T.length : Int)), true), (Nat.blt (3 : Nat) T.length, true), (Nat.blt (3 : Nat) T.length, true), ((↑i : Int) == (↑(T.getD (3 : Nat) []).length : Int), true), (((0 : Nat) + m.length).ble m.length, true), (decide (((2 : Nat) * (m.length + (1 : Nat)) + (192 : Nat)) * (8 : Nat) ≤ (281474976710656 : Nat)), true)] ∧ headOf Tryd.f39 (5 : Nat) = headOf Tryd.f39 (5 : Nat) ∧ (s = s ∧ (0 : Nat) = (0 : Nat) ∧ ((0 : Nat) = (0 : Nat) ∧ T.length = T.length) ∧ (0 : Nat) = (0 : Nat) ∧ (0 : Int) = (0 : Int) ∧ false = false ∧ (↑(i + (1 : Nat)) : Int) = IntKind.i64.wrap ((↑i : Int) + (1 : Int))) ∧ ((0 : Int) = (0 : Int) ∧ (0 : Int) = (0 : Int) ∧ ([] : List UInt8) = [] ∧ True) ∧ ((1 : Int) = (1 : Int) ∧ (0 : Int) = (0 : Int) ∧ b = b ∧ (0 : Nat) = (0 : Nat) ∧ (m ++ [n]).length = m.length + (1 : Nat)) ∧ (T.length = T.length ∧ ∀ (i : Nat), i < T.length → T.getD i [] = T.getD i []) ∧ (m ++ [n]).length = m.length + (1 : Nat) ∧ ∀ (i : Nat), i < (m ++ [n]).length → (m ++ [n]).getD i (0 : Int) = appF m.length (0 : Nat) (fun is => m.getD (List.headD is (0 : Nat)) (0 : Int)) (fun js => n) [i]) := by kernel_rfl

set_option maxHeartbeats 4000000 in
theorem dr6 (s : List UInt8) (T : List (List UInt8)) (b : List UInt8) (m : List Int) (n : Int) (i : Nat) (w : List UInt8) (hi : i = w.length) (hw3 : T.getD 3 [] = w) (h : 4 ≤ T.length) (hn : 0 ≤ n ∧ n ≤ 100000) (hm : m.length ≤ 10000) (hwl : w.length ≤ 1000)  (v : SV) (L' : HF) (next : RunsTo Tryd.prog 39 (headOf Tryd.f39 5) (envAt Tryd.f39.ntmps ([(0, vS s), (2, vP 104), (4, vL 102 1 T.length), (6, vP 101), (12, vN (0)), (13, vB false), (14, vN (i + 1 : Nat))])) (Sx.look ([] ++ (bx0 ++ (bxM (b) (m ++ [n]) ++ (txE true 102 (T).length (T) ++ iW 103 (m ++ [n])))))) 80 (v) (L') 250) :
    RunsTo Tryd.prog 39 (headOf Tryd.f39 5) (envAt Tryd.f39.ntmps ([(0, vS s), (2, vP 104), (4, vL 102 1 T.length), (6, vP 101), (12, vN (n)), (13, vB true), (14, vN (i : Nat))])) (Sx.look ([] ++ (bx0 ++ (bxM (b) (m) ++ (txE true 102 (T).length (T) ++ iW 103 (m)))))) 80 (v) (L') 250 := by
  have hw : IntKind.i64.wrap ((i : Int) + 1) = ((i + 1 : Nat) : Int) := by rw [wr64 (by omega)]; rfl
  have hap := app_get (fun x : Int => x) 0 m [n] (fun _ => n) (fun j hj => by obtain rfl : j = 0 := (by simp at hj; omega); rfl)
  refine runs_more baseDI (More.of (dr6_p0 s T b m n i w) ⟨?oo, rfl, ?rr⟩) (by kernel_rfl) (by kernel_rfl) rfl (gtL (by decide)) (by decide) next
  case oo =>
    clear next
    refine (okc ?_ (okc ?_ (okc ?_ (okc ?_ (okc ?_ (okc ?_ (okc ?_ (okc ?_ (okc ?_ (okc ?_ okn))))))))))
    all_goals ((try simp only [hw, hw3, hi, Int.toNat_natCast]); first | done | rfl | omega | (simp (disch := omega) only [SS, hw, hw3, hi]; first | done | omega) | (simp_all; done) | (simp_all; omega))
  case rr =>
    clear next
    simp only [hw, hw3, Int.toNat_natCast]
    repeat' apply And.intro
    all_goals first | exact True.intro | with_reducible rfl | omega | (intro k hk; exact hap k hk) | (simp; done) | (intros; rfl) | (intros; trivial)

theorem dr7_p0 (s : List UInt8) (T : List (List UInt8)) (b : List UInt8) (m : List Int) (n : Int) (i : Nat) (w : List UInt8) :
    isMore (evTill Tryd.prog sumsDI 500 (behind Tryd.f39 5) 900 39 (headOf Tryd.f39 5) (envAt Tryd.f39.ntmps ([(0, vS s), (2, vP 104), (4, vL 102 1 T.length), (6, vP 101), (12, vN (n)), (13, vB false), (14, vN (i : Nat))])) ([] ++ (bx0 ++ (bxM (b) (m) ++ (txE true 102 (T).length (T) ++ iW 103 (m))))) ⟨[.s true, .s true, .s true, .s true, .s true, .s true, .s true, .s true, .f], 110⟩) (moreP (headOf Tryd.f39 5) ([]) Tryd.f39.ntmps ([(0, vS s), (2, vP 104), (4, vL 102 1 T.length), (6, vP 101), (12, vN (0)), (13, vB false), (14, vN (i + 1 : Nat))]) (bx0 ++ (bxM (b) (m) ++ (txE true 102 (T).length (T) ++ iW 103 (m)))) 250) =
    (OkL [(decide ((0 : Int) ≤ (3 : Int) ∧ (3 : Int) < (↑T.length : Int)), true), (Nat.blt (3 : Nat) T.length, true), (Nat.blt (3 : Nat) T.length, true), (decide ((↑i : Int) ≤ (↑(T.getD (3 : Nat) []).length : Int)), true), (decide ((0 : Int) ≤ (3 : Int) ∧ (3 : Int) < (↑T.length : Int)), true), (Nat.blt (3 : Nat) T.length, true), (Nat.blt (3 : Nat) T.length, true), ((↑i : Int) == (↑(T.getD (3 : Nat) []).length : Int), true)] ∧ headOf Tryd.f39 (5 : Nat) = headOf Tryd.f39 (5 : Nat) ∧ (s = s ∧ (0 : Nat) = (0 : Nat) ∧ ((0 : Nat) = (0 : Nat) ∧ T.length = T.length) ∧ (0 : Nat) = (0 : Nat) ∧ (0 : Int) = (0 : Int) ∧ false = false ∧ (↑(i + (1 : Nat)) : Int) = IntKind.i64.wrap ((↑i : Int) + (1 : Int))) ∧ ((0 : Int) = (0 : Int) ∧ (0 : Int) = (0 : Int) ∧ ([] : List UInt8) = [] ∧ True) ∧ ((1 : Int) = (1 : Int) ∧ (0 : Int) = (0 : Int) ∧ b = b ∧ (0 : Nat) = (0 : Nat) ∧ m.length = m.length) ∧ (T.length = T.length ∧ ∀ (i : Nat), i < T.length → T.getD i [] = T.getD i []) ∧ m.length = m.length ∧ ∀ (i : Nat), i < m.length → m.getD i (0 : Int) = m.getD i (0 : Int)) := by kernel_rfl

set_option maxHeartbeats 4000000 in
theorem dr7 (s : List UInt8) (T : List (List UInt8)) (b : List UInt8) (m : List Int) (n : Int) (i : Nat) (w : List UInt8) (hi : i = w.length) (hw3 : T.getD 3 [] = w) (h : 4 ≤ T.length) (hn : 0 ≤ n ∧ n ≤ 100000) (hm : m.length ≤ 10000) (hwl : w.length ≤ 1000)  (v : SV) (L' : HF) (next : RunsTo Tryd.prog 39 (headOf Tryd.f39 5) (envAt Tryd.f39.ntmps ([(0, vS s), (2, vP 104), (4, vL 102 1 T.length), (6, vP 101), (12, vN (0)), (13, vB false), (14, vN (i + 1 : Nat))])) (Sx.look ([] ++ (bx0 ++ (bxM (b) (m) ++ (txE true 102 (T).length (T) ++ iW 103 (m)))))) 80 (v) (L') 250) :
    RunsTo Tryd.prog 39 (headOf Tryd.f39 5) (envAt Tryd.f39.ntmps ([(0, vS s), (2, vP 104), (4, vL 102 1 T.length), (6, vP 101), (12, vN (n)), (13, vB false), (14, vN (i : Nat))])) (Sx.look ([] ++ (bx0 ++ (bxM (b) (m) ++ (txE true 102 (T).length (T) ++ iW 103 (m)))))) 80 (v) (L') 250 := by
  have hw : IntKind.i64.wrap ((i : Int) + 1) = ((i + 1 : Nat) : Int) := by rw [wr64 (by omega)]; rfl
  refine runs_more baseDI (More.of (dr7_p0 s T b m n i w) ⟨?oo, rfl, ?rr⟩) (by kernel_rfl) (by kernel_rfl) rfl (gtL (by decide)) (by decide) next
  case oo =>
    clear next
    refine (okc ?_ (okc ?_ (okc ?_ (okc ?_ (okc ?_ (okc ?_ (okc ?_ (okc ?_ okn))))))))
    all_goals ((try simp only [hw, hw3, hi, Int.toNat_natCast]); first | done | rfl | omega | (simp (disch := omega) only [SS, hw, hw3, hi]; first | done | omega) | (simp_all; done) | (simp_all; omega))
  case rr =>
    clear next
    simp only [hw, hw3, Int.toNat_natCast]
    repeat' apply And.intro
    all_goals first | exact True.intro | with_reducible rfl | omega | (simp; done) | (intros; rfl) | (intros; trivial)

theorem dr8_p0 (s : List UInt8) (T : List (List UInt8)) (b : List UInt8) (m : List Int) (n : Int) (i : Nat) (w : List UInt8) (op : Bool) :
    isEnd (evTill Tryd.prog sumsDC 500 (99) 900 39 (headOf Tryd.f39 5) (envAt Tryd.f39.ntmps ([(0, vS s), (2, vP 104), (4, vL 102 1 T.length), (6, vP 101), (12, vN (n)), (13, vB op), (14, vN (i : Nat))])) ([] ++ (bx0 ++ (bxM (b) (m) ++ (txE true 102 (T).length (T) ++ iW 103 (m))))) ⟨[.s true, .s true, .s true, .s false, .s true, .s true], 110⟩) (endP ([((141 : Nat), Rn.nil (1 : Nat))]) (dpV ev0 false) (iW 141 ev0.M) 250) =
    (OkL [(decide ((0 : Int) ≤ (3 : Int) ∧ (3 : Int) < (↑T.length : Int)), true), (Nat.blt (3 : Nat) T.length, true), (Nat.blt (3 : Nat) T.length, true), (decide ((↑i : Int) ≤ (↑(T.getD (3 : Nat) []).length : Int)), false), (decide (m.length ≤ m.length) && (decide (m.length ≤ (100000 : Nat)) && decide (b.length ≤ (100000 : Nat))), true), (!rightV (1 : Int) (0 : Int) b.length m.length fun is => m.getD (List.headD is (0 : Nat)) (0 : Int), true)] ∧ (((0 : Int) = (0 : Int) ∧ (0 : Int) = (0 : Int) ∧ ([] : List UInt8) = [] ∧ (0 : Nat) = (0 : Nat)) ∧ false = false ∧ True) ∧ (0 : Nat) = (0 : Nat)) := by kernel_rfl

set_option maxHeartbeats 4000000 in
theorem dr8 (s : List UInt8) (T : List (List UInt8)) (b : List UInt8) (m : List Int) (n : Int) (i : Nat) (w : List UInt8) (op : Bool) (hr : rightR ⟨1, 0, b, m⟩ = false) (hi : i = w.length + 1) (hml : m.length ≤ 1100) (hbl : b.length ≤ 1000) (hw3 : T.getD 3 [] = w) (h : 4 ≤ T.length) (hn : 0 ≤ n ∧ n ≤ 100000) (hm : m.length ≤ 10000) (hwl : w.length ≤ 1000)  :
    RunsTo Tryd.prog 39 (headOf Tryd.f39 5) (envAt Tryd.f39.ntmps ([(0, vS s), (2, vP 104), (4, vL 102 1 T.length), (6, vP 101), (12, vN (n)), (13, vB op), (14, vN (i : Nat))])) (Sx.look ([] ++ (bx0 ++ (bxM (b) (m) ++ (txE true 102 (T).length (T) ++ iW 103 (m)))))) 80 (dpV ev0 false) (Sx.look (iW 141 ev0.M)) 250 := by
  have e1 : rightV 1 0 b.length m.length (fun is => m.getD (is.headD 0) 0) = rightR ⟨1, 0, b, m⟩ := rightV_ev ⟨1, 0, b, m⟩
  have e2 := intsF_list m
  refine runs_last baseDC (Sx.Ends.of (dr8_p0 s T b m n i w op) ⟨?oo, ?rr⟩) (by kernel_rfl) rfl (gtL (by decide)) (by decide)
  case oo =>
    refine (okc ?_ (okc ?_ (okc ?_ (okc ?_ (okc ?_ (okc ?_ okn))))))
    all_goals ((try simp only [hw3, e1, e2, hr, hi]); first | done | rfl | omega | exact ⟨Nat.le_refl _, by omega, by omega⟩ | exact ⟨Nat.le_refl _, by omega, hr⟩ | (simp (disch := omega) only [SS, hw3, e1, e2, hr, hi]; first | done | omega | exact ⟨Nat.le_refl _, by omega, by omega⟩ | exact ⟨Nat.le_refl _, by omega, hr⟩) | (simp_all; done) | (simp_all; omega))
  case rr =>
    repeat' apply And.intro
    all_goals first | exact True.intro | with_reducible rfl | rfl | (simp_all [ev0]; done) | (intro j hj; exact absurd hj (Nat.not_lt_zero _))

theorem dr9_p0 (s : List UInt8) (T : List (List UInt8)) (b : List UInt8) (m : List Int) (n : Int) (i : Nat) (w : List UInt8) (op : Bool) :
    isEnd (evTill Tryd.prog sumsDC 500 (99) 900 39 (headOf Tryd.f39 5) (envAt Tryd.f39.ntmps ([(0, vS s), (2, vP 104), (4, vL 102 1 T.length), (6, vP 101), (12, vN (n)), (13, vB op), (14, vN (i : Nat))])) ([] ++ (bx0 ++ (bxM (b) (m) ++ (txE true 102 (T).length (T) ++ iW 103 (m))))) ⟨[.s true, .s true, .s true, .s false, .s true, .s false, .s true, .s true], 110⟩) (endP ([((141 : Nat), Rn.nil (1 : Nat))]) (dpV ev0 false) (iW 141 ev0.M) 250) =
    (OkL [(decide ((0 : Int) ≤ (3 : Int) ∧ (3 : Int) < (↑T.length : Int)), true), (Nat.blt (3 : Nat) T.length, true), (Nat.blt (3 : Nat) T.length, true), (decide ((↑i : Int) ≤ (↑(T.getD (3 : Nat) []).length : Int)), false), (decide (m.length ≤ m.length) && (decide (m.length ≤ (100000 : Nat)) && decide (b.length ≤ (100000 : Nat))), true), (!rightV (1 : Int) (0 : Int) b.length m.length fun is => m.getD (List.headD is (0 : Nat)) (0 : Int), false), (decide (m.length ≤ m.length) && (decide (m.length ≤ (1100 : Nat)) && rightR { K := (1 : Int), N := (0 : Int), B := b, M := intsF (fun is => m.getD (List.headD is (0 : Nat)) (0 : Int)) m.length }), true), (!lineR { K := (1 : Int), N := (0 : Int), B := b, M := intsF (fun is => m.getD (List.headD is (0 : Nat)) (0 : Int)) m.length } == s, true)] ∧ (((0 : Int) = (0 : Int) ∧ (0 : Int) = (0 : Int) ∧ ([] : List UInt8) = [] ∧ (0 : Nat) = (0 : Nat)) ∧ false = false ∧ True) ∧ (0 : Nat) = (0 : Nat)) := by kernel_rfl

set_option maxHeartbeats 4000000 in
theorem dr9 (s : List UInt8) (T : List (List UInt8)) (b : List UInt8) (m : List Int) (n : Int) (i : Nat) (w : List UInt8) (op : Bool) (hr : rightR ⟨1, 0, b, m⟩ = true) (hl : lineR ⟨1, 0, b, m⟩ ≠ s) (hi : i = w.length + 1) (hml : m.length ≤ 1100) (hbl : b.length ≤ 1000) (hw3 : T.getD 3 [] = w) (h : 4 ≤ T.length) (hn : 0 ≤ n ∧ n ≤ 100000) (hm : m.length ≤ 10000) (hwl : w.length ≤ 1000)  :
    RunsTo Tryd.prog 39 (headOf Tryd.f39 5) (envAt Tryd.f39.ntmps ([(0, vS s), (2, vP 104), (4, vL 102 1 T.length), (6, vP 101), (12, vN (n)), (13, vB op), (14, vN (i : Nat))])) (Sx.look ([] ++ (bx0 ++ (bxM (b) (m) ++ (txE true 102 (T).length (T) ++ iW 103 (m)))))) 80 (dpV ev0 false) (Sx.look (iW 141 ev0.M)) 250 := by
  have e1 : rightV 1 0 b.length m.length (fun is => m.getD (is.headD 0) 0) = rightR ⟨1, 0, b, m⟩ := rightV_ev ⟨1, 0, b, m⟩
  have e2 := intsF_list m
  have hz : (lineR ⟨1, 0, b, m⟩ == s) = false := beq_eq_false_iff_ne.2 hl
  refine runs_last baseDC (Sx.Ends.of (dr9_p0 s T b m n i w op) ⟨?oo, ?rr⟩) (by kernel_rfl) rfl (gtL (by decide)) (by decide)
  case oo =>
    refine (okc ?_ (okc ?_ (okc ?_ (okc ?_ (okc ?_ (okc ?_ (okc ?_ (okc ?_ okn))))))))
    all_goals ((try simp only [hw3, e1, e2, hr, hi, hz]); first | done | rfl | omega | exact ⟨Nat.le_refl _, by omega, by omega⟩ | exact ⟨Nat.le_refl _, by omega, hr⟩ | (simp (disch := omega) only [SS, hw3, e1, e2, hr, hi, hz]; first | done | omega | exact ⟨Nat.le_refl _, by omega, by omega⟩ | exact ⟨Nat.le_refl _, by omega, hr⟩) | (simp_all; done) | (simp_all; omega))
  case rr =>
    repeat' apply And.intro
    all_goals first | exact True.intro | with_reducible rfl | rfl | (simp_all [ev0]; done) | (intro j hj; exact absurd hj (Nat.not_lt_zero _))

theorem dra_p0 (s : List UInt8) (T : List (List UInt8)) (b : List UInt8) (m : List Int) (n : Int) (i : Nat) (w : List UInt8) (op : Bool) :
    isEnd (evTill Tryd.prog sumsDC 500 (99) 900 39 (headOf Tryd.f39 5) (envAt Tryd.f39.ntmps ([(0, vS s), (2, vP 104), (4, vL 102 1 T.length), (6, vP 101), (12, vN (n)), (13, vB op), (14, vN (i : Nat))])) ([] ++ (bx0 ++ (bxM (b) (m) ++ (txE true 102 (T).length (T) ++ iW 103 (m))))) ⟨[.s true, .s true, .s true, .s false, .s true, .s false, .s true, .s false], 110⟩) (endP ([((141 : Nat), Rn.to (103 : Nat))]) (dpV ⟨1, 0, b, m⟩ true) (iW 141 m) 250) =
    (OkL [(decide ((0 : Int) ≤ (3 : Int) ∧ (3 : Int) < (↑T.length : Int)), true), (Nat.blt (3 : Nat) T.length, true), (Nat.blt (3 : Nat) T.length, true), (decide ((↑i : Int) ≤ (↑(T.getD (3 : Nat) []).length : Int)), false), (decide (m.length ≤ m.length) && (decide (m.length ≤ (100000 : Nat)) && decide (b.length ≤ (100000 : Nat))), true), (!rightV (1 : Int) (0 : Int) b.length m.length fun is => m.getD (List.headD is (0 : Nat)) (0 : Int), false), (decide (m.length ≤ m.length) && (decide (m.length ≤ (1100 : Nat)) && rightR { K := (1 : Int), N := (0 : Int), B := b, M := intsF (fun is => m.getD (List.headD is (0 : Nat)) (0 : Int)) m.length }), true), (!lineR { K := (1 : Int), N := (0 : Int), B := b, M := intsF (fun is => m.getD (List.headD is (0 : Nat)) (0 : Int)) m.length } == s, false)] ∧ (((1 : Int) = (1 : Int) ∧ (0 : Int) = (0 : Int) ∧ b = b ∧ (0 : Nat) = (0 : Nat) ∧ m.length = m.length) ∧ true = true ∧ True) ∧ m.length = m.length ∧ ∀ (i : Nat), i < m.length → m.getD i (0 : Int) = m.getD i (0 : Int)) := by kernel_rfl

set_option maxHeartbeats 4000000 in
theorem dra (s : List UInt8) (T : List (List UInt8)) (b : List UInt8) (m : List Int) (n : Int) (i : Nat) (w : List UInt8) (op : Bool) (hr : rightR ⟨1, 0, b, m⟩ = true) (hl : lineR ⟨1, 0, b, m⟩ = s) (hi : i = w.length + 1) (hml : m.length ≤ 1100) (hbl : b.length ≤ 1000) (hw3 : T.getD 3 [] = w) (h : 4 ≤ T.length) (hn : 0 ≤ n ∧ n ≤ 100000) (hm : m.length ≤ 10000) (hwl : w.length ≤ 1000)  :
    RunsTo Tryd.prog 39 (headOf Tryd.f39 5) (envAt Tryd.f39.ntmps ([(0, vS s), (2, vP 104), (4, vL 102 1 T.length), (6, vP 101), (12, vN (n)), (13, vB op), (14, vN (i : Nat))])) (Sx.look ([] ++ (bx0 ++ (bxM (b) (m) ++ (txE true 102 (T).length (T) ++ iW 103 (m)))))) 80 (dpV ⟨1, 0, b, m⟩ true) (Sx.look (iW 141 m)) 250 := by
  have e1 : rightV 1 0 b.length m.length (fun is => m.getD (is.headD 0) 0) = rightR ⟨1, 0, b, m⟩ := rightV_ev ⟨1, 0, b, m⟩
  have e2 := intsF_list m
  refine runs_last baseDC (Sx.Ends.of (dra_p0 s T b m n i w op) ⟨?oo, ?rr⟩) (by kernel_rfl) rfl (gtL (by decide)) (by decide)
  case oo =>
    refine (okc ?_ (okc ?_ (okc ?_ (okc ?_ (okc ?_ (okc ?_ (okc ?_ (okc ?_ okn))))))))
    all_goals ((try simp only [hw3, e1, e2, hr, hi, hl]); first | done | rfl | omega | exact ⟨Nat.le_refl _, by omega, by omega⟩ | exact ⟨Nat.le_refl _, by omega, hr⟩ | (simp (disch := omega) only [SS, hw3, e1, e2, hr, hi, hl]; first | done | omega | exact ⟨Nat.le_refl _, by omega, by omega⟩ | exact ⟨Nat.le_refl _, by omega, hr⟩) | (simp_all; done) | (simp_all; omega))
  case rr =>
    repeat' apply And.intro
    all_goals first | exact True.intro | with_reducible rfl | rfl | (intros; rfl)

end Go.Proofs.YtankmgnjkcgpaaaDoor

