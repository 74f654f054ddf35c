/- Words: texts, piece by piece. -/
import Derived.Test.YtaleenklamognaaDoorUaC
set_option linter.unusedSimpArgs false
set_option linter.unusedVariables false
set_option maxRecDepth 100000
namespace Go.Proofs.YtaleenklamognaaDoor
open Go.Sx

open WordR
def prX (l M : Nat) (V L : Ix → List UInt8) : List Ent := [⟨l, false, none, 2, .ta M (.tc (.vs V) (.tc (.vs L) .t0))⟩]
def okL (n : Nat) (L : Ix → List UInt8) : Bool := (List.range n).all fun i => decide ((L [i]).length ≤ 1000)

variable (L : Ix → List UInt8) (M : Nat) (P : List Pc) (V : Ix → List UInt8) (a i n : Nat) (s t0 t1 t2 : List UInt8)
abbrev wf1 := (↑(s.getD (a : Int).toNat (0 : UInt8)).toNat : Int)
abbrev wf2 := litP (pcsOf P.length (prV P) (prL P)) (u8o (wf1 a s))
abbrev wf3 := Sx.look (sentEnts 23 213 [(5, t0), (6, t1), (0, t2)] ++ (rdW 63 s (a : Nat) ++ (prE 121 (P) ++ [⟨120, true, none, 5, tkT 0 [] 0 .vl0⟩])))
abbrev wf4 := (decide (0 ≤ (a : Int) ∧ (a : Int) < (↑s.length : Int)), true)
abbrev wf5 := (((0 : Int) = (0 : Int) ∧ ([] : List UInt8) = [] ∧ (0 : Int) = (0 : Int) ∧ True ∧ (0 : Int) = (0 : Int)) ∧ 0 = 0 ∧ True) ∧ True
abbrev wf6 := [(0, vP 63), (2, vP 120), (4, vL 121 2 (P).length)]
abbrev wf7 := s = s ∧ (↑(a + (1 : Nat)) : Int) = IntKind.i64.wrap ((a : Int) + 1)
abbrev wf8 := (decide ((a : Int) ≥ (↑s.length : Int)), false)
abbrev wf9 := [(0, vL 61 2 n), (1, vF 99), (7, vN n), (8, vN (i : Nat))]
abbrev wf10 := Sx.look (prX 61 M V L ++ ([]))
abbrev wf11 := Sx.look ([])
abbrev wf12 := (true, tkT (0) ([]) (0) .vl0)
abbrev wf13 := ((0 + (i : Int).toNat).blt M, true)
abbrev wf14 := Fn.func (99 : Nat)
abbrev wf15 := (decide ((wf2 P a s).length ≤ (wf2 P a s).length) && decide ((wf2 P a s).length ≤ (100000 : Nat)), true)
set_option maxHeartbeats 4000000 in
theorem ix0 (n M : Nat) (V L : Ix → List UInt8) (hM : n ≤ M) (hn : n ≤ 100000)  (v : SV) (L' : HF) (next : (RunsTo Tryd.prog 121 (headOf Tryd.f121 0) (envAt Tryd.f121.ntmps ([(0, vL 61 2 n), (1, vF 99), (7, vN n), (8, vN (0 : Nat))])) (wf10 L M V) 80 (v) (L') 140)) :
    (RunsTo Tryd.prog 121 [.code (bodyOf Tryd.f121)] (envOf [vL 61 2 n, vF 99] Tryd.f121.ntmps) (wf10 L M V) 80 (v) (L') 140) := by
  refine rMo baseO 300 (behind Tryd.f121 0) 900 80 (hI 0 0) ([]) [] (((0 = 0 ∧ n = n) ∧ Value.func wf14 #[] #[] = Value.func wf14 #[] #[] ∧ (n : Int) = (n : Int) ∧ (↑(0 : Nat) : Int) = (0 : Int)) ∧ True) next okn ?_
  all_goals clear next; try dsimp only [wf14]
  all_goals exact sc6

set_option maxHeartbeats 4000000 in
theorem ix1 (n M : Nat) (V L : Ix → List UInt8) (i : Nat) (hi : i < n) (hM : n ≤ M) (hn : n ≤ 100000) (h : (L [i]).length ≤ 400)  (v : SV) (L' : HF) (next : (RunsTo Tryd.prog 121 (headOf Tryd.f121 0) (envAt Tryd.f121.ntmps ([(0, vL 61 2 n), (1, vF 99), (7, vN n), (8, vN (i + 1 : Nat))])) (wf10 L M V) 80 (v) (L') 140)) :
    (RunsTo Tryd.prog 121 (headOf Tryd.f121 0) (envAt Tryd.f121.ntmps (wf9 i n)) (wf10 L M V) 80 (v) (L') 140) := by
  have hw : IntKind.i64.wrap ((i : Int) + 1) = ((i + 1 : Nat) : Int) := by rw [wr64 (by omega)]; rfl
  have E' := hw
  refine rMo baseO 300 (behind Tryd.f121 0) 900 110 (hI 5 85) ([]) [(decide ((i : Int) < (n : Int)), true), (decide (0 ≤ (i : Int) ∧ (i : Int) < (n : Int)), true), (wf13 M i), (wf13 M i), (decide ((↑(L [0 + (i : Int).toNat]).length : Int) > 400), false)] (((0 = 0 ∧ n = n) ∧ Value.func wf14 #[] #[] = Value.func wf14 #[] #[] ∧ (n : Int) = (n : Int) ∧ (↑(i + (1 : Nat)) : Int) = IntKind.i64.wrap ((i : Int) + 1)) ∧ True) next (oc5 ?_ ?_ ?_ ?_ ?_ okn) ?_
  all_goals clear next; try dsimp only [wf13, wf14]
  all_goals exact sc7

set_option maxHeartbeats 4000000 in
theorem ix2 (n M : Nat) (V L : Ix → List UInt8) (i : Nat) (hi : i < n) (hM : n ≤ M) (hn : n ≤ 100000) (h : 400 < (L [i]).length)  :
    (RunsTo Tryd.prog 121 (headOf Tryd.f121 0) (envAt Tryd.f121.ntmps (wf9 i n)) (wf10 L M V) 80 (vN (i : Nat)) wf11 140) := by
  refine rEn baseO 300 (99) 900 110 (hI 5 341) ([]) [(decide ((i : Int) < (n : Int)), true), (decide (0 ≤ (i : Int) ∧ (i : Int) < (n : Int)), true), (wf13 M i), (wf13 M i), (decide ((↑(L [0 + (i : Int).toNat]).length : Int) > 400), true)] ((i : Int) = (i : Int) ∧ True) (oc5 ?_ ?_ ?_ ?_ ?_ okn) ?_
  all_goals try dsimp only [wf13]
  all_goals exact sc6

set_option maxHeartbeats 4000000 in
theorem ix3 (n M : Nat) (V L : Ix → List UInt8) (i : Nat) (hi : i = n)  :
    (RunsTo Tryd.prog 121 (headOf Tryd.f121 0) (envAt Tryd.f121.ntmps (wf9 i n)) (wf10 L M V) 80 (vN (-1)) wf11 140) := by
  refine rEn baseO 300 (99) 900 110 (hI 1 0) ([]) [(decide ((i : Int) < (n : Int)), false)] ((-1 : Int) = (-1 : Int) ∧ True) (oc1 ?_ okn) ?_
  all_goals exact sc6

theorem ixT (n M : Nat) (V L : Ix → List UInt8) (hM : n ≤ M) (hn : n ≤ 100000) : RunsTo Tryd.prog 121 [.code (bodyOf Tryd.f121)] (envOf [vL 61 2 n, vF 99] Tryd.f121.ntmps) (Sx.look (prX 61 M V L ++ ([]))) 80 (vN (ixL L n 0)) (Sx.look []) 140 := by
  refine ix0 n M V L hM hn _ _ ?_
  suffices q : ∀ (k i : Nat), i + k = n → RunsTo Tryd.prog 121 (headOf Tryd.f121 0) (envAt Tryd.f121.ntmps ([(0, vL 61 2 n), (1, vF 99), (7, vN n), (8, vN (i : Nat))])) (Sx.look (prX 61 M V L ++ ([]))) 80 (vN (ixL L k i)) (Sx.look []) 140 from q n 0 (by omega)
  intro k
  induction k with
  | zero => intro i hi; exact ix3 n M V L i (by omega)
  | succ k ih =>
    intro i hi
    rw [ixL]
    by_cases h : 400 < (L [i]).length
    · rw [if_pos h]; exact ix2 n M V L i (by omega) hM hn h
    · rw [if_neg h]; exact ix1 n M V L i (by omega) hM hn (by omega) _ _ (ih (i + 1) (by omega))
theorem ixL_neg (L : Ix → List UInt8) : ∀ k i, ixL L k i < 0 ↔ ∀ j, i ≤ j → j < i + k → (L [j]).length ≤ 400
  | 0, i => by simp [ixL]; omega
  | k + 1, i => by
    rw [ixL]
    by_cases h : 400 < (L [i]).length
    · rw [if_pos h]
      constructor
      · intro q; omega
      · intro q; have := q i (by omega) (by omega); omega
    · rw [if_neg h, ixL_neg L k (i + 1)]
      constructor
      · intro q j h1 h2
        by_cases e : j = i
        · subst e; omega
        · exact q j (by omega) (by omega)
      · intro q j h1 h2; exact q j (by omega) (by omega)
theorem fits_ix (n : Nat) (V L : Ix → List UInt8) : fitsP (pcsOf n V L) = (decide (n ≤ 40) && decide (ixL L n 0 < 0)) := by
  rw [Bool.eq_iff_iff]
  unfold fitsP
  simp only [Bool.and_eq_true, decide_eq_true_eq, pcsOf_len, ixL_neg, List.all_eq_true]
  constructor
  · rintro ⟨h1, h2⟩
    refine ⟨h1, fun j _ hj => ?_⟩
    exact h2 ⟨V [j], L [j]⟩ (by simp only [pcsOf, List.mem_map, List.mem_range]; exact ⟨j, by omega, rfl⟩)
  · rintro ⟨h1, h2⟩
    refine ⟨h1, fun p hp => ?_⟩
    simp only [pcsOf, List.mem_map, List.mem_range] at hp
    obtain ⟨j, hj, rfl⟩ := hp
    exact h2 j (by omega) (by omega)
def ixP : PC := { args := [.v (.vl 61 2 0), .v (.vq 99)], heap := [⟨61, false, 2, .ta 4 (.tc (.vs 2) (.tc (.vs 3) .t0))⟩], gs := [], G := 23, tp := 213, n := 80, n' := 140, cond := fun e => decide (eN e 0 ≤ eN e 4) && decide (eN e 0 ≤ 100000), v := fun e => vN (ixL (eS e 3) (eN e 0) 0), post := fun e => [] }
theorem ixP_pc : PC.Runs Tryd.prog 121 Tryd.f121 (bodyOf Tryd.f121) ixP := ⟨Tryd.func121, by kernel_rfl, (fun g hg => by first | (cases hg; done) | (revert g; show ∀ g ∈ ([] : List Nat), g < 23; decide)), fun e H hc => by
  have hc : (decide (eN e 0 ≤ eN e 4) && decide (eN e 0 ≤ 100000)) = true := hc
  try simp only [Bool.and_eq_true, decide_eq_true_eq, Nat.beq_eq] at hc
  exact ixT (eN e 0) (eN e 4) (eS e 2) (eS e 3) hc.1 hc.2⟩
def sumsFT : List (FuncId × Summ) := [(121, ixP.summ 46)]
theorem baseFT : Base0 Tryd.prog sumsFT := (baseO.cons Tryd.func121 (by kernel_rfl) (PC.summ_ok ixP_pc gtopG))

set_option maxHeartbeats 4000000 in
theorem ftT (n M : Nat) (V L : Ix → List UInt8) (hM : n ≤ M) (hn : n ≤ 100000)  :
    (RunsTo Tryd.prog 63 [.code (bodyOf Tryd.f63)] (envOf [vL 61 2 n] Tryd.f63.ntmps) (wf10 L M V) 80 (vB (fitsP (pcsOf n V L))) wf11 200) := by
  refine bcase (fun gg0 => (rEn baseFT 300 (99) 900 80 (hI 1 0) ([]) [(decide ((n : Int) ≤ 40), false)] (fitsP (pcsOf n V L) = false ∧ True) (oc1 gg0 okn) ?_)) fun gg0 => (rEn baseFT 300 (99) 900 80 (hI 2 5) ([]) [(decide ((n : Int) ≤ 40), true), (decide (n ≤ M) && decide (n ≤ (100000 : Nat)), true)] (fitsP (pcsOf n V L) = !decide (ixL L n (0 : Nat) ≥ 0) ∧ True) (oc2 gg0 ?_ okn) ?_)
  all_goals exact sc17

def ftP : PC := { args := [.v (.vl 61 2 0)], heap := [⟨61, false, 2, .ta 4 (.tc (.vs 2) (.tc (.vs 3) .t0))⟩], gs := [], G := 23, tp := 213, n := 80, n' := 200, cond := fun e => decide (eN e 0 ≤ eN e 4) && decide (eN e 0 ≤ 100000), v := fun e => vB (fitsP (pcsOf (eN e 0) (eS e 2) (eS e 3))), post := fun e => [] }
theorem ftP_pc : PC.Runs Tryd.prog 63 Tryd.f63 (bodyOf Tryd.f63) ftP := ⟨Tryd.func63, by kernel_rfl, (fun g hg => by first | (cases hg; done) | (revert g; show ∀ g ∈ ([] : List Nat), g < 23; decide)), fun e H hc => by
  have hc : (decide (eN e 0 ≤ eN e 4) && decide (eN e 0 ≤ 100000)) = true := hc
  try simp only [Bool.and_eq_true, decide_eq_true_eq, Nat.beq_eq] at hc
  exact ftT (eN e 0) (eN e 4) (eS e 2) (eS e 3) hc.1 hc.2⟩
def sumsTX : List (FuncId × Summ) := [(63, ftP.summ 46), (141, liP.summ 46), (140, esOkP.summ 46), (139, vrOkP.summ 46)]
theorem baseTX : Base0 Tryd.prog sumsTX := ((((baseO.cons Tryd.func139 (by kernel_rfl) (PC.summ_ok vrOkP_pc gtopG)).cons Tryd.func140 (by kernel_rfl) (PC.summ_ok esOkP_pc gtopG)).cons Tryd.func141 (by kernel_rfl) (PC.summ_ok liP_pc gtopG)).cons Tryd.func63 (by kernel_rfl) (PC.summ_ok ftP_pc gtopG))
def sumsTXs : List (FuncId × Summ) := [(63, ftP.summ 46), (141, liP.summ 46), (140, esShP.summ 46), (139, vrShP.summ 46)]
theorem baseTXs : Base0 Tryd.prog sumsTXs := ((((baseO.cons Tryd.func139 (by kernel_rfl) (PC.summ_ok vrShP_pc gtopG)).cons Tryd.func140 (by kernel_rfl) (PC.summ_ok esShP_pc gtopG)).cons Tryd.func141 (by kernel_rfl) (PC.summ_ok liP_pc gtopG)).cons Tryd.func63 (by kernel_rfl) (PC.summ_ok ftP_pc gtopG))
def sumsTXf : List (FuncId × Summ) := [(63, ftP.summ 46), (141, liP.summ 46), (140, esFoP.summ 46), (139, vrFoP.summ 46)]
theorem baseTXf : Base0 Tryd.prog sumsTXf := ((((baseO.cons Tryd.func139 (by kernel_rfl) (PC.summ_ok vrFoP_pc gtopG)).cons Tryd.func140 (by kernel_rfl) (PC.summ_ok esFoP_pc gtopG)).cons Tryd.func141 (by kernel_rfl) (PC.summ_ok liP_pc gtopG)).cons Tryd.func63 (by kernel_rfl) (PC.summ_ok ftP_pc gtopG))
def sumsTXl : List (FuncId × Summ) := [(63, ftP.summ 46), (141, liP.summ 46), (140, esOkP.summ 46), (139, vrLoP.summ 46)]
theorem baseTXl : Base0 Tryd.prog sumsTXl := ((((baseO.cons Tryd.func139 (by kernel_rfl) (PC.summ_ok vrLoP_pc gtopG)).cons Tryd.func140 (by kernel_rfl) (PC.summ_ok esOkP_pc gtopG)).cons Tryd.func141 (by kernel_rfl) (PC.summ_ok liP_pc gtopG)).cons Tryd.func63 (by kernel_rfl) (PC.summ_ok ftP_pc gtopG))

set_option maxHeartbeats 4000000 in
theorem tx0 (t0 t1 t2 : List UInt8) (s : List UInt8) (a : Nat) (ha : a < s.length) (hs : s.length ≤ 10000)  (v : SV) (L' : HF) (next : (RunsTo Tryd.prog 93 (headL Tryd.f93 0) (envAt Tryd.f93.ntmps ([(0, vP 63), (2, vP 120), (4, vL 121 2 (([] : List Pc)).length)])) (Sx.look (sentEnts 23 213 [(5, t0), (6, t1), (0, t2)] ++ (rdW 63 s (a + 1 : Nat) ++ (prE 121 (([] : List Pc)) ++ [⟨120, true, none, 5, tkT 0 [] 0 .vl0⟩])))) 80 (v) (L') 3000)) :
    (RunsTo Tryd.prog 93 [.code (bodyOf Tryd.f93)] (envOf [vP 63] Tryd.f93.ntmps) (Sx.look (sentEnts 23 213 [(5, t0), (6, t1), (0, t2)] ++ (rdW 63 s (a : Nat)))) 80 (v) (L') 3000) := by
  have hw1 : IntKind.i64.wrap ((a : Int) + 1) = ((a + 1 : Nat) : Int) := by rw [wr64 (by omega)]; rfl
  have E' := hw1
  refine rMo baseTX 400 (behindL Tryd.f93 0) 900 80 (hI 0 0) ([((120 : Nat), Rn.to (80 : Nat)), ((121 : Nat), Rn.nil (2 : Nat))]) [] ((0 = 0 ∧ 0 = 0 ∧ 0 = 0) ∧ (wf7 a s) ∧ 0 = 0 ∧ (0 : Int) = (0 : Int) ∧ ([] : List UInt8) = [] ∧ (0 : Int) = (0 : Int) ∧ True ∧ (0 : Int) = (0 : Int)) next okn ?_
  all_goals clear next; try dsimp only [wf7]
  all_goals exact sc7

set_option maxHeartbeats 4000000 in
theorem txQ (t0 t1 t2 : List UInt8) (s : List UInt8) (a : Nat) (P Q : List Pc) (n : Nat) (ha : a < s.length) (hs : s.length ≤ 10000) (hP : P.length ≤ 40) (hA : ((List.range P.length).all fun i => decide ((prL P [i]).length ≤ 1000)) = true) (hQl : Q.length ≤ 41) (h : (s.getD a 0).toNat = 34)  :
    (RunsTo Tryd.prog 93 (headL Tryd.f93 0) (envAt Tryd.f93.ntmps (wf6 P)) (wf3 P a s t0 t1 t2) 80 (.tup [(true, tkT (3) ([]) (0) (.vl 141 (fun _ => 0) 2 [] (fun _ => P.length))), (false, .ve0)]) (Sx.look (rdW 63 s (a + 1 : Nat) ++ prE 141 P)) 3000) := by
  have hw1 : IntKind.i64.wrap ((a : Int) + 1) = ((a + 1 : Nat) : Int) := by rw [wr64 (by omega)]; rfl
  have hb0 := u8nat (s.getD a 0)
  have hu0 : u8o ((s.getD a 0).toNat : Int) = s.getD a 0 := by show UInt8.ofNat (((s.getD a 0).toNat : Int)).toNat = _; rw [Int.toNat_natCast]; exact u8nat' _
  have hpp := pcsOf_pr P
  have E' := (⟨hw1, hu0, hpp⟩ : _ ∧ _ ∧ _)
  refine rEn baseTX 400 (99) 900 160 (hI 3 20) ([((141 : Nat), Rn.to (121 : Nat))]) [(wf8 a s), (wf4 a s), ((wf1 a s) == 34, true)] ((((3 : Int) = (3 : Int) ∧ ([] : List UInt8) = [] ∧ (0 : Int) = (0 : Int) ∧ (0 = 0 ∧ P.length = P.length) ∧ (0 : Int) = (0 : Int)) ∧ True ∧ True) ∧ (wf7 a s) ∧ P.length = P.length ∧ (∀ (i : Nat), i < P.length → prV P [i] = prV P [i]) ∧ ∀ (i : Nat), i < P.length → prL P [i] = prL P [i]) (oc3 ?_ ?_ ?_ okn) ?_
  all_goals try dsimp only [wf8, wf4, wf1, wf7]
  all_goals exact sc18

set_option maxHeartbeats 4000000 in
theorem txE (t0 t1 t2 : List UInt8) (s : List UInt8) (a : Nat) (P Q : List Pc) (n : Nat) (ha : a = s.length) (hs : s.length ≤ 10000)  :
    (RunsTo Tryd.prog 93 (headL Tryd.f93 0) (envAt Tryd.f93.ntmps (wf6 P)) (wf3 P a s t0 t1 t2) 80 (.tup [wf12, (false, vErr 5)]) wf11 3000) := by
  have hw1 : IntKind.i64.wrap ((a : Int) + 1) = ((a + 1 : Nat) : Int) := by rw [wr64 (by omega)]; rfl
  have hb0 := u8nat (s.getD a 0)
  have hu0 : u8o ((s.getD a 0).toNat : Int) = s.getD a 0 := by show UInt8.ofNat (((s.getD a 0).toNat : Int)).toNat = _; rw [Int.toNat_natCast]; exact u8nat' _
  have hpp := pcsOf_pr P
  have E' := (⟨hw1, hu0, hpp⟩ : _ ∧ _ ∧ _)
  refine rEn baseTX 400 (99) 900 160 (hI 1 1) ([]) [(decide ((a : Int) ≥ (↑s.length : Int)), true)] wf5 (oc1 ?_ okn) ?_
  all_goals try dsimp only [wf5]
  all_goals exact sc18

set_option maxHeartbeats 4000000 in
theorem txN (t0 t1 t2 : List UInt8) (s : List UInt8) (a : Nat) (P Q : List Pc) (n : Nat) (ha : a < s.length) (hs : s.length ≤ 10000) (hP : P.length ≤ 40) (hA : ((List.range P.length).all fun i => decide ((prL P [i]).length ≤ 1000)) = true) (hQl : Q.length ≤ 41) (h : (s.getD a 0).toNat = 10)  :
    (RunsTo Tryd.prog 93 (headL Tryd.f93 0) (envAt Tryd.f93.ntmps (wf6 P)) (wf3 P a s t0 t1 t2) 80 (.tup [wf12, (false, vErr 6)]) wf11 3000) := by
  have hw1 : IntKind.i64.wrap ((a : Int) + 1) = ((a + 1 : Nat) : Int) := by rw [wr64 (by omega)]; rfl
  have hb0 := u8nat (s.getD a 0)
  have hu0 : u8o ((s.getD a 0).toNat : Int) = s.getD a 0 := by show UInt8.ofNat (((s.getD a 0).toNat : Int)).toNat = _; rw [Int.toNat_natCast]; exact u8nat' _
  have hpp := pcsOf_pr P
  have E' := (⟨hw1, hu0, hpp⟩ : _ ∧ _ ∧ _)
  refine rEn baseTX 400 (99) 900 160 (hI 7 13380) ([]) [(wf8 a s), (wf4 a s), ((wf1 a s) == 34, false), (wf4 a s), ((wf1 a s) == 36, false), ((wf1 a s) == 10, true)] wf5 (oc6 ?_ ?_ ?_ ?_ ?_ ?_ okn) ?_
  all_goals try dsimp only [wf8, wf4, wf1, wf5]
  all_goals exact sc18

set_option maxHeartbeats 4000000 in
theorem txB (t0 t1 t2 : List UInt8) (s : List UInt8) (a : Nat) (P Q : List Pc) (n : Nat) (ha : a < s.length) (hs : s.length ≤ 10000) (hP : P.length ≤ 40) (hA : ((List.range P.length).all fun i => decide ((prL P [i]).length ≤ 1000)) = true) (hQl : Q.length ≤ 41) (h1 : (s.getD a 0).toNat ≠ 34) (h2 : (s.getD a 0).toNat ≠ 36) (h3 : (s.getD a 0).toNat ≠ 10) (h4 : (s.getD a 0).toNat ≠ 92) (hQ : litP P (s.getD a 0) = Q) (hf : fitsP Q = true)  (v : SV) (L' : HF) (next : (RunsTo Tryd.prog 93 (headL Tryd.f93 0) (envAt Tryd.f93.ntmps ([(0, vP 63), (2, vP 120), (4, vL 121 2 (Q).length)])) (Sx.look (sentEnts 23 213 [(5, t0), (6, t1), (0, t2)] ++ (rdW 63 s (a + 1 : Nat) ++ (prE 121 (Q) ++ [⟨120, true, none, 5, tkT 0 [] 0 .vl0⟩])))) 80 (v) (L') 3000)) :
    (RunsTo Tryd.prog 93 (headL Tryd.f93 0) (envAt Tryd.f93.ntmps (wf6 P)) (wf3 P a s t0 t1 t2) 80 (v) (L') 3000) := by
  have hw1 : IntKind.i64.wrap ((a : Int) + 1) = ((a + 1 : Nat) : Int) := by rw [wr64 (by omega)]; rfl
  have hb0 := u8nat (s.getD a 0)
  have hu0 : u8o ((s.getD a 0).toNat : Int) = s.getD a 0 := by show UInt8.ofNat (((s.getD a 0).toNat : Int)).toNat = _; rw [Int.toNat_natCast]; exact u8nat' _
  have hpp := pcsOf_pr P
  have hqq := pcsOf_pr Q
  have E' := (⟨hw1, hu0, hpp, hQ, hf, hqq⟩ : _ ∧ _ ∧ _ ∧ _ ∧ _ ∧ _)
  refine rMo baseTX 400 (behindL Tryd.f93 0) 900 160 (hI 11 409668) ([((121 : Nat), Rn.to (221 : Nat))]) [(wf8 a s), (wf4 a s), ((wf1 a s) == 34, false), (wf4 a s), ((wf1 a s) == 36, false), ((wf1 a s) == 10, false), ((wf1 a s) == 92, false), (decide (0 ≤ (wf1 a s) ∧ (wf1 a s) < 256) && (decide (P.length = P.length) && (decide (P.length ≤ (1000 : Nat)) && (List.range P.length).all fun i => decide ((prL P [i]).length ≤ (1000 : Nat)))), true), (wf15 P a s), (!fitsP (pcsOf (wf2 P a s).length (prV (wf2 P a s)) (prL (wf2 P a s))), false)] ((0 = 0 ∧ 0 = 0 ∧ 0 = 0 ∧ Q.length = (wf2 P a s).length) ∧ (wf7 a s) ∧ (Q.length = (wf2 P a s).length ∧ (∀ (i : Nat), i < Q.length → prV Q [i] = prV (wf2 P a s) [i]) ∧ ∀ (i : Nat), i < Q.length → prL Q [i] = prL (wf2 P a s) [i]) ∧ (0 : Int) = (0 : Int) ∧ ([] : List UInt8) = [] ∧ (0 : Int) = (0 : Int) ∧ True ∧ (0 : Int) = (0 : Int)) next (oc1 ?_ (oc9 ?_ ?_ ?_ ?_ ?_ ?_ ?_ ?_ ?_ okn)) ?_
  all_goals clear next; try dsimp only [wf8, wf4, wf1, wf15, wf2, wf7]
  all_goals exact sc19

set_option maxHeartbeats 4000000 in
theorem txBL (t0 t1 t2 : List UInt8) (s : List UInt8) (a : Nat) (P Q : List Pc) (n : Nat) (ha : a < s.length) (hs : s.length ≤ 10000) (hP : P.length ≤ 40) (hA : ((List.range P.length).all fun i => decide ((prL P [i]).length ≤ 1000)) = true) (hQl : Q.length ≤ 41) (h1 : (s.getD a 0).toNat ≠ 34) (h2 : (s.getD a 0).toNat ≠ 36) (h3 : (s.getD a 0).toNat ≠ 10) (h4 : (s.getD a 0).toNat ≠ 92) (hQ : litP P (s.getD a 0) = Q) (hf : fitsP Q = false)  :
    (RunsTo Tryd.prog 93 (headL Tryd.f93 0) (envAt Tryd.f93.ntmps (wf6 P)) (wf3 P a s t0 t1 t2) 80 (.tup [wf12, (false, vErr 0)]) wf11 3000) := by
  have hw1 : IntKind.i64.wrap ((a : Int) + 1) = ((a + 1 : Nat) : Int) := by rw [wr64 (by omega)]; rfl
  have hb0 := u8nat (s.getD a 0)
  have hu0 : u8o ((s.getD a 0).toNat : Int) = s.getD a 0 := by show UInt8.ofNat (((s.getD a 0).toNat : Int)).toNat = _; rw [Int.toNat_natCast]; exact u8nat' _
  have hpp := pcsOf_pr P
  have hqq := pcsOf_pr Q
  have E' := (⟨hw1, hu0, hpp, hQ, hf, hqq⟩ : _ ∧ _ ∧ _ ∧ _ ∧ _ ∧ _)
  refine rEn baseTX 400 (99) 900 160 (hI 11 1458244) ([]) [(wf8 a s), (wf4 a s), ((wf1 a s) == 34, false), (wf4 a s), ((wf1 a s) == 36, false), ((wf1 a s) == 10, false), ((wf1 a s) == 92, false), (decide (0 ≤ (wf1 a s) ∧ (wf1 a s) < 256) && (decide (P.length = P.length) && (decide (P.length ≤ (1000 : Nat)) && (List.range P.length).all fun i => decide ((prL P [i]).length ≤ (1000 : Nat)))), true), (wf15 P a s), (!fitsP (pcsOf (wf2 P a s).length (prV (wf2 P a s)) (prL (wf2 P a s))), true)] wf5 (oc1 ?_ (oc9 ?_ ?_ ?_ ?_ ?_ ?_ ?_ ?_ ?_ okn)) ?_
  all_goals try dsimp only [wf8, wf4, wf1, wf15, wf2, wf5]
  all_goals exact sc18

end Go.Proofs.YtaleenklamognaaDoor

set_option linter.unusedSimpArgs false
set_option linter.unusedVariables false
set_option maxRecDepth 100000
namespace Go.Proofs.YtaleenklamognaaDoor
open Go.Sx

open WordR
theorem pcs_app (P : List Pc) (x : List UInt8) : pcsOf (P.length + 1) (appF P.length 0 (prV P) fun js => x) (appF P.length 0 (prL P) fun js => []) = P ++ [⟨x, []⟩] := by
  have hap := pr_app P P.length (prV P) (prL P) (fun js => x) (fun js => []) (pcsOf_pr P).symm ⟨x, []⟩ rfl rfl
  have e := pcsOf_pr (P ++ [⟨x, []⟩])
  rw [List.length_append, List.length_cons, List.length_nil] at e
  rw [← e]
  apply List.map_congr_left
  intro k hk
  have := hap k (by simpa using hk)
  rw [this.1, this.2]

variable (P : List Pc) (a : Nat) (s t0 t1 t2 : List UInt8)
abbrev wg10 := IntKind.i64.wrap ((a : Int) + 1)
abbrev wg6 := List.drop (wg10 a).toNat s
abbrev wg17 := (↑(byC (escR (wg6 a s))).toNat : Int)
abbrev wg1 := litP (pcsOf P.length (prV P) (prL P)) (u8o (wg17 a s))
abbrev wg2 := (↑(s.getD (a : Int).toNat (0 : UInt8)).toNat : Int)
abbrev wg3 := (decide (0 ≤ (a : Int) ∧ (a : Int) < (↑s.length : Int)), true)
abbrev wg4 := (((0 : Int) = (0 : Int) ∧ ([] : List UInt8) = [] ∧ (0 : Int) = (0 : Int) ∧ True ∧ (0 : Int) = (0 : Int)) ∧ 0 = 0 ∧ True) ∧ True
abbrev wg5 := Sx.look (sentEnts 23 213 [(5, t0), (6, t1), (0, t2)] ++ (rdW 63 s (a : Nat) ++ (prE 121 (P) ++ [⟨120, true, none, 5, tkT 0 [] 0 .vl0⟩])))
abbrev wg7 := (decide (((2 : Nat) * (P.length + (1 : Nat)) + (192 : Nat)) * (32 : Nat) ≤ (281474976710656 : Nat)), true)
abbrev wg8 := (decide ((a : Int) ≥ (↑s.length : Int)), false)
abbrev wg11 := [(0, vP 63), (2, vP 120), (4, vL 121 2 (P).length)]
abbrev wg12 := (true, tkT (0) ([]) (0) .vl0)
abbrev wg9 := RunsTo Tryd.prog 93 (headL Tryd.f93 0) (envAt Tryd.f93.ntmps (wg11 P)) (wg5 P a s t0 t1 t2) 80 (.tup [wg12, (false, vErr 0)]) (Sx.look ([])) 3000
abbrev wg13 := (decide (0 ≤ IntKind.i64.wrap ((a : Int) + 1)) && (decide ((wg10 a).toNat ≤ s.length) && (decide (s.length ≤ (100000 : Nat)) && isVa (varR (wg6 a s)))), true)
abbrev wg14 := (decide (0 ≤ IntKind.i64.wrap ((a : Int) + 1)) && (decide ((wg10 a).toNat ≤ s.length) && (decide (s.length ≤ (100000 : Nat)) && isBy (escR (wg6 a s)))), true)
abbrev wg15 := ((0 + P.length).ble P.length, true)
abbrev wg16 := (decide (P.length + (1 : Nat) ≤ P.length + (1 : Nat)) && decide (P.length + (1 : Nat) ≤ (100000 : Nat)), true)
abbrev wg18 := pcsOf (P.length + (1 : Nat)) (appF P.length (0 : Nat) (prV P) fun js => vaX (varR (wg6 a s))) (appF P.length (0 : Nat) (prL P) fun js => [])
abbrev wg19 := ((wg2 a s) == 34, false)
abbrev wg20 := (decide ((wg1 P a s).length ≤ (wg1 P a s).length) && decide ((wg1 P a s).length ≤ (100000 : Nat)), true)
set_option maxHeartbeats 4000000 in
theorem txV (t0 t1 t2 : List UInt8) (s : List UInt8) (a : Nat) (P Q : List Pc) (n : Nat) (x : List UInt8) (c : UInt8) (ha : a < s.length) (hs : s.length ≤ 10000) (hP : P.length ≤ 40) (hA : ((List.range P.length).all fun i => decide ((prL P [i]).length ≤ 1000)) = true) (hQl : Q.length ≤ 41) (h : (s.getD a 0).toNat = 36) (v1 : isVa (varR (s.drop (a + 1))) = true) (v2 : vaX (varR (s.drop (a + 1))) = x) (v3 : o1N (varR (s.drop (a + 1))) = n) (hn : n ≤ 100) (hQ : P ++ [⟨x, []⟩] = Q) (hpa : pcsOf (P.length + 1) (appF P.length 0 (prV P) fun js => x) (appF P.length 0 (prL P) fun js => []) = Q) (hf : fitsP Q = true)  (v : SV) (L' : HF) (next : RunsTo Tryd.prog 93 (headL Tryd.f93 0) (envAt Tryd.f93.ntmps ([(0, vP 63), (2, vP 120), (4, vL 121 2 (Q).length)])) (Sx.look (sentEnts 23 213 [(5, t0), (6, t1), (0, t2)] ++ (rdW 63 s (a + 1 + (n - 1) : Nat) ++ (prE 121 (Q) ++ [⟨120, true, none, 5, tkT 0 [] 0 .vl0⟩])))) 80 (v) (L') 3000) :
    RunsTo Tryd.prog 93 (headL Tryd.f93 0) (envAt Tryd.f93.ntmps ([(0, vP 63), (2, vP 120), (4, vL 121 2 (P).length)])) (Sx.look (sentEnts 23 213 [(5, t0), (6, t1), (0, t2)] ++ (rdW 63 s (a : Nat) ++ (prE 121 (P) ++ [⟨120, true, none, 5, tkT 0 [] 0 .vl0⟩])))) 80 (v) (L') 3000 := by
  have hw1 : IntKind.i64.wrap ((a : Int) + 1) = ((a + 1 : Nat) : Int) := by rw [wr64 (by omega)]; rfl
  have hb0 := u8nat (s.getD a 0)
  have hu0 : u8o ((s.getD a 0).toNat : Int) = s.getD a 0 := by show UInt8.ofNat (((s.getD a 0).toNat : Int)).toNat = _; rw [Int.toNat_natCast]; exact u8nat' _
  have hpp := pcsOf_pr P
  have hap := pr_app P P.length (prV P) (prL P) (fun js => x) (fun js => []) (pcsOf_pr P).symm ⟨x, []⟩ rfl rfl
  rw [hQ] at hap
  have hlq : Q.length = P.length + 1 := by rw [← hQ]; simp
  have E' := (⟨hw1, hu0, hpp, v1, v2, v3, hpa, hlq, hf⟩ : _ ∧ _ ∧ _ ∧ _ ∧ _ ∧ _ ∧ _ ∧ _ ∧ _)
  refine rMo baseTX 400 (behindL Tryd.f93 0) 900 160 (hI 12 1668420) ([((121 : Nat), Rn.to (782 : Nat))]) [(wg8 a s), (wg3 a s), (wg19 a s), (wg3 a s), ((wg2 a s) == 36, true), (wg13 a s), (wg15 P), (wg7 P), (wg16 P), (!fitsP (wg18 P a s), false)] ((0 = 0 ∧ 0 = 0 ∧ 0 = 0 ∧ Q.length = P.length + (1 : Nat)) ∧ (s = s ∧ (↑(a + 1 + (n - (1 : Nat))) : Int) = (↑((wg10 a).toNat + (o1N (varR (wg6 a s)) - (1 : Nat))) : Int)) ∧ (Q.length = P.length + (1 : Nat) ∧ (∀ (i : Nat), i < Q.length → prV Q [i] = appF P.length (0 : Nat) (prV P) (fun js => vaX (varR (wg6 a s))) [i]) ∧ ∀ (i : Nat), i < Q.length → prL Q [i] = appF P.length (0 : Nat) (prL P) (fun js => []) [i]) ∧ (0 : Int) = (0 : Int) ∧ ([] : List UInt8) = [] ∧ (0 : Int) = (0 : Int) ∧ True ∧ (0 : Int) = (0 : Int)) next (oc1 ?_ (oc9 ?_ ?_ ?_ ?_ ?_ ?_ ?_ ?_ ?_ okn)) ?_
  all_goals clear next; try dsimp only [wg8, wg3, wg19, wg2, wg13, wg10, wg6, wg15, wg7, wg16, wg18]
  all_goals exact sc20

set_option maxHeartbeats 4000000 in
theorem txVL (t0 t1 t2 : List UInt8) (s : List UInt8) (a : Nat) (P Q : List Pc) (n : Nat) (x : List UInt8) (c : UInt8) (ha : a < s.length) (hs : s.length ≤ 10000) (hP : P.length ≤ 40) (hA : ((List.range P.length).all fun i => decide ((prL P [i]).length ≤ 1000)) = true) (hQl : Q.length ≤ 41) (h : (s.getD a 0).toNat = 36) (v1 : isVa (varR (s.drop (a + 1))) = true) (v2 : vaX (varR (s.drop (a + 1))) = x) (v3 : o1N (varR (s.drop (a + 1))) = n) (hn : n ≤ 100) (hQ : P ++ [⟨x, []⟩] = Q) (hpa : pcsOf (P.length + 1) (appF P.length 0 (prV P) fun js => x) (appF P.length 0 (prL P) fun js => []) = Q) (hf : fitsP Q = false)  :
    (wg9 P a s t0 t1 t2) := by
  have hw1 : IntKind.i64.wrap ((a : Int) + 1) = ((a + 1 : Nat) : Int) := by rw [wr64 (by omega)]; rfl
  have hb0 := u8nat (s.getD a 0)
  have hu0 : u8o ((s.getD a 0).toNat : Int) = s.getD a 0 := by show UInt8.ofNat (((s.getD a 0).toNat : Int)).toNat = _; rw [Int.toNat_natCast]; exact u8nat' _
  have hpp := pcsOf_pr P
  have hap := pr_app P P.length (prV P) (prL P) (fun js => x) (fun js => []) (pcsOf_pr P).symm ⟨x, []⟩ rfl rfl
  rw [hQ] at hap
  have hlq : Q.length = P.length + 1 := by rw [← hQ]; simp
  have E' := (⟨hw1, hu0, hpp, v1, v2, v3, hpa, hlq, hf⟩ : _ ∧ _ ∧ _ ∧ _ ∧ _ ∧ _ ∧ _ ∧ _ ∧ _)
  refine rEn baseTX 400 (99) 900 160 (hI 12 5862724) ([]) [(wg8 a s), (wg3 a s), (wg19 a s), (wg3 a s), ((wg2 a s) == 36, true), (wg13 a s), (wg15 P), (wg7 P), (wg16 P), (!fitsP (wg18 P a s), true)] wg4 (oc1 ?_ (oc9 ?_ ?_ ?_ ?_ ?_ ?_ ?_ ?_ ?_ okn)) ?_
  all_goals try dsimp only [wg8, wg3, wg19, wg2, wg13, wg10, wg6, wg15, wg7, wg16, wg18, wg4]
  all_goals exact sc18

set_option maxHeartbeats 4000000 in
theorem txS (t0 t1 t2 : List UInt8) (s : List UInt8) (a : Nat) (P Q : List Pc) (n : Nat) (x : List UInt8) (c : UInt8) (ha : a < s.length) (hs : s.length ≤ 10000) (hP : P.length ≤ 40) (hA : ((List.range P.length).all fun i => decide ((prL P [i]).length ≤ 1000)) = true) (hQl : Q.length ≤ 41) (h : (s.getD a 0).toNat = 92) (v1 : isBy (escR (s.drop (a + 1))) = true) (v2 : byC (escR (s.drop (a + 1))) = c) (v3 : o1N (escR (s.drop (a + 1))) = n) (hn : n ≤ 100) (hQ : litP P c = Q) (hf : fitsP Q = true)  (v : SV) (L' : HF) (next : RunsTo Tryd.prog 93 (headL Tryd.f93 0) (envAt Tryd.f93.ntmps ([(0, vP 63), (2, vP 120), (4, vL 121 2 (Q).length)])) (Sx.look (sentEnts 23 213 [(5, t0), (6, t1), (0, t2)] ++ (rdW 63 s (a + 1 + (n - 1) : Nat) ++ (prE 121 (Q) ++ [⟨120, true, none, 5, tkT 0 [] 0 .vl0⟩])))) 80 (v) (L') 3000) :
    RunsTo Tryd.prog 93 (headL Tryd.f93 0) (envAt Tryd.f93.ntmps ([(0, vP 63), (2, vP 120), (4, vL 121 2 (P).length)])) (Sx.look (sentEnts 23 213 [(5, t0), (6, t1), (0, t2)] ++ (rdW 63 s (a : Nat) ++ (prE 121 (P) ++ [⟨120, true, none, 5, tkT 0 [] 0 .vl0⟩])))) 80 (v) (L') 3000 := by
  have hw1 : IntKind.i64.wrap ((a : Int) + 1) = ((a + 1 : Nat) : Int) := by rw [wr64 (by omega)]; rfl
  have hb0 := u8nat (s.getD a 0)
  have hu0 : u8o ((s.getD a 0).toNat : Int) = s.getD a 0 := by show UInt8.ofNat (((s.getD a 0).toNat : Int)).toNat = _; rw [Int.toNat_natCast]; exact u8nat' _
  have hpp := pcsOf_pr P
  have huc : u8o (c.toNat : Int) = c := by show UInt8.ofNat ((c.toNat : Int)).toNat = _; rw [Int.toNat_natCast]; exact u8nat' _
  have hqq := pcsOf_pr Q
  have hbc := u8nat c
  have E' := (⟨hw1, hu0, hpp, v1, v2, v3, huc, hQ, hqq, hf⟩ : _ ∧ _ ∧ _ ∧ _ ∧ _ ∧ _ ∧ _ ∧ _ ∧ _ ∧ _)
  refine rMo baseTX 400 (behindL Tryd.f93 0) 900 160 (hI 12 1658948) ([((121 : Nat), Rn.to (441 : Nat))]) [(wg8 a s), (wg3 a s), (wg19 a s), (wg3 a s), ((wg2 a s) == 36, false), ((wg2 a s) == 10, false), ((wg2 a s) == 92, true), (wg14 a s), (decide (0 ≤ (wg17 a s) ∧ (wg17 a s) < 256) && (decide (P.length = P.length) && (decide (P.length ≤ (1000 : Nat)) && (List.range P.length).all fun i => decide ((prL P [i]).length ≤ (1000 : Nat)))), true), (wg20 P a s), (!fitsP (pcsOf (wg1 P a s).length (prV (wg1 P a s)) (prL (wg1 P a s))), false)] ((0 = 0 ∧ 0 = 0 ∧ 0 = 0 ∧ Q.length = (wg1 P a s).length) ∧ (s = s ∧ (↑(a + 1 + (n - (1 : Nat))) : Int) = (↑((wg10 a).toNat + (o1N (escR (wg6 a s)) - (1 : Nat))) : Int)) ∧ (Q.length = (wg1 P a s).length ∧ (∀ (i : Nat), i < Q.length → prV Q [i] = prV (wg1 P a s) [i]) ∧ ∀ (i : Nat), i < Q.length → prL Q [i] = prL (wg1 P a s) [i]) ∧ (0 : Int) = (0 : Int) ∧ ([] : List UInt8) = [] ∧ (0 : Int) = (0 : Int) ∧ True ∧ (0 : Int) = (0 : Int)) next (oc2 ?_ ?_ (oc9 ?_ ?_ ?_ ?_ ?_ ?_ ?_ ?_ ?_ okn)) ?_
  all_goals clear next; try dsimp only [wg8, wg3, wg19, wg2, wg14, wg10, wg6, wg17, wg20, wg1]
  all_goals exact sc21

set_option maxHeartbeats 4000000 in
theorem txSL (t0 t1 t2 : List UInt8) (s : List UInt8) (a : Nat) (P Q : List Pc) (n : Nat) (x : List UInt8) (c : UInt8) (ha : a < s.length) (hs : s.length ≤ 10000) (hP : P.length ≤ 40) (hA : ((List.range P.length).all fun i => decide ((prL P [i]).length ≤ 1000)) = true) (hQl : Q.length ≤ 41) (h : (s.getD a 0).toNat = 92) (v1 : isBy (escR (s.drop (a + 1))) = true) (v2 : byC (escR (s.drop (a + 1))) = c) (v3 : o1N (escR (s.drop (a + 1))) = n) (hn : n ≤ 100) (hQ : litP P c = Q) (hf : fitsP Q = false)  :
    (wg9 P a s t0 t1 t2) := by
  have hw1 : IntKind.i64.wrap ((a : Int) + 1) = ((a + 1 : Nat) : Int) := by rw [wr64 (by omega)]; rfl
  have hb0 := u8nat (s.getD a 0)
  have hu0 : u8o ((s.getD a 0).toNat : Int) = s.getD a 0 := by show UInt8.ofNat (((s.getD a 0).toNat : Int)).toNat = _; rw [Int.toNat_natCast]; exact u8nat' _
  have hpp := pcsOf_pr P
  have huc : u8o (c.toNat : Int) = c := by show UInt8.ofNat ((c.toNat : Int)).toNat = _; rw [Int.toNat_natCast]; exact u8nat' _
  have hqq := pcsOf_pr Q
  have hbc := u8nat c
  have E' := (⟨hw1, hu0, hpp, v1, v2, v3, huc, hQ, hqq, hf⟩ : _ ∧ _ ∧ _ ∧ _ ∧ _ ∧ _ ∧ _ ∧ _ ∧ _ ∧ _)
  refine rEn baseTX 400 (99) 900 160 (hI 12 5853252) ([]) [(wg8 a s), (wg3 a s), (wg19 a s), (wg3 a s), ((wg2 a s) == 36, false), ((wg2 a s) == 10, false), ((wg2 a s) == 92, true), (wg14 a s), (decide (0 ≤ (wg17 a s) ∧ (wg17 a s) < 256) && (decide (P.length = P.length) && (decide (P.length ≤ (1000 : Nat)) && (List.range P.length).all fun i => decide ((prL P [i]).length ≤ (1000 : Nat)))), true), (wg20 P a s), (!fitsP (pcsOf (wg1 P a s).length (prV (wg1 P a s)) (prL (wg1 P a s))), true)] wg4 (oc2 ?_ ?_ (oc9 ?_ ?_ ?_ ?_ ?_ ?_ ?_ ?_ ?_ okn)) ?_
  all_goals try dsimp only [wg8, wg3, wg19, wg2, wg14, wg10, wg6, wg17, wg20, wg1, wg4]
  all_goals exact sc18

set_option maxHeartbeats 4000000 in
theorem txVs (t0 t1 t2 : List UInt8) (s : List UInt8) (a : Nat) (P Q : List Pc) (n : Nat) (x : List UInt8) (c : UInt8) (ha : a < s.length) (hs : s.length ≤ 10000) (hP : P.length ≤ 40) (hA : ((List.range P.length).all fun i => decide ((prL P [i]).length ≤ 1000)) = true) (hQl : Q.length ≤ 41) (h : (s.getD a 0).toNat = 36) (v1 : isEr 3 (varR (s.drop (a + 1))) = true)  :
    (RunsTo Tryd.prog 93 (headL Tryd.f93 0) (envAt Tryd.f93.ntmps (wg11 P)) (wg5 P a s t0 t1 t2) 80 (.tup [wg12, (false, vErr 5)]) (Sx.look ([])) 3000) := by
  have hw1 : IntKind.i64.wrap ((a : Int) + 1) = ((a + 1 : Nat) : Int) := by rw [wr64 (by omega)]; rfl
  have hb0 := u8nat (s.getD a 0)
  have hu0 : u8o ((s.getD a 0).toNat : Int) = s.getD a 0 := by show UInt8.ofNat (((s.getD a 0).toNat : Int)).toNat = _; rw [Int.toNat_natCast]; exact u8nat' _
  have hpp := pcsOf_pr P
  have E' := (⟨hw1, hu0, hpp, v1⟩ : _ ∧ _ ∧ _ ∧ _)
  refine rEn baseTXs 400 (99) 900 160 (hI 10 881988) ([]) [(wg8 a s), (wg3 a s), (wg19 a s), (wg3 a s), ((wg2 a s) == 36, true), (decide (0 ≤ IntKind.i64.wrap ((a : Int) + 1)) && (decide ((wg10 a).toNat ≤ s.length) && (decide (s.length ≤ (100000 : Nat)) && isEr (3 : Nat) (varR (wg6 a s)))), true), (wg15 P), (wg7 P)] wg4 (oc8 ?_ ?_ ?_ ?_ ?_ ?_ ?_ ?_ okn) ?_
  all_goals try dsimp only [wg8, wg3, wg19, wg2, wg10, wg6, wg15, wg7, wg4]
  all_goals exact sc18

set_option maxHeartbeats 4000000 in
theorem txVf (t0 t1 t2 : List UInt8) (s : List UInt8) (a : Nat) (P Q : List Pc) (n : Nat) (x : List UInt8) (c : UInt8) (ha : a < s.length) (hs : s.length ≤ 10000) (hP : P.length ≤ 40) (hA : ((List.range P.length).all fun i => decide ((prL P [i]).length ≤ 1000)) = true) (hQl : Q.length ≤ 41) (h : (s.getD a 0).toNat = 36) (v1 : isEr 5 (varR (s.drop (a + 1))) = true)  :
    (RunsTo Tryd.prog 93 (headL Tryd.f93 0) (envAt Tryd.f93.ntmps (wg11 P)) (wg5 P a s t0 t1 t2) 80 (.tup [wg12, (false, vErr 6)]) (Sx.look ([])) 3000) := by
  have hw1 : IntKind.i64.wrap ((a : Int) + 1) = ((a + 1 : Nat) : Int) := by rw [wr64 (by omega)]; rfl
  have hb0 := u8nat (s.getD a 0)
  have hu0 : u8o ((s.getD a 0).toNat : Int) = s.getD a 0 := by show UInt8.ofNat (((s.getD a 0).toNat : Int)).toNat = _; rw [Int.toNat_natCast]; exact u8nat' _
  have hpp := pcsOf_pr P
  have E' := (⟨hw1, hu0, hpp, v1⟩ : _ ∧ _ ∧ _ ∧ _)
  refine rEn baseTXf 400 (99) 900 160 (hI 10 881988) ([]) [(wg8 a s), (wg3 a s), (wg19 a s), (wg3 a s), ((wg2 a s) == 36, true), (decide (0 ≤ IntKind.i64.wrap ((a : Int) + 1)) && (decide ((wg10 a).toNat ≤ s.length) && (decide (s.length ≤ (100000 : Nat)) && isEr (5 : Nat) (varR (wg6 a s)))), true), (wg15 P), (wg7 P)] wg4 (oc8 ?_ ?_ ?_ ?_ ?_ ?_ ?_ ?_ okn) ?_
  all_goals try dsimp only [wg8, wg3, wg19, wg2, wg10, wg6, wg15, wg7, wg4]
  all_goals exact sc18

set_option maxHeartbeats 4000000 in
theorem txVl (t0 t1 t2 : List UInt8) (s : List UInt8) (a : Nat) (P Q : List Pc) (n : Nat) (x : List UInt8) (c : UInt8) (ha : a < s.length) (hs : s.length ≤ 10000) (hP : P.length ≤ 40) (hA : ((List.range P.length).all fun i => decide ((prL P [i]).length ≤ 1000)) = true) (hQl : Q.length ≤ 41) (h : (s.getD a 0).toNat = 36) (v1 : isEr 4 (varR (s.drop (a + 1))) = true)  :
    (wg9 P a s t0 t1 t2) := by
  have hw1 : IntKind.i64.wrap ((a : Int) + 1) = ((a + 1 : Nat) : Int) := by rw [wr64 (by omega)]; rfl
  have hb0 := u8nat (s.getD a 0)
  have hu0 : u8o ((s.getD a 0).toNat : Int) = s.getD a 0 := by show UInt8.ofNat (((s.getD a 0).toNat : Int)).toNat = _; rw [Int.toNat_natCast]; exact u8nat' _
  have hpp := pcsOf_pr P
  have E' := (⟨hw1, hu0, hpp, v1⟩ : _ ∧ _ ∧ _ ∧ _)
  refine rEn baseTXl 400 (99) 900 160 (hI 10 881988) ([]) [(wg8 a s), (wg3 a s), (wg19 a s), (wg3 a s), ((wg2 a s) == 36, true), (decide (0 ≤ IntKind.i64.wrap ((a : Int) + 1)) && (decide ((wg10 a).toNat ≤ s.length) && (decide (s.length ≤ (100000 : Nat)) && isEr (4 : Nat) (varR (wg6 a s)))), true), (wg15 P), (wg7 P)] wg4 (oc8 ?_ ?_ ?_ ?_ ?_ ?_ ?_ ?_ okn) ?_
  all_goals try dsimp only [wg8, wg3, wg19, wg2, wg10, wg6, wg15, wg7, wg4]
  all_goals exact sc18

set_option maxHeartbeats 4000000 in
theorem txSs (t0 t1 t2 : List UInt8) (s : List UInt8) (a : Nat) (P Q : List Pc) (n : Nat) (x : List UInt8) (c : UInt8) (ha : a < s.length) (hs : s.length ≤ 10000) (hP : P.length ≤ 40) (hA : ((List.range P.length).all fun i => decide ((prL P [i]).length ≤ 1000)) = true) (hQl : Q.length ≤ 41) (h : (s.getD a 0).toNat = 92) (v1 : isEr 3 (escR (s.drop (a + 1))) = true)  :
    (RunsTo Tryd.prog 93 (headL Tryd.f93 0) (envAt Tryd.f93.ntmps (wg11 P)) (wg5 P a s t0 t1 t2) 80 (.tup [wg12, (false, vErr 5)]) (Sx.look ([])) 3000) := by
  have hw1 : IntKind.i64.wrap ((a : Int) + 1) = ((a + 1 : Nat) : Int) := by rw [wr64 (by omega)]; rfl
  have hb0 := u8nat (s.getD a 0)
  have hu0 : u8o ((s.getD a 0).toNat : Int) = s.getD a 0 := by show UInt8.ofNat (((s.getD a 0).toNat : Int)).toNat = _; rw [Int.toNat_natCast]; exact u8nat' _
  have hpp := pcsOf_pr P
  have E' := (⟨hw1, hu0, hpp, v1⟩ : _ ∧ _ ∧ _ ∧ _)
  refine rEn baseTXs 400 (99) 900 160 (hI 10 872516) ([]) [(wg8 a s), (wg3 a s), (wg19 a s), (wg3 a s), ((wg2 a s) == 36, false), ((wg2 a s) == 10, false), ((wg2 a s) == 92, true), (decide (0 ≤ IntKind.i64.wrap ((a : Int) + 1)) && (decide ((wg10 a).toNat ≤ s.length) && (decide (s.length ≤ (100000 : Nat)) && isEr (3 : Nat) (escR (wg6 a s)))), true), (decide ((0 : Int) ≤ 0 ∧ (0 : Int) < 256) && (decide (P.length = P.length) && (decide (P.length ≤ (1000 : Nat)) && (List.range P.length).all fun i => decide ((prL P [i]).length ≤ (1000 : Nat)))), true)] wg4 (oc9 ?_ ?_ ?_ ?_ ?_ ?_ ?_ ?_ ?_ okn) ?_
  all_goals try dsimp only [wg8, wg3, wg19, wg2, wg10, wg6, wg4]
  all_goals exact sc18

set_option maxHeartbeats 4000000 in
theorem txSf (t0 t1 t2 : List UInt8) (s : List UInt8) (a : Nat) (P Q : List Pc) (n : Nat) (x : List UInt8) (c : UInt8) (ha : a < s.length) (hs : s.length ≤ 10000) (hP : P.length ≤ 40) (hA : ((List.range P.length).all fun i => decide ((prL P [i]).length ≤ 1000)) = true) (hQl : Q.length ≤ 41) (h : (s.getD a 0).toNat = 92) (v1 : isEr 5 (escR (s.drop (a + 1))) = true)  :
    (RunsTo Tryd.prog 93 (headL Tryd.f93 0) (envAt Tryd.f93.ntmps (wg11 P)) (wg5 P a s t0 t1 t2) 80 (.tup [wg12, (false, vErr 6)]) (Sx.look ([])) 3000) := by
  have hw1 : IntKind.i64.wrap ((a : Int) + 1) = ((a + 1 : Nat) : Int) := by rw [wr64 (by omega)]; rfl
  have hb0 := u8nat (s.getD a 0)
  have hu0 : u8o ((s.getD a 0).toNat : Int) = s.getD a 0 := by show UInt8.ofNat (((s.getD a 0).toNat : Int)).toNat = _; rw [Int.toNat_natCast]; exact u8nat' _
  have hpp := pcsOf_pr P
  have E' := (⟨hw1, hu0, hpp, v1⟩ : _ ∧ _ ∧ _ ∧ _)
  refine rEn baseTXf 400 (99) 900 160 (hI 10 872516) ([]) [(wg8 a s), (wg3 a s), (wg19 a s), (wg3 a s), ((wg2 a s) == 36, false), ((wg2 a s) == 10, false), ((wg2 a s) == 92, true), (decide (0 ≤ IntKind.i64.wrap ((a : Int) + 1)) && (decide ((wg10 a).toNat ≤ s.length) && (decide (s.length ≤ (100000 : Nat)) && isEr (5 : Nat) (escR (wg6 a s)))), true), (decide ((0 : Int) ≤ 0 ∧ (0 : Int) < 256) && (decide (P.length = P.length) && (decide (P.length ≤ (1000 : Nat)) && (List.range P.length).all fun i => decide ((prL P [i]).length ≤ (1000 : Nat)))), true)] wg4 (oc9 ?_ ?_ ?_ ?_ ?_ ?_ ?_ ?_ ?_ okn) ?_
  all_goals try dsimp only [wg8, wg3, wg19, wg2, wg10, wg6, wg4]
  all_goals exact sc18

end Go.Proofs.YtaleenklamognaaDoor

set_option linter.unusedSimpArgs false
set_option linter.unusedVariables false
set_option maxRecDepth 100000
namespace Go.Proofs.YtaleenklamognaaDoor
open Go.Sx

open WordR
def txR (s : List UInt8) (a : Nat) : TR := textR ((s.drop (a + 1)).length + 1) (s.drop (a + 1)) [] 1
def TXR (s : List UInt8) (a0 : Nat) (X : SV → HF → Prop) : TR → Prop
  | .ok t m => X (.tup [(true, tkT (3) ([]) (0) (.vl 141 (fun _ => 0) 2 [] (fun _ => (t.ps).length))), (false, .ve0)]) (Sx.look (rdW 63 s (a0 + m : Nat) ++ prE 141 t.ps))
  | .err e => (e = 3 ∧ X (.tup [(true, tkT (0) ([]) (0) .vl0), (false, vErr 5)]) (Sx.look [])) ∨ (e = 5 ∧ X (.tup [(true, tkT (0) ([]) (0) .vl0), (false, vErr 6)]) (Sx.look [])) ∨ (e = 4 ∧ X (.tup [(true, tkT (0) ([]) (0) .vl0), (false, vErr 0)]) (Sx.look []))
theorem TXR.step {s : List UInt8} {a0 : Nat} {X Y : SV → HF → Prop} (h : ∀ v L', X v L' → Y v L') : ∀ {r : TR}, TXR s a0 X r → TXR s a0 Y r
  | .ok t m, q => h _ _ q
  | .err e, q => q.imp (fun x => ⟨x.1, h _ _ x.2⟩) (fun q => q.imp (fun x => ⟨x.1, h _ _ x.2⟩) (fun x => ⟨x.1, h _ _ x.2⟩))
theorem varR_ok : ∀ (l : List UInt8) {x : List UInt8} {n : Nat}, varR l = .var x n → 2 ≤ n ∧ n ≤ 25 ∧ n ≤ l.length + 1 ∧ x ≠ []
  | [], x, n, h => by cases h
  | d :: r, x, n, h => by
    rw [varR] at h
    split at h
    · injection h with h1 h2; subst h1 h2; simp
    · split at h
      · cases h
      · split at h
        · cases h
        · rename_i hf hl hn
          injection h with h1 h2
          have hle := span_le goI (d :: r)
          have hg : goI (nat d) = true := by simp only [Bool.not_eq_false] at hl; simp [goI, hl]
          have h1' : 1 ≤ spanR goI (d :: r) := by rw [spanR, if_pos hg]; omega
          subst h1 h2
          refine ⟨by omega, by omega, by omega, fun e => ?_⟩
          have := congrArg List.length e
          rw [List.length_take, List.length_nil] at this
          omega
theorem varR_nb : ∀ (l : List UInt8) {c : UInt8} {n : Nat}, varR l ≠ .byte c n
  | [], c, n, h => by cases h
  | d :: r, c, n, h => by rw [varR] at h; repeat' split at h
                          all_goals cases h
theorem escR_ok : ∀ (l : List UInt8) {c : UInt8} {n : Nat}, escR l = .byte c n → 2 ≤ n ∧ n ≤ 4 ∧ n ≤ l.length + 1
  | [], c, n, h => by cases h
  | d :: r, c, n, h => by
    have hx : ∀ {c n}, hexR r = .byte c n → n = 4 ∧ 2 ≤ r.length := by
      intro c n h
      match r, h with
      | [], h => cases h
      | [x], h => rw [hexR] at h; split at h <;> cases h
      | x :: y :: q, h =>
        rw [hexR] at h
        repeat' split at h
        all_goals first | (cases h; done) | (injection h with h1 h2; subst h2; simp)
    rw [escR] at h
    simp only [List.length_cons]
    repeat' split at h
    all_goals first | (cases h; done) | (have := hx h; omega) | (injection h with h1 h2; omega)
theorem escR_nv : ∀ (l : List UInt8) {x : List UInt8} {n : Nat}, escR l ≠ .var x n
  | [], c, n, h => by cases h
  | d :: r, c, n, h => by
    have hx : ∀ {x n}, hexR r ≠ .var x n := by
      intro x n h
      match r, h with
      | [], h => cases h
      | [x], h => rw [hexR] at h; split at h <;> cases h
      | x :: y :: q, h => rw [hexR] at h; repeat' split at h
                          all_goals cases h
    rw [escR] at h
    repeat' split at h
    all_goals first | (cases h; done) | exact hx h
theorem fits_len {P : List Pc} (h : fitsP P = true) : P.length ≤ 40 ∧ ((List.range P.length).all fun i => decide ((prL P [i]).length ≤ 1000)) = true := by
  unfold fitsP at h
  simp only [Bool.and_eq_true, decide_eq_true_eq, List.all_eq_true] at h
  refine ⟨h.1, List.all_eq_true.2 fun i hi => decide_eq_true ?_⟩
  have hi := List.mem_range.1 hi
  have e : prL P [i] = (P[i]).lit := by simp [prL, List.getD_eq_getElem?_getD, List.getElem?_eq_getElem hi]
  rw [e]
  have := h.2 _ (List.getElem_mem hi)
  omega
theorem litP_le (P : List Pc) (c : UInt8) : (litP P c).length ≤ P.length + 1 := by
  rw [litP_len]; split <;> omega
theorem txLoop (t0 t1 t2 s : List UInt8) (a0 : Nat) (hs : s.length ≤ 10000) : ∀ (f a n : Nat) (P : List Pc), a = a0 + n → a ≤ s.length → s.length - a < f → fitsP P = true → TXR s a0 (fun v L' => RunsTo Tryd.prog 93 (headL Tryd.f93 0) (envAt Tryd.f93.ntmps ([(0, vP 63), (2, vP 120), (4, vL 121 2 (P).length)])) (Sx.look (sentEnts 23 213 [(5, t0), (6, t1), (0, t2)] ++ (rdW 63 s (a : Nat) ++ (prE 121 (P) ++ [⟨120, true, none, 5, tkT 0 [] 0 .vl0⟩])))) 80 (v) (L') 3000) (textR f (s.drop a) P n) := by
  intro f
  induction f with
  | zero => intro a n P _ _ h; omega
  | succ f ih =>
    intro a n P han ha hfu hf
    have hl := fits_len hf
    have hP := hl.1
    have hA := hl.2
    by_cases hae : s.length ≤ a
    · rw [List.drop_eq_nil_of_le hae]
      exact .inl ⟨rfl, txE t0 t1 t2 s a P P 0 (by omega) hs⟩
    have hlt : a < s.length := by omega
    have hd := drop_at s hlt
    rw [hd, textR]
    by_cases h34 : s.getD a 0 = 34
    · rw [if_pos h34]
      have q := txQ t0 t1 t2 s a P P 0 hlt hs hP hA (by omega) (by rw [h34]; rfl)
      rw [show a + 1 = a0 + (n + 1) by omega] at q
      exact q
    rw [if_neg h34]
    have ho : oneR (s.getD a 0 :: s.drop (a + 1)) = if s.getD a 0 = 36 then varR (s.drop (a + 1)) else if s.getD a 0 = 10 then .err 5 else if s.getD a 0 = 92 then escR (s.drop (a + 1)) else .byte (s.getD a 0) 1 := rfl
    rw [ho]
    have hdl : (s.drop (a + 1)).length = s.length - (a + 1) := List.length_drop
    by_cases h36 : s.getD a 0 = 36
    · rw [if_pos h36]
      have h36 : (s.getD a 0).toNat = 36 := by rw [h36]; rfl
      cases hz : varR (s.drop (a + 1)) with
      | byte c k => exact absurd hz (varR_nb _)
      | var x k =>
        have hk := varR_ok _ hz
        simp only
        by_cases hq : fitsP (P ++ [⟨x, []⟩]) = true
        · rw [if_pos hq]
          have st := txV t0 t1 t2 s a P (P ++ [⟨x, []⟩]) k x 0 hlt hs hP hA (by simp; omega) h36 (by rw [hz]; rfl) (by rw [hz]; rfl) (by rw [hz]; rfl) (by omega) rfl (pcs_app P x) hq
          rw [show a + 1 + (k - 1) = a0 + (n + k) by omega] at st
          refine TXR.step st ?_
          rw [← hd, List.drop_drop, show a + k = a0 + (n + k) by omega]
          exact ih (a0 + (n + k)) (n + k) _ rfl (by omega) (by omega) hq
        · rw [if_neg hq]
          exact .inr (.inr ⟨rfl, txVL t0 t1 t2 s a P (P ++ [⟨x, []⟩]) k x 0 hlt hs hP hA (by simp; omega) h36 (by rw [hz]; rfl) (by rw [hz]; rfl) (by rw [hz]; rfl) (by omega) rfl (pcs_app P x) (by simpa using hq)⟩)
      | err e =>
        simp only
        have q := vrT t0 t1 t2 s (a + 1) (by omega) (by omega)
        rw [hz] at q
        rcases q with ⟨rfl, _⟩ | ⟨rfl, _⟩ | ⟨rfl, _⟩
        · exact .inl ⟨rfl, txVs t0 t1 t2 s a P P 0 [] 0 hlt hs hP hA (by omega) h36 (by rw [hz]; rfl)⟩
        · exact .inr (.inl ⟨rfl, txVf t0 t1 t2 s a P P 0 [] 0 hlt hs hP hA (by omega) h36 (by rw [hz]; rfl)⟩)
        · exact .inr (.inr ⟨rfl, txVl t0 t1 t2 s a P P 0 [] 0 hlt hs hP hA (by omega) h36 (by rw [hz]; rfl)⟩)
    rw [if_neg h36]
    by_cases h10 : s.getD a 0 = 10
    · rw [if_pos h10]
      exact .inr (.inl ⟨rfl, txN t0 t1 t2 s a P P 0 hlt hs hP hA (by omega) (by rw [h10]; rfl)⟩)
    rw [if_neg h10]
    by_cases h92 : s.getD a 0 = 92
    · rw [if_pos h92]
      have h92 : (s.getD a 0).toNat = 92 := by rw [h92]; rfl
      cases hz : escR (s.drop (a + 1)) with
      | var x k => exact absurd hz (escR_nv _)
      | byte c k =>
        have hk := escR_ok _ hz
        have hQl := litP_le P c
        simp only
        by_cases hq : fitsP (litP P c) = true
        · rw [if_pos hq]
          have st := txS t0 t1 t2 s a P (litP P c) k [] c hlt hs hP hA (by omega) h92 (by rw [hz]; rfl) (by rw [hz]; rfl) (by rw [hz]; rfl) (by omega) rfl hq
          rw [show a + 1 + (k - 1) = a0 + (n + k) by omega] at st
          refine TXR.step st ?_
          rw [← hd, List.drop_drop, show a + k = a0 + (n + k) by omega]
          exact ih (a0 + (n + k)) (n + k) _ rfl (by omega) (by omega) hq
        · rw [if_neg hq]
          exact .inr (.inr ⟨rfl, txSL t0 t1 t2 s a P (litP P c) k [] c hlt hs hP hA (by omega) h92 (by rw [hz]; rfl) (by rw [hz]; rfl) (by rw [hz]; rfl) (by omega) rfl (by simpa using hq)⟩)
      | err e =>
        simp only
        have q := esT t0 t1 s (a + 1) (by omega) (by omega)
        rw [hz] at q
        rcases q with ⟨rfl, _⟩ | ⟨rfl, _⟩
        · exact .inl ⟨rfl, txSs t0 t1 t2 s a P P 0 [] 0 hlt hs hP hA (by omega) h92 (by rw [hz]; rfl)⟩
        · exact .inr (.inl ⟨rfl, txSf t0 t1 t2 s a P P 0 [] 0 hlt hs hP hA (by omega) h92 (by rw [hz]; rfl)⟩)
    rw [if_neg h92]
    have hQl := litP_le P (s.getD a 0)
    simp only
    by_cases hq : fitsP (litP P (s.getD a 0)) = true
    · rw [if_pos hq]
      have st := txB t0 t1 t2 s a P _ 0 hlt hs hP hA (by omega) (nat_ne h34) (nat_ne h36) (nat_ne h10) (nat_ne h92) rfl hq
      rw [show a + 1 = a0 + (n + 1) by omega] at st
      refine TXR.step st ?_
      rw [List.drop_succ_cons, List.drop_zero, show a + 1 = a0 + (n + 1) by omega]
      exact ih (a0 + (n + 1)) (n + 1) _ rfl (by omega) (by omega) hq
    · rw [if_neg hq]
      exact .inr (.inr ⟨rfl, txBL t0 t1 t2 s a P _ 0 hlt hs hP hA (by omega) (nat_ne h34) (nat_ne h36) (nat_ne h10) (nat_ne h92) rfl (by simpa using hq)⟩)
theorem txT (t0 t1 t2 s : List UInt8) (a : Nat) (ha : a < s.length) (hs : s.length ≤ 10000) : TXR s a (fun v L' => RunsTo Tryd.prog 93 [.code (bodyOf Tryd.f93)] (envOf [vP 63] Tryd.f93.ntmps) (Sx.look (sentEnts 23 213 [(5, t0), (6, t1), (0, t2)] ++ (rdW 63 s (a : Nat)))) 80 (v) (L') 3000) (txR s a) :=
  TXR.step (tx0 t0 t1 t2 s a ha hs) (txLoop t0 t1 t2 s a hs _ (a + 1) 1 [] rfl (by omega) (by rw [List.length_drop]; omega) rfl)
theorem txOkT (t0 t1 t2 s : List UInt8) (a : Nat) (ha : a < s.length) (hs : s.length ≤ 10000) (h : isOkR (txR s a) = true) : RunsTo Tryd.prog 93 [.code (bodyOf Tryd.f93)] (envOf [vP 63] Tryd.f93.ntmps) (Sx.look (sentEnts 23 213 [(5, t0), (6, t1), (0, t2)] ++ (rdW 63 s (a : Nat)))) 80 (.tup [(true, tkT (3) ([]) (0) (.vl 141 (fun _ => 0) 2 [] (fun _ => ((okT (txR s a)).ps).length))), (false, .ve0)]) (Sx.look (rdW 63 s (a + okN (txR s a) : Nat) ++ prE 141 (okT (txR s a)).ps)) 3000 := by
  have q := txT t0 t1 t2 s a ha hs
  cases hz : txR s a with
  | ok t m => rw [hz] at q; exact q
  | err e =>
    rw [hz] at h; cases h
theorem txShT (t0 t1 t2 s : List UInt8) (a : Nat) (ha : a < s.length) (hs : s.length ≤ 10000) (h : isErR 3 (txR s a) = true) : RunsTo Tryd.prog 93 [.code (bodyOf Tryd.f93)] (envOf [vP 63] Tryd.f93.ntmps) (Sx.look (sentEnts 23 213 [(5, t0), (6, t1), (0, t2)] ++ (rdW 63 s (a : Nat)))) 80 (.tup [(true, tkT (0) ([]) (0) .vl0), (false, vErr 5)]) (Sx.look ([])) 3000 := by
  have q := txT t0 t1 t2 s a ha hs
  cases hz : txR s a with
  | ok t m =>
    rw [hz] at h; cases h
  | err e =>
    rw [hz] at h q
    have he : e = 3 := by simpa [isErR] using h
    subst he
    simpa [TXR] using q
theorem txFoT (t0 t1 t2 s : List UInt8) (a : Nat) (ha : a < s.length) (hs : s.length ≤ 10000) (h : isErR 5 (txR s a) = true) : RunsTo Tryd.prog 93 [.code (bodyOf Tryd.f93)] (envOf [vP 63] Tryd.f93.ntmps) (Sx.look (sentEnts 23 213 [(5, t0), (6, t1), (0, t2)] ++ (rdW 63 s (a : Nat)))) 80 (.tup [(true, tkT (0) ([]) (0) .vl0), (false, vErr 6)]) (Sx.look ([])) 3000 := by
  have q := txT t0 t1 t2 s a ha hs
  cases hz : txR s a with
  | ok t m =>
    rw [hz] at h; cases h
  | err e =>
    rw [hz] at h q
    have he : e = 5 := by simpa [isErR] using h
    subst he
    simpa [TXR] using q
theorem txLoT (t0 t1 t2 s : List UInt8) (a : Nat) (ha : a < s.length) (hs : s.length ≤ 10000) (h : isErR 4 (txR s a) = true) : RunsTo Tryd.prog 93 [.code (bodyOf Tryd.f93)] (envOf [vP 63] Tryd.f93.ntmps) (Sx.look (sentEnts 23 213 [(5, t0), (6, t1), (0, t2)] ++ (rdW 63 s (a : Nat)))) 80 (.tup [(true, tkT (0) ([]) (0) .vl0), (false, vErr 0)]) (Sx.look ([])) 3000 := by
  have q := txT t0 t1 t2 s a ha hs
  cases hz : txR s a with
  | ok t m =>
    rw [hz] at h; cases h
  | err e =>
    rw [hz] at h q
    have he : e = 4 := by simpa [isErR] using h
    subst he
    simpa [TXR] using q
def txOkP : PC := { args := [.v (.vp 63)], heap := [⟨63, true, 2, .tc (.vs 0) (.tc (.vi .i64 1) .t0)⟩], gs := [5, 6, 0], G := 23, tp := 213, n := 80, n' := 3000, cond := fun e => decide (0 ≤ eI e 1 []) && (decide ((eI e 1 []).toNat < (eS e 0 []).length) && (decide ((eS e 0 []).length ≤ 10000) && isOkR (txR (eS e 0 []) (eI e 1 []).toNat))), v := fun e => .tup [(true, tkT (3) ([]) (0) (.vl 141 (fun _ => 0) 2 [] (fun _ => ((okT (txR (eS e 0 []) (eI e 1 []).toNat)).ps).length))), (false, .ve0)], post := fun e => rdW 63 (eS e 0 []) ((eI e 1 []).toNat + okN (txR (eS e 0 []) (eI e 1 []).toNat) : Nat) ++ prE 141 (okT (txR (eS e 0 []) (eI e 1 []).toNat)).ps }
theorem txOkP_pc : PC.Runs Tryd.prog 93 Tryd.f93 (bodyOf Tryd.f93) txOkP := ⟨Tryd.func93, by kernel_rfl, (fun g hg => by first | (cases hg; done) | (revert g; show ∀ g ∈ ([5, 6, 0] : List Nat), g < 23; decide)), fun e H hc => by
  have hc : (decide (0 ≤ eI e 1 []) && (decide ((eI e 1 []).toNat < (eS e 0 []).length) && (decide ((eS e 0 []).length ≤ 10000) && isOkR (txR (eS e 0 []) (eI e 1 []).toNat)))) = true := hc
  try simp only [Bool.and_eq_true, decide_eq_true_eq, Nat.beq_eq] at hc
  exact by obtain ⟨h1, h2, h3, h4⟩ := hc; have hj : ((eI e 1 []).toNat : Int) = eI e 1 [] := Int.toNat_of_nonneg h1; have q := txOkT (textAt H 28) (textAt H 29) (textAt H 23) (eS e 0 []) (eI e 1 []).toNat h2 h3 h4; rw [hj] at q; exact q⟩
def txShP : PC := { args := [.v (.vp 63)], heap := [⟨63, true, 2, .tc (.vs 0) (.tc (.vi .i64 1) .t0)⟩], gs := [5, 6, 0], G := 23, tp := 213, n := 80, n' := 3000, cond := fun e => decide (0 ≤ eI e 1 []) && (decide ((eI e 1 []).toNat < (eS e 0 []).length) && (decide ((eS e 0 []).length ≤ 10000) && isErR 3 (txR (eS e 0 []) (eI e 1 []).toNat))), v := fun e => .tup [(true, tkT (0) ([]) (0) .vl0), (false, vErr 5)], post := fun e => [] }
theorem txShP_pc : PC.Runs Tryd.prog 93 Tryd.f93 (bodyOf Tryd.f93) txShP := ⟨Tryd.func93, by kernel_rfl, (fun g hg => by first | (cases hg; done) | (revert g; show ∀ g ∈ ([5, 6, 0] : List Nat), g < 23; decide)), fun e H hc => by
  have hc : (decide (0 ≤ eI e 1 []) && (decide ((eI e 1 []).toNat < (eS e 0 []).length) && (decide ((eS e 0 []).length ≤ 10000) && isErR 3 (txR (eS e 0 []) (eI e 1 []).toNat)))) = true := hc
  try simp only [Bool.and_eq_true, decide_eq_true_eq, Nat.beq_eq] at hc
  exact by obtain ⟨h1, h2, h3, h4⟩ := hc; have hj : ((eI e 1 []).toNat : Int) = eI e 1 [] := Int.toNat_of_nonneg h1; have q := txShT (textAt H 28) (textAt H 29) (textAt H 23) (eS e 0 []) (eI e 1 []).toNat h2 h3 h4; rw [hj] at q; exact q⟩
def txFoP : PC := { args := [.v (.vp 63)], heap := [⟨63, true, 2, .tc (.vs 0) (.tc (.vi .i64 1) .t0)⟩], gs := [5, 6, 0], G := 23, tp := 213, n := 80, n' := 3000, cond := fun e => decide (0 ≤ eI e 1 []) && (decide ((eI e 1 []).toNat < (eS e 0 []).length) && (decide ((eS e 0 []).length ≤ 10000) && isErR 5 (txR (eS e 0 []) (eI e 1 []).toNat))), v := fun e => .tup [(true, tkT (0) ([]) (0) .vl0), (false, vErr 6)], post := fun e => [] }
theorem txFoP_pc : PC.Runs Tryd.prog 93 Tryd.f93 (bodyOf Tryd.f93) txFoP := ⟨Tryd.func93, by kernel_rfl, (fun g hg => by first | (cases hg; done) | (revert g; show ∀ g ∈ ([5, 6, 0] : List Nat), g < 23; decide)), fun e H hc => by
  have hc : (decide (0 ≤ eI e 1 []) && (decide ((eI e 1 []).toNat < (eS e 0 []).length) && (decide ((eS e 0 []).length ≤ 10000) && isErR 5 (txR (eS e 0 []) (eI e 1 []).toNat)))) = true := hc
  try simp only [Bool.and_eq_true, decide_eq_true_eq, Nat.beq_eq] at hc
  exact by obtain ⟨h1, h2, h3, h4⟩ := hc; have hj : ((eI e 1 []).toNat : Int) = eI e 1 [] := Int.toNat_of_nonneg h1; have q := txFoT (textAt H 28) (textAt H 29) (textAt H 23) (eS e 0 []) (eI e 1 []).toNat h2 h3 h4; rw [hj] at q; exact q⟩
def txLoP : PC := { args := [.v (.vp 63)], heap := [⟨63, true, 2, .tc (.vs 0) (.tc (.vi .i64 1) .t0)⟩], gs := [5, 6, 0], G := 23, tp := 213, n := 80, n' := 3000, cond := fun e => decide (0 ≤ eI e 1 []) && (decide ((eI e 1 []).toNat < (eS e 0 []).length) && (decide ((eS e 0 []).length ≤ 10000) && isErR 4 (txR (eS e 0 []) (eI e 1 []).toNat))), v := fun e => .tup [(true, tkT (0) ([]) (0) .vl0), (false, vErr 0)], post := fun e => [] }
theorem txLoP_pc : PC.Runs Tryd.prog 93 Tryd.f93 (bodyOf Tryd.f93) txLoP := ⟨Tryd.func93, by kernel_rfl, (fun g hg => by first | (cases hg; done) | (revert g; show ∀ g ∈ ([5, 6, 0] : List Nat), g < 23; decide)), fun e H hc => by
  have hc : (decide (0 ≤ eI e 1 []) && (decide ((eI e 1 []).toNat < (eS e 0 []).length) && (decide ((eS e 0 []).length ≤ 10000) && isErR 4 (txR (eS e 0 []) (eI e 1 []).toNat)))) = true := hc
  try simp only [Bool.and_eq_true, decide_eq_true_eq, Nat.beq_eq] at hc
  exact by obtain ⟨h1, h2, h3, h4⟩ := hc; have hj : ((eI e 1 []).toNat : Int) = eI e 1 [] := Int.toNat_of_nonneg h1; have q := txLoT (textAt H 28) (textAt H 29) (textAt H 23) (eS e 0 []) (eI e 1 []).toNat h2 h3 h4; rw [hj] at q; exact q⟩
end Go.Proofs.YtaleenklamognaaDoor

set_option linter.unusedSimpArgs false
set_option linter.unusedVariables false
set_option maxRecDepth 100000
namespace Go.Proofs.YtaleenklamognaaDoor
open Go.Sx

open WordR
def bW (l : Nat) (b : List UInt8) : List Ent := [⟨l, true, none, 1, .ta b.length (.vi .u8 fun is => ((b.getD (is.headD 0) 0).toNat : Int))⟩]
def sumsNU : List (FuncId × Summ) := [(86, whFP.summ 46), (68, goP.summ 46)]
theorem baseNU : Base0 Tryd.prog sumsNU := ((baseO.cons Tryd.func68 (by kernel_rfl) (PC.summ_ok goP_pc gtopG)).cons Tryd.func86 (by kernel_rfl) (PC.summ_ok whFP_pc gtopG))

variable (D : List UInt8) (a e i k : Nat) (s t0 t1 : List UInt8)
abbrev wi27 := IntKind.i64.wrap ((a : Int) + 1)
abbrev wi1 := (wi27 a).toNat + spanR figI (List.drop (wi27 a).toNat s)
abbrev wi11 := (a : Int).toNat + spanR figI (List.drop (a : Int).toNat s)
abbrev wi2 := List.drop (a : Int).toNat (List.take (wi11 a s) s)
abbrev wi3 := (↑(s.getD (IntKind.i64.wrap ((a : Int) + 0)).toNat (0 : UInt8)).toNat : Int)
abbrev wi4 := List.drop (wi27 a).toNat (List.take (wi1 a s) s)
abbrev wi38 := (↑s.length : Int)
abbrev wi5 := (decide (0 ≤ IntKind.i64.wrap ((a : Int) + 0) ∧ IntKind.i64.wrap ((a : Int) + 0) < (wi38 s)), true)
abbrev wi41 := (↑D.length : Int)
abbrev wi19 := (↑(wi2 a s).length : Int)
abbrev wi36 := (↑(D.getD i (0 : UInt8)).toNat : Int)
abbrev wi40 := ([] : List UInt8)
abbrev wi6 := (0 = 0 ∧ false = ((wi3 a s) == 45) ∧ (0 : Int) = (0 : Int) ∧ (0 = 0 ∧ D.length = (wi2 a s).length) ∧ (wi41 D) = (wi19 a s) ∧ (↑(0 : Nat) : Int) = (0 : Int)) ∧ (s = s ∧ (↑(a + k) : Int) = (↑(wi11 a s) : Int)) ∧ (D.length = (wi2 a s).length ∧ ∀ (i : Nat), i < D.length → (wi36 D i) = (↑((wi2 a s).getD i (0 : UInt8)).toNat : Int)) ∧ (0 : Int) = (0 : Int) ∧ wi40 = [] ∧ (0 : Int) = (0 : Int) ∧ True ∧ (0 : Int) = (0 : Int)
abbrev wi7 := (((0 : Int) = (0 : Int) ∧ wi40 = [] ∧ (0 : Int) = (0 : Int) ∧ True ∧ (0 : Int) = (0 : Int)) ∧ 0 = 0 ∧ True) ∧ True
abbrev wi8 := (decide (0 ≤ IntKind.i64.wrap ((a : Int) + 1)) && (decide ((wi27 a).toNat ≤ s.length) && decide (s.length ≤ (100000 : Nat))), true)
abbrev wi30 := Sx.look (sentEnts 23 213 [(0, t0), (6, t1)] ++ (rdW 63 s (a : Nat)))
abbrev wi9 := RunsTo Tryd.prog 92 [.code (bodyOf Tryd.f92)] (envOf [vP 63] Tryd.f92.ntmps) (wi30 a s t0 t1) 80 (.tup [(true, tkT (0) ([]) (0) .vl0), (false, vErr 6)]) (Sx.look ([])) 700
abbrev wi18 := (↑(wi4 a s).length : Int)
abbrev wi10 := (0 = 0 ∧ true = ((wi3 a s) == 45) ∧ (0 : Int) = (0 : Int) ∧ (0 = 0 ∧ D.length = (wi4 a s).length) ∧ (wi41 D) = (wi18 a s) ∧ (↑(0 : Nat) : Int) = (0 : Int)) ∧ (s = s ∧ (↑(a + 1 + k) : Int) = (↑(wi1 a s) : Int)) ∧ (D.length = (wi4 a s).length ∧ ∀ (i : Nat), i < D.length → (wi36 D i) = (↑((wi4 a s).getD i (0 : UInt8)).toNat : Int)) ∧ (0 : Int) = (0 : Int) ∧ wi40 = [] ∧ (0 : Int) = (0 : Int) ∧ True ∧ (0 : Int) = (0 : Int)
abbrev wi12 := (decide (IntKind.i64.wrap ((a : Int) + 0) ≥ (wi38 s)), false)
abbrev wi13 := (decide (0 ≤ (a : Int)) && (decide ((a : Int).toNat ≤ s.length) && decide (s.length ≤ (100000 : Nat))), true)
abbrev wi14 := (List.drop (wi27 a).toNat (List.take (wi1 a s) s) == [], false)
abbrev wi15 := (List.drop (wi27 a).toNat (List.take (wi1 a s) s) == [(48 : UInt8)], false)
abbrev wi43 := (↑(wi11 a s) : Int) + 0
abbrev wi16 := (decide (0 ≤ IntKind.i64.wrap (wi43 a s) ∧ IntKind.i64.wrap (wi43 a s) < (wi38 s)), true)
abbrev wi44 := (↑(wi1 a s) : Int) + 0
abbrev wi17 := (decide (0 ≤ IntKind.i64.wrap (wi44 a s) ∧ IntKind.i64.wrap (wi44 a s) < (wi38 s)), true)
abbrev wi20 := (List.drop (a : Int).toNat (List.take (wi11 a s) s) == [], false)
abbrev wi39 := bW 121 D ++ [⟨120, true, none, 5, tkT 0 [] 0 .vl0⟩]
abbrev wi21 := Sx.look (sentEnts 23 213 [(0, t0), (6, t1)] ++ (rdW 63 s (e : Nat) ++ (wi39 D)))
abbrev wi22 := (↑(s.getD (IntKind.i64.wrap (wi43 a s)).toNat (0 : UInt8)).toNat : Int)
abbrev wi23 := (↑(s.getD (IntKind.i64.wrap (wi44 a s)).toNat (0 : UInt8)).toNat : Int)
abbrev wi24 := (decide (IntKind.i64.wrap (wi43 a s) ≥ (wi38 s)), false)
abbrev wi25 := (decide (IntKind.i64.wrap (wi44 a s) ≥ (wi38 s)), false)
abbrev wi26 := ((wi3 a s) == 45, true)
abbrev wi28 := ((wi3 a s) == 45, false)
abbrev wi29 := (decide ((wi18 a s) > 9), false)
abbrev wi31 := (decide ((wi19 a s) > 9), false)
abbrev wi32 := (decide ((0 : Int) ≤ 0 ∧ (0 : Int) < (wi18 a s)), true)
abbrev wi33 := (decide ((0 : Int) ≤ 0 ∧ (0 : Int) < (wi19 a s)), true)
abbrev wi34 := (↑((wi4 a s).getD (0 : Nat) (0 : UInt8)).toNat : Int)
abbrev wi35 := (↑((wi2 a s).getD (0 : Nat) (0 : UInt8)).toNat : Int)
abbrev wi37 := RunsTo Tryd.prog 92 [.code (bodyOf Tryd.f92)] (envOf [vP 63] Tryd.f92.ntmps) (wi30 a s t0 t1) 80 (.tup [(true, tkT (0) ([]) (0) .vl0), (false, vErr 0)]) (Sx.look ([])) 700
abbrev wi42 := (56, vL 121 1 D.length)
set_option maxHeartbeats 4000000 in
theorem nu0m (t0 t1 s : List UInt8) (a k : Nat) (D : List UInt8) (ha : a < s.length) (hs : s.length ≤ 10000) (hm : (s.getD a 0).toNat = 45) (hk : spanR figI (s.drop (a + 1)) = k) (hD : (s.take ((a + 1) + k)).drop (a + 1) = D) (hDl : D.length = k) (hk9 : k ≤ 9) (hk0 : 0 < k) (hz : ¬ (1 < k ∧ D.getD 0 0 = 48)) (hzm : D ≠ [48]) (hg : (a + 1) + k < s.length → goI ((s.getD ((a + 1) + k) 0).toNat : Int) = false)  (v : SV) (L' : HF) (next : (RunsTo Tryd.prog 92 (headOf Tryd.f92 0) (envAt Tryd.f92.ntmps ([(2, vP 120), (4, vB true), (6, vN 0), (wi42 D), (57, vN D.length), (58, vN (0 : Nat))])) (Sx.look (sentEnts 23 213 [(0, t0), (6, t1)] ++ (rdW 63 s ((a + 1) + k : Nat) ++ (wi39 D)))) 80 (v) (L') 700)) :
    (RunsTo Tryd.prog 92 [.code (bodyOf Tryd.f92)] (envOf [vP 63] Tryd.f92.ntmps) (wi30 a s t0 t1) 80 (v) (L') 700) := by
  have hw1 : IntKind.i64.wrap ((a : Int) + 1) = ((a + 1 : Nat) : Int) := by rw [wr64 (by omega)]; rfl
  have hz0 : IntKind.i64.wrap ((a : Int) + 0) = (a : Int) := by rw [wr64 (by omega)]; omega
  have hsl := span_le' figI s (a := (a + 1)) (by omega)
  rw [hk] at hsl
  have hzk : IntKind.i64.wrap ((((a + 1) + k : Nat) : Int) + 0) = (((a + 1) + k : Nat) : Int) := by rw [wr64 (by omega)]; omega
  have hg0 : goI 0 = false := by decide
  have hb0 := u8nat (s.getD a 0)
  have hb1 := u8nat (s.getD ((a + 1) + k) 0)
  have hDn : D ≠ [] := fun e => by rw [e] at hDl; simp at hDl; omega
  have hd0 := u8nat (D.getD 0 0)
  have hz' : 1 < k → (D.getD 0 0).toNat ≠ 48 := fun h1 e => hz ⟨h1, UInt8.toNat_inj.1 e⟩
  have hmb : ((((s.getD a 0).toNat : Nat) : Int) == 45) = true := by rw [hm]; rfl
  have E' := (⟨hw1, hz0, hk, hD, hzk, hg0, hmb⟩ : _ ∧ _ ∧ _ ∧ _ ∧ _ ∧ _ ∧ _)
  refine bcase (fun gg0 => (bcase (fun gg1 => (rMo baseNU 400 (behind Tryd.f92 0) 900 80 (hI 13 13647956) ([((120 : Nat), Rn.to (80 : Nat)), ((121 : Nat), Rn.to (171 : Nat))]) [(wi12 a s), (wi5 a s), (wi26 a s), (wi8 a s), (wi29 a s), (wi14 a s), (decide ((wi18 a s) > 1), false), (wi26 a s), (wi15 a s), (wi25 a s), (wi17 a s), (goI (wi23 a s), false)] (wi10 D a k s) next (oc3 ?_ ?_ ?_ (oc9 ?_ ?_ ?_ gg0 ?_ ?_ gg1 ?_ ?_ okn)) ?_)) fun gg1 => (rMo baseNU 400 (behind Tryd.f92 0) 900 80 (hI 12 11812948) ([((120 : Nat), Rn.to (80 : Nat)), ((121 : Nat), Rn.to (171 : Nat))]) [(wi12 a s), (wi5 a s), (wi26 a s), (wi8 a s), (wi29 a s), (wi14 a s), (decide ((wi18 a s) > 1), false), (wi26 a s), (wi15 a s), (decide (IntKind.i64.wrap (wi44 a s) ≥ (wi38 s)), true)] (wi10 D a k s) next (oc1 ?_ (oc9 ?_ ?_ ?_ ?_ ?_ gg0 ?_ ?_ gg1 okn)) ?_))) fun gg0 => (bcase (fun gg1 => (rMo baseNU 400 (behind Tryd.f92 0) 900 80 (hI 15 218386516) ([((120 : Nat), Rn.to (80 : Nat)), ((121 : Nat), Rn.to (171 : Nat))]) [(wi12 a s), (wi5 a s), (wi26 a s), (wi8 a s), (wi29 a s), (wi14 a s), (decide ((wi18 a s) > 1), true), (wi32 a s), ((wi34 a s) == 48, false), (wi26 a s), (wi15 a s), (wi25 a s), (wi17 a s), (goI (wi23 a s), false)] (wi10 D a k s) next (oc5 ?_ ?_ ?_ ?_ ?_ (oc9 ?_ gg0 ?_ ?_ ?_ ?_ gg1 ?_ ?_ okn)) ?_)) fun gg1 => (rMo baseNU 400 (behind Tryd.f92 0) 900 80 (hI 14 189026388) ([((120 : Nat), Rn.to (80 : Nat)), ((121 : Nat), Rn.to (171 : Nat))]) [(wi12 a s), (wi5 a s), (wi26 a s), (wi8 a s), (wi29 a s), (wi14 a s), (decide ((wi18 a s) > 1), true), (wi32 a s), ((wi34 a s) == 48, false), (wi26 a s), (wi15 a s), (decide (IntKind.i64.wrap (wi44 a s) ≥ (wi38 s)), true)] (wi10 D a k s) next (oc3 ?_ ?_ ?_ (oc9 ?_ ?_ ?_ gg0 ?_ ?_ ?_ ?_ gg1 okn)) ?_))
  all_goals clear next; try dsimp only [wi12, wi38, wi5, wi26, wi3, wi8, wi27, wi29, wi18, wi4, wi1, wi14, wi15, wi25, wi44, wi17, wi23, wi10, wi41, wi36, wi40, wi32, wi34] at *
  all_goals exact sc22

set_option maxHeartbeats 4000000 in
theorem nuLm (t0 t1 s : List UInt8) (a k : Nat) (D : List UInt8) (ha : a < s.length) (hs : s.length ≤ 10000) (hm : (s.getD a 0).toNat = 45) (hk : spanR figI (s.drop (a + 1)) = k) (hD : (s.take ((a + 1) + k)).drop (a + 1) = D) (hDl : D.length = k) (h : 9 < k)  :
    (wi37 a s t0 t1) := by
  have hw1 : IntKind.i64.wrap ((a : Int) + 1) = ((a + 1 : Nat) : Int) := by rw [wr64 (by omega)]; rfl
  have hz0 : IntKind.i64.wrap ((a : Int) + 0) = (a : Int) := by rw [wr64 (by omega)]; omega
  have hsl := span_le' figI s (a := (a + 1)) (by omega)
  rw [hk] at hsl
  have hzk : IntKind.i64.wrap ((((a + 1) + k : Nat) : Int) + 0) = (((a + 1) + k : Nat) : Int) := by rw [wr64 (by omega)]; omega
  have hg0 : goI 0 = false := by decide
  have hb0 := u8nat (s.getD a 0)
  have hb1 := u8nat (s.getD ((a + 1) + k) 0)
  have E' := (⟨hw1, hz0, hk, hD, hzk, hg0⟩ : _ ∧ _ ∧ _ ∧ _ ∧ _ ∧ _)
  refine rEn baseNU 400 (99) 900 80 (hI 5 340) ([]) [(wi12 a s), (wi5 a s), (wi26 a s), (wi8 a s), (decide ((wi18 a s) > 9), true)] wi7 (oc5 ?_ ?_ ?_ ?_ ?_ okn) ?_
  all_goals try dsimp only [wi12, wi38, wi5, wi26, wi3, wi8, wi27, wi18, wi4, wi1, wi7, wi40]
  all_goals exact sc22

set_option maxHeartbeats 4000000 in
theorem nuAm (t0 t1 s : List UInt8) (a k : Nat) (D : List UInt8) (ha : a < s.length) (hs : s.length ≤ 10000) (hm : (s.getD a 0).toNat = 45) (hk : spanR figI (s.drop (a + 1)) = k) (hD : (s.take ((a + 1) + k)).drop (a + 1) = D) (hDl : D.length = k) (h : k = 0) (hDn : D = [])  :
    (wi9 a s t0 t1) := by
  have hw1 : IntKind.i64.wrap ((a : Int) + 1) = ((a + 1 : Nat) : Int) := by rw [wr64 (by omega)]; rfl
  have hz0 : IntKind.i64.wrap ((a : Int) + 0) = (a : Int) := by rw [wr64 (by omega)]; omega
  have hsl := span_le' figI s (a := (a + 1)) (by omega)
  rw [hk] at hsl
  have hzk : IntKind.i64.wrap ((((a + 1) + k : Nat) : Int) + 0) = (((a + 1) + k : Nat) : Int) := by rw [wr64 (by omega)]; omega
  have hg0 : goI 0 = false := by decide
  have hb0 := u8nat (s.getD a 0)
  have hb1 := u8nat (s.getD ((a + 1) + k) 0)
  have E' := (⟨hw1, hz0, hk, hD, hzk, hg0⟩ : _ ∧ _ ∧ _ ∧ _ ∧ _ ∧ _)
  refine rEn baseNU 400 (99) 900 80 (hI 6 1108) ([]) [(wi12 a s), (wi5 a s), (wi26 a s), (wi8 a s), (wi29 a s), (List.drop (wi27 a).toNat (List.take (wi1 a s) s) == [], true)] wi7 (oc6 ?_ ?_ ?_ ?_ ?_ ?_ okn) ?_
  all_goals try dsimp only [wi12, wi38, wi5, wi26, wi3, wi8, wi27, wi29, wi18, wi4, wi1, wi7, wi40]
  all_goals exact sc22

set_option maxHeartbeats 4000000 in
theorem nuBm (t0 t1 s : List UInt8) (a k : Nat) (D : List UInt8) (ha : a < s.length) (hs : s.length ≤ 10000) (hm : (s.getD a 0).toNat = 45) (hk : spanR figI (s.drop (a + 1)) = k) (hD : (s.take ((a + 1) + k)).drop (a + 1) = D) (hDl : D.length = k) (hk9 : k ≤ 9) (h : 1 < k) (h2 : (D.getD 0 0).toNat = 48)  :
    (wi9 a s t0 t1) := by
  have hw1 : IntKind.i64.wrap ((a : Int) + 1) = ((a + 1 : Nat) : Int) := by rw [wr64 (by omega)]; rfl
  have hz0 : IntKind.i64.wrap ((a : Int) + 0) = (a : Int) := by rw [wr64 (by omega)]; omega
  have hsl := span_le' figI s (a := (a + 1)) (by omega)
  rw [hk] at hsl
  have hzk : IntKind.i64.wrap ((((a + 1) + k : Nat) : Int) + 0) = (((a + 1) + k : Nat) : Int) := by rw [wr64 (by omega)]; omega
  have hg0 : goI 0 = false := by decide
  have hb0 := u8nat (s.getD a 0)
  have hb1 := u8nat (s.getD ((a + 1) + k) 0)
  have hDn : D ≠ [] := fun e => by rw [e] at hDl; simp at hDl; omega
  have E' := (⟨hw1, hz0, hk, hD, hzk, hg0, h2⟩ : _ ∧ _ ∧ _ ∧ _ ∧ _ ∧ _ ∧ _)
  refine rEn baseNU 400 (99) 900 80 (hI 9 86100) ([]) [(wi12 a s), (wi5 a s), (wi26 a s), (wi8 a s), (wi29 a s), (wi14 a s), (decide ((wi18 a s) > 1), true), (wi32 a s), ((wi34 a s) == 48, true)] wi7 (oc9 ?_ ?_ ?_ ?_ ?_ ?_ ?_ ?_ ?_ okn) ?_
  all_goals try dsimp only [wi12, wi38, wi5, wi26, wi3, wi8, wi27, wi29, wi18, wi4, wi1, wi14, wi32, wi34, wi7, wi40]
  all_goals exact sc22

set_option maxHeartbeats 4000000 in
theorem nuCm (t0 t1 s : List UInt8) (a k : Nat) (D : List UInt8) (ha : a < s.length) (hs : s.length ≤ 10000) (hm : (s.getD a 0).toNat = 45) (hk : spanR figI (s.drop (a + 1)) = k) (hD : (s.take ((a + 1) + k)).drop (a + 1) = D) (hDl : D.length = k) (h : D = [48])  :
    (wi9 a s t0 t1) := by
  have hw1 : IntKind.i64.wrap ((a : Int) + 1) = ((a + 1 : Nat) : Int) := by rw [wr64 (by omega)]; rfl
  have hz0 : IntKind.i64.wrap ((a : Int) + 0) = (a : Int) := by rw [wr64 (by omega)]; omega
  have hsl := span_le' figI s (a := (a + 1)) (by omega)
  rw [hk] at hsl
  have hzk : IntKind.i64.wrap ((((a + 1) + k : Nat) : Int) + 0) = (((a + 1) + k : Nat) : Int) := by rw [wr64 (by omega)]; omega
  have hg0 : goI 0 = false := by decide
  have hb0 := u8nat (s.getD a 0)
  have hb1 := u8nat (s.getD ((a + 1) + k) 0)
  have hk1 : k = 1 := by rw [← hDl, h]; rfl
  have E' := (⟨hw1, hz0, hk, hD, hzk, hg0, h⟩ : _ ∧ _ ∧ _ ∧ _ ∧ _ ∧ _ ∧ _)
  refine rEn baseNU 400 (99) 900 80 (hI 9 82004) ([]) [(wi12 a s), (wi5 a s), (wi26 a s), (wi8 a s), (wi29 a s), (wi14 a s), (decide ((wi18 a s) > 1), false), (wi26 a s), (List.drop (wi27 a).toNat (List.take (wi1 a s) s) == [(48 : UInt8)], true)] wi7 (oc9 ?_ ?_ ?_ ?_ ?_ ?_ ?_ ?_ ?_ okn) ?_
  all_goals try dsimp only [wi12, wi38, wi5, wi26, wi3, wi8, wi27, wi29, wi18, wi4, wi1, wi14, wi7, wi40]
  all_goals exact sc22

set_option maxHeartbeats 4000000 in
theorem nuGm (t0 t1 s : List UInt8) (a k : Nat) (D : List UInt8) (ha : a < s.length) (hs : s.length ≤ 10000) (hm : (s.getD a 0).toNat = 45) (hk : spanR figI (s.drop (a + 1)) = k) (hD : (s.take ((a + 1) + k)).drop (a + 1) = D) (hDl : D.length = k) (hk9 : k ≤ 9) (hk0 : 0 < k) (hz : ¬ (1 < k ∧ D.getD 0 0 = 48)) (hzm : D ≠ [48]) (hg1 : (a + 1) + k < s.length) (hg : goI ((s.getD ((a + 1) + k) 0).toNat : Int) = true)  :
    (wi9 a s t0 t1) := by
  have hw1 : IntKind.i64.wrap ((a : Int) + 1) = ((a + 1 : Nat) : Int) := by rw [wr64 (by omega)]; rfl
  have hz0 : IntKind.i64.wrap ((a : Int) + 0) = (a : Int) := by rw [wr64 (by omega)]; omega
  have hsl := span_le' figI s (a := (a + 1)) (by omega)
  rw [hk] at hsl
  have hzk : IntKind.i64.wrap ((((a + 1) + k : Nat) : Int) + 0) = (((a + 1) + k : Nat) : Int) := by rw [wr64 (by omega)]; omega
  have hg0 : goI 0 = false := by decide
  have hb0 := u8nat (s.getD a 0)
  have hb1 := u8nat (s.getD ((a + 1) + k) 0)
  have hDn : D ≠ [] := fun e => by rw [e] at hDl; simp at hDl; omega
  have hd0 := u8nat (D.getD 0 0)
  have hz' : 1 < k → (D.getD 0 0).toNat ≠ 48 := fun h1 e => hz ⟨h1, UInt8.toNat_inj.1 e⟩
  have E' := (⟨hw1, hz0, hk, hD, hzk, hg0, hg⟩ : _ ∧ _ ∧ _ ∧ _ ∧ _ ∧ _ ∧ _)
  refine bcase (fun gg0 => (rEn baseNU 400 (99) 900 80 (hI 13 30425172) ([]) [(wi12 a s), (wi5 a s), (wi26 a s), (wi8 a s), (wi29 a s), (wi14 a s), (decide ((wi18 a s) > 1), false), (wi26 a s), (wi15 a s), (wi25 a s), (wi17 a s), (goI (wi23 a s), true)] wi7 (oc3 ?_ ?_ ?_ (oc9 ?_ ?_ ?_ gg0 ?_ ?_ ?_ ?_ ?_ okn)) ?_)) fun gg0 => (rEn baseNU 400 (99) 900 80 (hI 15 486821972) ([]) [(wi12 a s), (wi5 a s), (wi26 a s), (wi8 a s), (wi29 a s), (wi14 a s), (decide ((wi18 a s) > 1), true), (wi32 a s), ((wi34 a s) == 48, false), (wi26 a s), (wi15 a s), (wi25 a s), (wi17 a s), (goI (wi23 a s), true)] wi7 (oc5 ?_ ?_ ?_ ?_ ?_ (oc9 ?_ gg0 ?_ ?_ ?_ ?_ ?_ ?_ ?_ okn)) ?_)
  all_goals try dsimp only [wi12, wi38, wi5, wi26, wi3, wi8, wi27, wi29, wi18, wi4, wi1, wi14, wi15, wi25, wi44, wi17, wi23, wi7, wi40, wi32, wi34] at *
  all_goals exact sc23

set_option maxHeartbeats 4000000 in
theorem nu0p (t0 t1 s : List UInt8) (a k : Nat) (D : List UInt8) (ha : a < s.length) (hs : s.length ≤ 10000) (hm : (s.getD a 0).toNat ≠ 45) (hk : spanR figI (s.drop a) = k) (hD : (s.take (a + k)).drop a = D) (hDl : D.length = k) (hk9 : k ≤ 9) (hk0 : 0 < k) (hz : ¬ (1 < k ∧ D.getD 0 0 = 48)) (hg : a + k < s.length → goI ((s.getD (a + k) 0).toNat : Int) = false)  (v : SV) (L' : HF) (next : (RunsTo Tryd.prog 92 (headOf Tryd.f92 0) (envAt Tryd.f92.ntmps ([(2, vP 120), (4, vB false), (6, vN 0), (wi42 D), (57, vN D.length), (58, vN (0 : Nat))])) (Sx.look (sentEnts 23 213 [(0, t0), (6, t1)] ++ (rdW 63 s (a + k : Nat) ++ (wi39 D)))) 80 (v) (L') 700)) :
    (RunsTo Tryd.prog 92 [.code (bodyOf Tryd.f92)] (envOf [vP 63] Tryd.f92.ntmps) (wi30 a s t0 t1) 80 (v) (L') 700) := by
  have hw1 : IntKind.i64.wrap ((a : Int) + 1) = ((a + 1 : Nat) : Int) := by rw [wr64 (by omega)]; rfl
  have hz0 : IntKind.i64.wrap ((a : Int) + 0) = (a : Int) := by rw [wr64 (by omega)]; omega
  have hsl := span_le' figI s (a := a) (by omega)
  rw [hk] at hsl
  have hzk : IntKind.i64.wrap (((a + k : Nat) : Int) + 0) = ((a + k : Nat) : Int) := by rw [wr64 (by omega)]; omega
  have hg0 : goI 0 = false := by decide
  have hb0 := u8nat (s.getD a 0)
  have hb1 := u8nat (s.getD (a + k) 0)
  have hDn : D ≠ [] := fun e => by rw [e] at hDl; simp at hDl; omega
  have hd0 := u8nat (D.getD 0 0)
  have hz' : 1 < k → (D.getD 0 0).toNat ≠ 48 := fun h1 e => hz ⟨h1, UInt8.toNat_inj.1 e⟩
  have hmb : ((((s.getD a 0).toNat : Nat) : Int) == 45) = false := beq_eq_false_iff_ne.2 (by omega)
  have E' := (⟨hw1, hz0, hk, hD, hzk, hg0, hmb⟩ : _ ∧ _ ∧ _ ∧ _ ∧ _ ∧ _ ∧ _)
  refine bcase (fun gg0 => (bcase (fun gg1 => (rMo baseNU 400 (behind Tryd.f92 0) 900 80 (hI 12 3407940) ([((120 : Nat), Rn.to (80 : Nat)), ((121 : Nat), Rn.to (171 : Nat))]) [(wi12 a s), (wi5 a s), (wi28 a s), (wi13 a s), (wi31 a s), (wi20 a s), (decide ((wi19 a s) > 1), false), (wi28 a s), (wi24 a s), (wi16 a s), (goI (wi22 a s), false)] (wi6 D a k s) next (oc2 ?_ ?_ (oc9 ?_ ?_ ?_ ?_ gg0 ?_ gg1 ?_ ?_ okn)) ?_)) fun gg1 => (rMo baseNU 400 (behind Tryd.f92 0) 900 80 (hI 11 2949188) ([((120 : Nat), Rn.to (80 : Nat)), ((121 : Nat), Rn.to (171 : Nat))]) [(wi12 a s), (wi5 a s), (wi28 a s), (wi13 a s), (wi31 a s), (wi20 a s), (decide ((wi19 a s) > 1), false), (wi28 a s), (decide (IntKind.i64.wrap (wi43 a s) ≥ (wi38 s)), true)] (wi6 D a k s) next (oc9 ?_ ?_ ?_ ?_ ?_ ?_ gg0 ?_ gg1 okn) ?_))) fun gg0 => (bcase (fun gg1 => (rMo baseNU 400 (behind Tryd.f92 0) 900 80 (hI 14 54546500) ([((120 : Nat), Rn.to (80 : Nat)), ((121 : Nat), Rn.to (171 : Nat))]) [(wi12 a s), (wi5 a s), (wi28 a s), (wi13 a s), (wi31 a s), (wi20 a s), (decide ((wi19 a s) > 1), true), (wi33 a s), ((wi35 a s) == 48, false), (wi28 a s), (wi24 a s), (wi16 a s), (goI (wi22 a s), false)] (wi6 D a k s) next (oc4 ?_ ?_ ?_ ?_ (oc9 ?_ ?_ gg0 ?_ ?_ ?_ gg1 ?_ ?_ okn)) ?_)) fun gg1 => (rMo baseNU 400 (behind Tryd.f92 0) 900 80 (hI 13 47206468) ([((120 : Nat), Rn.to (80 : Nat)), ((121 : Nat), Rn.to (171 : Nat))]) [(wi12 a s), (wi5 a s), (wi28 a s), (wi13 a s), (wi31 a s), (wi20 a s), (decide ((wi19 a s) > 1), true), (wi33 a s), ((wi35 a s) == 48, false), (wi28 a s), (decide (IntKind.i64.wrap (wi43 a s) ≥ (wi38 s)), true)] (wi6 D a k s) next (oc2 ?_ ?_ (oc9 ?_ ?_ ?_ ?_ gg0 ?_ ?_ ?_ gg1 okn)) ?_))
  all_goals clear next; try dsimp only [wi12, wi38, wi5, wi28, wi3, wi13, wi31, wi19, wi2, wi11, wi20, wi24, wi43, wi16, wi22, wi6, wi41, wi36, wi40, wi33, wi35] at *
  all_goals exact sc22

set_option maxHeartbeats 4000000 in
theorem nuLp (t0 t1 s : List UInt8) (a k : Nat) (D : List UInt8) (ha : a < s.length) (hs : s.length ≤ 10000) (hm : (s.getD a 0).toNat ≠ 45) (hk : spanR figI (s.drop a) = k) (hD : (s.take (a + k)).drop a = D) (hDl : D.length = k) (h : 9 < k)  :
    (wi37 a s t0 t1) := by
  have hw1 : IntKind.i64.wrap ((a : Int) + 1) = ((a + 1 : Nat) : Int) := by rw [wr64 (by omega)]; rfl
  have hz0 : IntKind.i64.wrap ((a : Int) + 0) = (a : Int) := by rw [wr64 (by omega)]; omega
  have hsl := span_le' figI s (a := a) (by omega)
  rw [hk] at hsl
  have hzk : IntKind.i64.wrap (((a + k : Nat) : Int) + 0) = ((a + k : Nat) : Int) := by rw [wr64 (by omega)]; omega
  have hg0 : goI 0 = false := by decide
  have hb0 := u8nat (s.getD a 0)
  have hb1 := u8nat (s.getD (a + k) 0)
  have E' := (⟨hw1, hz0, hk, hD, hzk, hg0⟩ : _ ∧ _ ∧ _ ∧ _ ∧ _ ∧ _)
  refine rEn baseNU 400 (99) 900 80 (hI 5 324) ([]) [(wi12 a s), (wi5 a s), (wi28 a s), (wi13 a s), (decide ((wi19 a s) > 9), true)] wi7 (oc5 ?_ ?_ ?_ ?_ ?_ okn) ?_
  all_goals try dsimp only [wi12, wi38, wi5, wi28, wi3, wi13, wi19, wi2, wi11, wi7, wi40]
  all_goals exact sc22

set_option maxHeartbeats 4000000 in
theorem nuAp (t0 t1 s : List UInt8) (a k : Nat) (D : List UInt8) (ha : a < s.length) (hs : s.length ≤ 10000) (hm : (s.getD a 0).toNat ≠ 45) (hk : spanR figI (s.drop a) = k) (hD : (s.take (a + k)).drop a = D) (hDl : D.length = k) (h : k = 0) (hDn : D = [])  :
    (wi9 a s t0 t1) := by
  have hw1 : IntKind.i64.wrap ((a : Int) + 1) = ((a + 1 : Nat) : Int) := by rw [wr64 (by omega)]; rfl
  have hz0 : IntKind.i64.wrap ((a : Int) + 0) = (a : Int) := by rw [wr64 (by omega)]; omega
  have hsl := span_le' figI s (a := a) (by omega)
  rw [hk] at hsl
  have hzk : IntKind.i64.wrap (((a + k : Nat) : Int) + 0) = ((a + k : Nat) : Int) := by rw [wr64 (by omega)]; omega
  have hg0 : goI 0 = false := by decide
  have hb0 := u8nat (s.getD a 0)
  have hb1 := u8nat (s.getD (a + k) 0)
  have E' := (⟨hw1, hz0, hk, hD, hzk, hg0⟩ : _ ∧ _ ∧ _ ∧ _ ∧ _ ∧ _)
  refine rEn baseNU 400 (99) 900 80 (hI 6 1092) ([]) [(wi12 a s), (wi5 a s), (wi28 a s), (wi13 a s), (wi31 a s), (List.drop (a : Int).toNat (List.take (wi11 a s) s) == [], true)] wi7 (oc6 ?_ ?_ ?_ ?_ ?_ ?_ okn) ?_
  all_goals try dsimp only [wi12, wi38, wi5, wi28, wi3, wi13, wi31, wi19, wi2, wi11, wi7, wi40]
  all_goals exact sc22

set_option maxHeartbeats 4000000 in
theorem nuBp (t0 t1 s : List UInt8) (a k : Nat) (D : List UInt8) (ha : a < s.length) (hs : s.length ≤ 10000) (hm : (s.getD a 0).toNat ≠ 45) (hk : spanR figI (s.drop a) = k) (hD : (s.take (a + k)).drop a = D) (hDl : D.length = k) (hk9 : k ≤ 9) (h : 1 < k) (h2 : (D.getD 0 0).toNat = 48)  :
    (wi9 a s t0 t1) := by
  have hw1 : IntKind.i64.wrap ((a : Int) + 1) = ((a + 1 : Nat) : Int) := by rw [wr64 (by omega)]; rfl
  have hz0 : IntKind.i64.wrap ((a : Int) + 0) = (a : Int) := by rw [wr64 (by omega)]; omega
  have hsl := span_le' figI s (a := a) (by omega)
  rw [hk] at hsl
  have hzk : IntKind.i64.wrap (((a + k : Nat) : Int) + 0) = ((a + k : Nat) : Int) := by rw [wr64 (by omega)]; omega
  have hg0 : goI 0 = false := by decide
  have hb0 := u8nat (s.getD a 0)
  have hb1 := u8nat (s.getD (a + k) 0)
  have hDn : D ≠ [] := fun e => by rw [e] at hDl; simp at hDl; omega
  have E' := (⟨hw1, hz0, hk, hD, hzk, hg0, h2⟩ : _ ∧ _ ∧ _ ∧ _ ∧ _ ∧ _ ∧ _)
  refine rEn baseNU 400 (99) 900 80 (hI 9 86084) ([]) [(wi12 a s), (wi5 a s), (wi28 a s), (wi13 a s), (wi31 a s), (wi20 a s), (decide ((wi19 a s) > 1), true), (wi33 a s), ((wi35 a s) == 48, true)] wi7 (oc9 ?_ ?_ ?_ ?_ ?_ ?_ ?_ ?_ ?_ okn) ?_
  all_goals try dsimp only [wi12, wi38, wi5, wi28, wi3, wi13, wi31, wi19, wi2, wi11, wi20, wi33, wi35, wi7, wi40]
  all_goals exact sc22

set_option maxHeartbeats 4000000 in
theorem nuGp (t0 t1 s : List UInt8) (a k : Nat) (D : List UInt8) (ha : a < s.length) (hs : s.length ≤ 10000) (hm : (s.getD a 0).toNat ≠ 45) (hk : spanR figI (s.drop a) = k) (hD : (s.take (a + k)).drop a = D) (hDl : D.length = k) (hk9 : k ≤ 9) (hk0 : 0 < k) (hz : ¬ (1 < k ∧ D.getD 0 0 = 48)) (hg1 : a + k < s.length) (hg : goI ((s.getD (a + k) 0).toNat : Int) = true)  :
    (wi9 a s t0 t1) := by
  have hw1 : IntKind.i64.wrap ((a : Int) + 1) = ((a + 1 : Nat) : Int) := by rw [wr64 (by omega)]; rfl
  have hz0 : IntKind.i64.wrap ((a : Int) + 0) = (a : Int) := by rw [wr64 (by omega)]; omega
  have hsl := span_le' figI s (a := a) (by omega)
  rw [hk] at hsl
  have hzk : IntKind.i64.wrap (((a + k : Nat) : Int) + 0) = ((a + k : Nat) : Int) := by rw [wr64 (by omega)]; omega
  have hg0 : goI 0 = false := by decide
  have hb0 := u8nat (s.getD a 0)
  have hb1 := u8nat (s.getD (a + k) 0)
  have hDn : D ≠ [] := fun e => by rw [e] at hDl; simp at hDl; omega
  have hd0 := u8nat (D.getD 0 0)
  have hz' : 1 < k → (D.getD 0 0).toNat ≠ 48 := fun h1 e => hz ⟨h1, UInt8.toNat_inj.1 e⟩
  have E' := (⟨hw1, hz0, hk, hD, hzk, hg0, hg⟩ : _ ∧ _ ∧ _ ∧ _ ∧ _ ∧ _ ∧ _)
  refine bcase (fun gg0 => (rEn baseNU 400 (99) 900 80 (hI 12 7602244) ([]) [(wi12 a s), (wi5 a s), (wi28 a s), (wi13 a s), (wi31 a s), (wi20 a s), (decide ((wi19 a s) > 1), false), (wi28 a s), (wi24 a s), (wi16 a s), (goI (wi22 a s), true)] wi7 (oc2 ?_ ?_ (oc9 ?_ ?_ ?_ ?_ gg0 ?_ ?_ ?_ ?_ okn)) ?_)) fun gg0 => (rEn baseNU 400 (99) 900 80 (hI 14 121655364) ([]) [(wi12 a s), (wi5 a s), (wi28 a s), (wi13 a s), (wi31 a s), (wi20 a s), (decide ((wi19 a s) > 1), true), (wi33 a s), ((wi35 a s) == 48, false), (wi28 a s), (wi24 a s), (wi16 a s), (goI (wi22 a s), true)] wi7 (oc4 ?_ ?_ ?_ ?_ (oc9 ?_ ?_ gg0 ?_ ?_ ?_ ?_ ?_ ?_ okn)) ?_)
  all_goals try dsimp only [wi12, wi38, wi5, wi28, wi3, wi13, wi31, wi19, wi2, wi11, wi20, wi24, wi43, wi16, wi22, wi7, wi40, wi33, wi35] at *
  all_goals exact sc23

set_option maxHeartbeats 4000000 in
theorem nuR (t0 t1 s : List UInt8) (e : Nat) (D : List UInt8) (m : Bool) (nn : Int) (i : Nat) (hi : i < D.length) (hDl : D.length ≤ 9) (hn : 0 ≤ nn ∧ nn ≤ 1000000000) (hd : 48 ≤ (D.getD i 0).toNat ∧ (D.getD i 0).toNat ≤ 57)  (v : SV) (L' : HF) (next : (RunsTo Tryd.prog 92 (headOf Tryd.f92 0) (envAt Tryd.f92.ntmps ([(2, vP 120), (4, vB m), (6, vN (10 * nn + (((D.getD i 0).toNat : Int) - 48))), (wi42 D), (57, vN D.length), (58, vN (i + 1 : Nat))])) (wi21 D e s t0 t1) 80 (v) (L') 700)) :
    (RunsTo Tryd.prog 92 (headOf Tryd.f92 0) (envAt Tryd.f92.ntmps ([(2, vP 120), (4, vB m), (6, vN nn), (wi42 D), (57, vN D.length), (58, vN (i : Nat))])) (wi21 D e s t0 t1) 80 (v) (L') 700) := by
  have hw : IntKind.i64.wrap ((i : Int) + 1) = ((i + 1 : Nat) : Int) := by rw [wr64 (by omega)]; rfl
  have h1 : IntKind.i64.wrap (10 * nn) = 10 * nn := wr64 (by omega)
  have h2 : IntKind.u8.wrap (((D.getD i 0).toNat : Int) - 48) = ((D.getD i 0).toNat : Int) - 48 := u8id (by omega)
  have h3 : IntKind.i64.wrap (((D.getD i 0).toNat : Int) - 48) = ((D.getD i 0).toNat : Int) - 48 := wr64 (by omega)
  have h4 : IntKind.i64.wrap (10 * nn + (((D.getD i 0).toNat : Int) - 48)) = 10 * nn + (((D.getD i 0).toNat : Int) - 48) := wr64 (by omega)
  have E' := (⟨hw, h1, h2, h3, h4⟩ : _ ∧ _ ∧ _ ∧ _ ∧ _)
  refine rMo baseNU 400 (behind Tryd.f92 0) 900 140 (hI 4 85) ([]) [(decide ((i : Int) < (wi41 D)), true), (decide (0 ≤ (i : Int) ∧ (i : Int) < (wi41 D)), true), ((0 + (i : Int).toNat).blt D.length, true), ((0 + (i : Int).toNat).blt D.length, true)] ((0 = 0 ∧ m = m ∧ (10 : Int) * nn + ((wi36 D i) - 48) = IntKind.i64.wrap (IntKind.i64.wrap ((10 : Int) * nn) + IntKind.i64.wrap (IntKind.u8.wrap ((↑(D.getD (0 + (i : Int).toNat) (0 : UInt8)).toNat : Int) - 48))) ∧ (0 = 0 ∧ D.length = D.length) ∧ (wi41 D) = (wi41 D) ∧ (↑(i + (1 : Nat)) : Int) = IntKind.i64.wrap ((i : Int) + 1)) ∧ (s = s ∧ (e : Int) = (e : Int)) ∧ (D.length = D.length ∧ ∀ (i : Nat), i < D.length → (wi36 D i) = (wi36 D i)) ∧ (0 : Int) = (0 : Int) ∧ wi40 = [] ∧ (0 : Int) = (0 : Int) ∧ True ∧ (0 : Int) = (0 : Int)) next (oc4 ?_ ?_ ?_ ?_ okn) ?_
  all_goals clear next; try dsimp only [wi41, wi36, wi40]
  all_goals exact sc24

set_option maxHeartbeats 4000000 in
theorem nuEm (t0 t1 s : List UInt8) (e : Nat) (D : List UInt8) (nn : Int) (i : Nat) (hi : i = D.length) (hn : 0 ≤ nn ∧ nn ≤ 1000000000)  :
    (RunsTo Tryd.prog 92 (headOf Tryd.f92 0) (envAt Tryd.f92.ntmps ([(2, vP 120), (4, vB true), (6, vN nn), (wi42 D), (57, vN D.length), (58, vN (i : Nat))])) (wi21 D e s t0 t1) 80 (.tup [(true, tkT (2) ([]) (-nn) .vl0), (false, .ve0)]) (Sx.look (rdW 63 s (e : Nat))) 700) := by
  have h0 : IntKind.i64.wrap (-nn) = -nn := wr64 (by omega)
  have h1 : IntKind.i64.wrap (0 - nn) = -nn := by rw [wr64 (by omega)]; omega
  have E' := (⟨h0, h1⟩ : _ ∧ _)
  refine rEn baseNU 400 (99) 900 140 (hI 2 12) ([]) [(decide ((i : Int) < (wi41 D)), false)] ((((2 : Int) = (2 : Int) ∧ wi40 = [] ∧ -nn = IntKind.i64.wrap ((0 : Int) - nn) ∧ True ∧ (0 : Int) = (0 : Int)) ∧ True ∧ True) ∧ s = s ∧ (e : Int) = (e : Int)) (oc1 ?_ okn) ?_
  all_goals try dsimp only [wi41, wi40]
  all_goals exact sc7

set_option maxHeartbeats 4000000 in
theorem nuEp (t0 t1 s : List UInt8) (e : Nat) (D : List UInt8) (nn : Int) (i : Nat) (hi : i = D.length) (hn : 0 ≤ nn ∧ nn ≤ 1000000000)  :
    (RunsTo Tryd.prog 92 (headOf Tryd.f92 0) (envAt Tryd.f92.ntmps ([(2, vP 120), (4, vB false), (6, vN nn), (wi42 D), (57, vN D.length), (58, vN (i : Nat))])) (wi21 D e s t0 t1) 80 (.tup [(true, tkT (2) ([]) (nn) .vl0), (false, .ve0)]) (Sx.look (rdW 63 s (e : Nat))) 700) := by
  have h0 : IntKind.i64.wrap (-nn) = -nn := wr64 (by omega)
  have h1 : IntKind.i64.wrap (0 - nn) = -nn := by rw [wr64 (by omega)]; omega
  have E' := (⟨h0, h1⟩ : _ ∧ _)
  refine rEn baseNU 400 (99) 900 140 (hI 2 8) ([]) [(decide ((i : Int) < (wi41 D)), false)] ((((2 : Int) = (2 : Int) ∧ wi40 = [] ∧ nn = nn ∧ True ∧ (0 : Int) = (0 : Int)) ∧ True ∧ True) ∧ s = s ∧ (e : Int) = (e : Int)) (oc1 ?_ okn) ?_
  all_goals try dsimp only [wi41, wi40]
  all_goals exact sc7

end Go.Proofs.YtaleenklamognaaDoor

set_option linter.unusedSimpArgs false
set_option linter.unusedVariables false
set_option maxRecDepth 100000
namespace Go.Proofs.YtaleenklamognaaDoor
open Go.Sx

open WordR
def NUR (s : List UInt8) (a : Nat) (X : SV → HF → Prop) : TR → Prop
  | .ok t n => X (.tup [(true, tkT (2) ([]) (t.num) .vl0), (false, .ve0)]) (Sx.look (rdW 63 s (a + n : Nat)))
  | .err e => (e = 4 ∧ X (.tup [(true, tkT (0) ([]) (0) .vl0), (false, vErr 0)]) (Sx.look [])) ∨ (e = 5 ∧ X (.tup [(true, tkT (0) ([]) (0) .vl0), (false, vErr 6)]) (Sx.look []))
theorem span_all (p : Int → Bool) : ∀ (l : List UInt8) (j : Nat), j < spanR p l → p (nat (l.getD j 0)) = true
  | [], j, h => by simp [spanR] at h
  | c :: r, j, h => by
    by_cases q : p (nat c) = true
    · rw [spanR, if_pos q] at h
      cases j with
      | zero => exact q
      | succ j => exact span_all p r j (by omega)
    · rw [spanR, if_neg q] at h; omega
theorem getD_take (l : List UInt8) {k j : Nat} (h : j < k) : (l.take k).getD j 0 = l.getD j 0 := by
  simp [List.getD_eq_getElem?_getD, List.getElem?_take, h]
theorem headD_getD (l : List UInt8) : l.headD 0 = l.getD 0 0 := by cases l <;> rfl
theorem nuLm' (t0 t1 s : List UInt8) (e : Nat) (D : List UInt8) (hD : D.length ≤ 9) (hd : ∀ j, j < D.length → figI (nat (D.getD j 0)) = true) : ∀ (k i : Nat) (nn : Int), i + k = D.length → 0 ≤ nn → nn < (10 ^ i : Nat) → RunsTo Tryd.prog 92 (headOf Tryd.f92 0) (envAt Tryd.f92.ntmps ([(2, vP 120), (4, vB true), (6, vN nn), (56, vL 121 1 D.length), (57, vN D.length), (58, vN (i : Nat))])) (Sx.look (sentEnts 23 213 [(0, t0), (6, t1)] ++ (rdW 63 s (e : Nat) ++ (bW 121 D ++ [⟨120, true, none, 5, tkT 0 [] 0 .vl0⟩])))) 80 (.tup [(true, tkT (2) ([]) (-(decA nn (D.drop i))) .vl0), (false, .ve0)]) (Sx.look (rdW 63 s (e : Nat))) 700 := by
  intro k
  induction k with
  | zero =>
    intro i nn hi h0 h1
    have hp : (10 ^ i : Nat) ≤ 10 ^ 9 := Nat.pow_le_pow_right (by decide) (by omega)
    rw [show D.drop i = [] from List.drop_eq_nil_of_le (by omega)]
    exact nuEm t0 t1 s e D nn i (by omega) ⟨h0, by omega⟩
  | succ k ih =>
    intro i nn hi h0 h1
    have hp : (10 ^ i : Nat) ≤ 10 ^ 8 := Nat.pow_le_pow_right (by decide) (by omega)
    have hf := hd i (by omega)
    unfold figI nat at hf
    have hf := of_decide_eq_true hf
    have hf2 : 48 ≤ (D.getD i 0).toNat ∧ (D.getD i 0).toNat ≤ 57 := by omega
    rw [drop_at D (by omega), decA]
    refine nuR t0 t1 s e D true nn i (by omega) hD ⟨h0, by omega⟩ hf2 _ _ (ih (i + 1) _ (by omega) (by omega) ?_)
    rw [Nat.pow_succ]; omega
theorem nuLp' (t0 t1 s : List UInt8) (e : Nat) (D : List UInt8) (hD : D.length ≤ 9) (hd : ∀ j, j < D.length → figI (nat (D.getD j 0)) = true) : ∀ (k i : Nat) (nn : Int), i + k = D.length → 0 ≤ nn → nn < (10 ^ i : Nat) → RunsTo Tryd.prog 92 (headOf Tryd.f92 0) (envAt Tryd.f92.ntmps ([(2, vP 120), (4, vB false), (6, vN nn), (56, vL 121 1 D.length), (57, vN D.length), (58, vN (i : Nat))])) (Sx.look (sentEnts 23 213 [(0, t0), (6, t1)] ++ (rdW 63 s (e : Nat) ++ (bW 121 D ++ [⟨120, true, none, 5, tkT 0 [] 0 .vl0⟩])))) 80 (.tup [(true, tkT (2) ([]) ((decA nn (D.drop i))) .vl0), (false, .ve0)]) (Sx.look (rdW 63 s (e : Nat))) 700 := by
  intro k
  induction k with
  | zero =>
    intro i nn hi h0 h1
    have hp : (10 ^ i : Nat) ≤ 10 ^ 9 := Nat.pow_le_pow_right (by decide) (by omega)
    rw [show D.drop i = [] from List.drop_eq_nil_of_le (by omega)]
    exact nuEp t0 t1 s e D nn i (by omega) ⟨h0, by omega⟩
  | succ k ih =>
    intro i nn hi h0 h1
    have hp : (10 ^ i : Nat) ≤ 10 ^ 8 := Nat.pow_le_pow_right (by decide) (by omega)
    have hf := hd i (by omega)
    unfold figI nat at hf
    have hf := of_decide_eq_true hf
    have hf2 : 48 ≤ (D.getD i 0).toNat ∧ (D.getD i 0).toNat ≤ 57 := by omega
    rw [drop_at D (by omega), decA]
    refine nuR t0 t1 s e D false nn i (by omega) hD ⟨h0, by omega⟩ hf2 _ _ (ih (i + 1) _ (by omega) (by omega) ?_)
    rw [Nat.pow_succ]; omega
theorem nuKm (t0 t1 s : List UInt8) (a : Nat) (ha : a < s.length) (hs : s.length ≤ 10000) (hm : (s.getD a 0).toNat = 45) : NUR s a (fun v L' => RunsTo Tryd.prog 92 [.code (bodyOf Tryd.f92)] (envOf [vP 63] Tryd.f92.ntmps) (Sx.look (sentEnts 23 213 [(0, t0), (6, t1)] ++ (rdW 63 s (a : Nat)))) 80 (v) (L') 700) (numK true (s.drop (a + 1))) := by
  have hle := span_le' figI s (a := (a + 1)) (by omega)
  have hall := span_all figI (s.drop (a + 1))
  unfold numK
  generalize hk : spanR figI (s.drop (a + 1)) = k at *
  have hD : (s.take ((a + 1) + k)).drop (a + 1) = (s.drop (a + 1)).take k := take_drop _ _ _
  have hDl : ((s.drop (a + 1)).take k).length = k := by rw [List.length_take, List.length_drop]; omega
  have hdig : ∀ j, j < ((s.drop (a + 1)).take k).length → figI (nat (((s.drop (a + 1)).take k).getD j 0)) = true := fun j hj => by
    rw [getD_take _ (by omega)]; exact hall j (by omega)
  have hhd : 0 < k → (s.drop (a + 1)).headD 0 = ((s.drop (a + 1)).take k).getD 0 0 := fun h => by rw [getD_take _ h, headD_getD]
  have hnx : ((s.drop (a + 1)).drop k).headD 0 = s.getD ((a + 1) + k) 0 := by rw [List.drop_drop, head_drop]
  rw [hnx]
  generalize (s.drop (a + 1)).take k = D at *
  by_cases h9 : 9 < k
  · rw [if_pos h9]; exact .inl ⟨rfl, nuLm t0 t1 s a k D ha hs hm hk hD hDl h9⟩
  rw [if_neg h9]
  by_cases h0 : k = 0
  · rw [if_pos (.inl h0)]; exact .inr ⟨rfl, nuAm t0 t1 s a k D ha hs hm hk hD hDl h0 (List.length_eq_zero_iff.1 (by omega))⟩
  by_cases h1 : 1 < k ∧ (s.drop (a + 1)).headD 0 = 48
  · rw [if_pos (.inr (.inl h1))]; exact .inr ⟨rfl, nuBm t0 t1 s a k D ha hs hm hk hD hDl (by omega) h1.1 (by rw [← hhd (by omega), h1.2]; rfl)⟩
  have hz : ¬ (1 < k ∧ D.getD 0 0 = 48) := fun e => h1 ⟨e.1, by rw [hhd (by omega)]; exact e.2⟩
  by_cases h2 : true = true ∧ D = [48]
  · rw [if_pos (.inr (.inr (.inl h2)))]; exact .inr ⟨rfl, nuCm t0 t1 s a k D ha hs hm hk hD hDl h2.2⟩
  cases hg : goI (nat (s.getD ((a + 1) + k) 0)) with
  | true =>
    have hg1 : (a + 1) + k < s.length := by
      refine Nat.lt_of_not_le fun q => ?_
      rw [List.getD_eq_getElem?_getD, List.getElem?_eq_none q] at hg
      exact absurd hg (by decide)
    rw [if_pos (.inr (.inr (.inr rfl)))]
    exact .inr ⟨rfl, nuGm t0 t1 s a k D ha hs hm hk hD hDl (by omega) (by omega) hz (fun e => h2 ⟨rfl, e⟩) hg1 hg⟩
  | false =>
    rw [if_neg (by rintro (e | e | e | e); exact h0 e; exact h1 e; exact h2 e; exact absurd e (by decide))]
    have q := nuLm' t0 t1 s ((a + 1) + k) D (by omega) hdig D.length 0 0 (by omega) (by omega) (by decide)
    rw [List.drop_zero] at q
    have st := nu0m t0 t1 s a k D ha hs hm hk hD hDl (by omega) (by omega) hz (fun e => h2 ⟨rfl, e⟩) (fun _ => hg) _ _ q
    show RunsTo _ _ _ _ _ _ _ (Sx.look (rdW 63 s ((a + (k + if true = true then 1 else 0) : Nat)))) _
    rw [show a + (k + if true = true then 1 else 0) = (a + 1) + k by rw [if_pos rfl]; omega]
    exact st
theorem nuKp (t0 t1 s : List UInt8) (a : Nat) (ha : a < s.length) (hs : s.length ≤ 10000) (hm : (s.getD a 0).toNat ≠ 45) : NUR s a (fun v L' => RunsTo Tryd.prog 92 [.code (bodyOf Tryd.f92)] (envOf [vP 63] Tryd.f92.ntmps) (Sx.look (sentEnts 23 213 [(0, t0), (6, t1)] ++ (rdW 63 s (a : Nat)))) 80 (v) (L') 700) (numK false (s.drop a)) := by
  have hle := span_le' figI s (a := a) (by omega)
  have hall := span_all figI (s.drop a)
  unfold numK
  generalize hk : spanR figI (s.drop a) = k at *
  have hD : (s.take (a + k)).drop a = (s.drop a).take k := take_drop _ _ _
  have hDl : ((s.drop a).take k).length = k := by rw [List.length_take, List.length_drop]; omega
  have hdig : ∀ j, j < ((s.drop a).take k).length → figI (nat (((s.drop a).take k).getD j 0)) = true := fun j hj => by
    rw [getD_take _ (by omega)]; exact hall j (by omega)
  have hhd : 0 < k → (s.drop a).headD 0 = ((s.drop a).take k).getD 0 0 := fun h => by rw [getD_take _ h, headD_getD]
  have hnx : ((s.drop a).drop k).headD 0 = s.getD (a + k) 0 := by rw [List.drop_drop, head_drop]
  rw [hnx]
  generalize (s.drop a).take k = D at *
  by_cases h9 : 9 < k
  · rw [if_pos h9]; exact .inl ⟨rfl, nuLp t0 t1 s a k D ha hs hm hk hD hDl h9⟩
  rw [if_neg h9]
  by_cases h0 : k = 0
  · rw [if_pos (.inl h0)]; exact .inr ⟨rfl, nuAp t0 t1 s a k D ha hs hm hk hD hDl h0 (List.length_eq_zero_iff.1 (by omega))⟩
  by_cases h1 : 1 < k ∧ (s.drop a).headD 0 = 48
  · rw [if_pos (.inr (.inl h1))]; exact .inr ⟨rfl, nuBp t0 t1 s a k D ha hs hm hk hD hDl (by omega) h1.1 (by rw [← hhd (by omega), h1.2]; rfl)⟩
  have hz : ¬ (1 < k ∧ D.getD 0 0 = 48) := fun e => h1 ⟨e.1, by rw [hhd (by omega)]; exact e.2⟩
  cases hg : goI (nat (s.getD (a + k) 0)) with
  | true =>
    have hg1 : a + k < s.length := by
      refine Nat.lt_of_not_le fun q => ?_
      rw [List.getD_eq_getElem?_getD, List.getElem?_eq_none q] at hg
      exact absurd hg (by decide)
    rw [if_pos (.inr (.inr (.inr rfl)))]
    exact .inr ⟨rfl, nuGp t0 t1 s a k D ha hs hm hk hD hDl (by omega) (by omega) hz hg1 hg⟩
  | false =>
    rw [if_neg (by rintro (e | e | e | e); exact h0 e; exact h1 e; exact absurd e.1 (by decide); exact absurd e (by decide))]
    have q := nuLp' t0 t1 s (a + k) D (by omega) hdig D.length 0 0 (by omega) (by omega) (by decide)
    rw [List.drop_zero] at q
    have st := nu0p t0 t1 s a k D ha hs hm hk hD hDl (by omega) (by omega) hz (fun _ => hg) _ _ q
    show RunsTo _ _ _ _ _ _ _ (Sx.look (rdW 63 s ((a + (k + if false = true then 1 else 0) : Nat)))) _
    rw [show a + (k + if false = true then 1 else 0) = a + k by rw [if_neg (by decide)]; omega]
    exact st
theorem nuT (t0 t1 s : List UInt8) (a : Nat) (ha : a < s.length) (hs : s.length ≤ 10000) : NUR s a (fun v L' => RunsTo Tryd.prog 92 [.code (bodyOf Tryd.f92)] (envOf [vP 63] Tryd.f92.ntmps) (Sx.look (sentEnts 23 213 [(0, t0), (6, t1)] ++ (rdW 63 s (a : Nat)))) 80 (v) (L') 700) (numberR (s.drop a)) := by
  have e : numberR (s.drop a) = if s.getD a 0 = 45 then numK true (s.drop (a + 1)) else numK false (s.drop a) := by rw [drop_at s ha]; rfl
  rw [e]
  by_cases h : s.getD a 0 = 45
  · rw [if_pos h]; exact nuKm t0 t1 s a ha hs (by rw [h]; rfl)
  · rw [if_neg h]; exact nuKp t0 t1 s a ha hs (nat_ne h)
theorem nuOkT (t0 t1 s : List UInt8) (a : Nat) (ha : a < s.length) (hs : s.length ≤ 10000) (h : isOkR (numberR (s.drop a)) = true) : RunsTo Tryd.prog 92 [.code (bodyOf Tryd.f92)] (envOf [vP 63] Tryd.f92.ntmps) (Sx.look (sentEnts 23 213 [(0, t0), (6, t1)] ++ (rdW 63 s (a : Nat)))) 80 (.tup [(true, tkT (2) ([]) ((okT (numberR (s.drop a))).num) .vl0), (false, .ve0)]) (Sx.look (rdW 63 s (a + okN (numberR (s.drop a)) : Nat))) 700 := by
  have q := nuT t0 t1 s a ha hs
  cases hz : (numberR (s.drop a)) with
  | ok t m => rw [hz] at q; exact q
  | err e =>
    rw [hz] at h; cases h
theorem nuFoT (t0 t1 s : List UInt8) (a : Nat) (ha : a < s.length) (hs : s.length ≤ 10000) (h : isErR 5 (numberR (s.drop a)) = true) : RunsTo Tryd.prog 92 [.code (bodyOf Tryd.f92)] (envOf [vP 63] Tryd.f92.ntmps) (Sx.look (sentEnts 23 213 [(0, t0), (6, t1)] ++ (rdW 63 s (a : Nat)))) 80 (.tup [(true, tkT (0) ([]) (0) .vl0), (false, vErr 6)]) (Sx.look ([])) 700 := by
  have q := nuT t0 t1 s a ha hs
  cases hz : (numberR (s.drop a)) with
  | ok t m =>
    rw [hz] at h; cases h
  | err e =>
    rw [hz] at h q
    have he : e = 5 := by simpa [isErR] using h
    subst he
    simpa [NUR] using q
theorem nuLoT (t0 t1 s : List UInt8) (a : Nat) (ha : a < s.length) (hs : s.length ≤ 10000) (h : isErR 4 (numberR (s.drop a)) = true) : RunsTo Tryd.prog 92 [.code (bodyOf Tryd.f92)] (envOf [vP 63] Tryd.f92.ntmps) (Sx.look (sentEnts 23 213 [(0, t0), (6, t1)] ++ (rdW 63 s (a : Nat)))) 80 (.tup [(true, tkT (0) ([]) (0) .vl0), (false, vErr 0)]) (Sx.look ([])) 700 := by
  have q := nuT t0 t1 s a ha hs
  cases hz : (numberR (s.drop a)) with
  | ok t m =>
    rw [hz] at h; cases h
  | err e =>
    rw [hz] at h q
    have he : e = 4 := by simpa [isErR] using h
    subst he
    simpa [NUR] using q
def nuOkP : PC := { args := [.v (.vp 63)], heap := [⟨63, true, 2, .tc (.vs 0) (.tc (.vi .i64 1) .t0)⟩], gs := [0, 6], G := 23, tp := 213, n := 80, n' := 700, cond := fun e => decide (0 ≤ eI e 1 []) && (decide ((eI e 1 []).toNat < (eS e 0 []).length) && (decide ((eS e 0 []).length ≤ 10000) && isOkR (numberR ((eS e 0 []).drop (eI e 1 []).toNat)))), v := fun e => .tup [(true, tkT (2) ([]) ((okT (numberR ((eS e 0 []).drop (eI e 1 []).toNat))).num) .vl0), (false, .ve0)], post := fun e => rdW 63 (eS e 0 []) ((eI e 1 []).toNat + okN (numberR ((eS e 0 []).drop (eI e 1 []).toNat)) : Nat) }
theorem nuOkP_pc : PC.Runs Tryd.prog 92 Tryd.f92 (bodyOf Tryd.f92) nuOkP := ⟨Tryd.func92, by kernel_rfl, (fun g hg => by first | (cases hg; done) | (revert g; show ∀ g ∈ ([0, 6] : List Nat), g < 23; decide)), fun e H hc => by
  have hc : (decide (0 ≤ eI e 1 []) && (decide ((eI e 1 []).toNat < (eS e 0 []).length) && (decide ((eS e 0 []).length ≤ 10000) && isOkR (numberR ((eS e 0 []).drop (eI e 1 []).toNat))))) = true := hc
  try simp only [Bool.and_eq_true, decide_eq_true_eq, Nat.beq_eq] at hc
  exact by obtain ⟨h1, h2, h3, h4⟩ := hc; have hj : ((eI e 1 []).toNat : Int) = eI e 1 [] := Int.toNat_of_nonneg h1; have q := nuOkT (textAt H 23) (textAt H 29) (eS e 0 []) (eI e 1 []).toNat h2 h3 h4; rw [hj] at q; exact q⟩
def nuFoP : PC := { args := [.v (.vp 63)], heap := [⟨63, true, 2, .tc (.vs 0) (.tc (.vi .i64 1) .t0)⟩], gs := [0, 6], G := 23, tp := 213, n := 80, n' := 700, cond := fun e => decide (0 ≤ eI e 1 []) && (decide ((eI e 1 []).toNat < (eS e 0 []).length) && (decide ((eS e 0 []).length ≤ 10000) && isErR 5 (numberR ((eS e 0 []).drop (eI e 1 []).toNat)))), v := fun e => .tup [(true, tkT (0) ([]) (0) .vl0), (false, vErr 6)], post := fun e => [] }
theorem nuFoP_pc : PC.Runs Tryd.prog 92 Tryd.f92 (bodyOf Tryd.f92) nuFoP := ⟨Tryd.func92, by kernel_rfl, (fun g hg => by first | (cases hg; done) | (revert g; show ∀ g ∈ ([0, 6] : List Nat), g < 23; decide)), fun e H hc => by
  have hc : (decide (0 ≤ eI e 1 []) && (decide ((eI e 1 []).toNat < (eS e 0 []).length) && (decide ((eS e 0 []).length ≤ 10000) && isErR 5 (numberR ((eS e 0 []).drop (eI e 1 []).toNat))))) = true := hc
  try simp only [Bool.and_eq_true, decide_eq_true_eq, Nat.beq_eq] at hc
  exact by obtain ⟨h1, h2, h3, h4⟩ := hc; have hj : ((eI e 1 []).toNat : Int) = eI e 1 [] := Int.toNat_of_nonneg h1; have q := nuFoT (textAt H 23) (textAt H 29) (eS e 0 []) (eI e 1 []).toNat h2 h3 h4; rw [hj] at q; exact q⟩
def nuLoP : PC := { args := [.v (.vp 63)], heap := [⟨63, true, 2, .tc (.vs 0) (.tc (.vi .i64 1) .t0)⟩], gs := [0, 6], G := 23, tp := 213, n := 80, n' := 700, cond := fun e => decide (0 ≤ eI e 1 []) && (decide ((eI e 1 []).toNat < (eS e 0 []).length) && (decide ((eS e 0 []).length ≤ 10000) && isErR 4 (numberR ((eS e 0 []).drop (eI e 1 []).toNat)))), v := fun e => .tup [(true, tkT (0) ([]) (0) .vl0), (false, vErr 0)], post := fun e => [] }
theorem nuLoP_pc : PC.Runs Tryd.prog 92 Tryd.f92 (bodyOf Tryd.f92) nuLoP := ⟨Tryd.func92, by kernel_rfl, (fun g hg => by first | (cases hg; done) | (revert g; show ∀ g ∈ ([0, 6] : List Nat), g < 23; decide)), fun e H hc => by
  have hc : (decide (0 ≤ eI e 1 []) && (decide ((eI e 1 []).toNat < (eS e 0 []).length) && (decide ((eS e 0 []).length ≤ 10000) && isErR 4 (numberR ((eS e 0 []).drop (eI e 1 []).toNat))))) = true := hc
  try simp only [Bool.and_eq_true, decide_eq_true_eq, Nat.beq_eq] at hc
  exact by obtain ⟨h1, h2, h3, h4⟩ := hc; have hj : ((eI e 1 []).toNat : Int) = eI e 1 [] := Int.toNat_of_nonneg h1; have q := nuLoT (textAt H 23) (textAt H 29) (eS e 0 []) (eI e 1 []).toNat h2 h3 h4; rw [hj] at q; exact q⟩

variable (a : Nat) (s t1 : List UInt8)
abbrev wj1 := upd (upd (upd (upd (upd (upd (upd (fun is => []) [(0 : Nat)] [(61 : UInt8), (61 : UInt8)]) [(1 : Nat)] [(33 : UInt8), (61 : UInt8)]) [(2 : Nat)] [(60 : UInt8), (61 : UInt8)]) [(3 : Nat)] [(62 : UInt8), (61 : UInt8)]) [(4 : Nat)] [(123 : UInt8)]) [(5 : Nat)] [(125 : UInt8)]) [(6 : Nat)] [(60 : UInt8)]
abbrev wj4 := List.drop (a : Int).toNat (List.take s.length s)
abbrev wj2 := (↑(wj4 a s).length : Int)
abbrev wj3 := (decide (0 ≤ (a : Int) ∧ (a : Int) ≤ (↑s.length : Int)), true)
abbrev wj25 := (↑(2 : Nat) : Int)
abbrev wj5 := (decide (0 ≤ wj25 ∧ wj25 ≤ (wj2 a s)), true)
abbrev wj26 := (↑(1 : Nat) : Int)
abbrev wj6 := (decide (0 ≤ wj26 ∧ wj26 ≤ (wj2 a s)), true)
abbrev wj7 := (decide ((wj2 a s) ≥ wj25), true)
abbrev wj8 := (decide ((wj2 a s) ≥ wj26), true)
abbrev wj9 := (decide ((wj2 a s) ≥ wj25), false)
abbrev wj24 := List.take (2 : Nat) (wj4 a s)
abbrev wj10 := (List.drop (0 : Nat) (wj24 a s) == upd wj1 [(7 : Nat)] [(62 : UInt8)] [(0 : Nat)], false)
abbrev wj22 := List.take (1 : Nat) (wj4 a s)
abbrev wj11 := (List.drop (0 : Nat) (wj22 a s) == upd wj1 [(7 : Nat)] [(62 : UInt8)] [(4 : Nat)], false)
abbrev wj12 := (List.drop (0 : Nat) (wj24 a s) == upd wj1 [(7 : Nat)] [(62 : UInt8)] [(1 : Nat)], false)
abbrev wj13 := (List.drop (0 : Nat) (wj24 a s) == upd wj1 [(7 : Nat)] [(62 : UInt8)] [(2 : Nat)], false)
abbrev wj14 := (List.drop (0 : Nat) (wj22 a s) == upd wj1 [(7 : Nat)] [(62 : UInt8)] [(5 : Nat)], false)
abbrev wj15 := (List.drop (0 : Nat) (wj24 a s) == upd wj1 [(7 : Nat)] [(62 : UInt8)] [(3 : Nat)], false)
abbrev wj16 := Sx.look (sentEnts 23 213 [(6, t1)] ++ (rdW 63 s (a : Nat)))
abbrev wj17 := (List.drop (0 : Nat) (wj22 a s) == upd wj1 [(7 : Nat)] [(62 : UInt8)] [(6 : Nat)], false)
abbrev wj18 := (((4 : Int) = (4 : Int) ∧ [(123 : UInt8)] = upd wj1 [(7 : Nat)] [(62 : UInt8)] [(4 : Nat)] ∧ (0 : Int) = (0 : Int) ∧ True ∧ (0 : Int) = (0 : Int)) ∧ True ∧ True) ∧ s = s ∧ (↑(a + (1 : Nat)) : Int) = IntKind.i64.wrap ((a : Int) + wj26)
abbrev wj19 := (((4 : Int) = (4 : Int) ∧ [(125 : UInt8)] = upd wj1 [(7 : Nat)] [(62 : UInt8)] [(5 : Nat)] ∧ (0 : Int) = (0 : Int) ∧ True ∧ (0 : Int) = (0 : Int)) ∧ True ∧ True) ∧ s = s ∧ (↑(a + (1 : Nat)) : Int) = IntKind.i64.wrap ((a : Int) + wj26)
abbrev wj20 := (((4 : Int) = (4 : Int) ∧ [(60 : UInt8)] = upd wj1 [(7 : Nat)] [(62 : UInt8)] [(6 : Nat)] ∧ (0 : Int) = (0 : Int) ∧ True ∧ (0 : Int) = (0 : Int)) ∧ True ∧ True) ∧ s = s ∧ (↑(a + (1 : Nat)) : Int) = IntKind.i64.wrap ((a : Int) + wj26)
abbrev wj21 := (((4 : Int) = (4 : Int) ∧ [(62 : UInt8)] = upd wj1 [(7 : Nat)] [(62 : UInt8)] [(7 : Nat)] ∧ (0 : Int) = (0 : Int) ∧ True ∧ (0 : Int) = (0 : Int)) ∧ True ∧ True) ∧ s = s ∧ (↑(a + (1 : Nat)) : Int) = IntKind.i64.wrap ((a : Int) + wj26)
abbrev wj23 := (((0 : Int) = (0 : Int) ∧ ([] : List UInt8) = [] ∧ (0 : Int) = (0 : Int) ∧ True ∧ (0 : Int) = (0 : Int)) ∧ 0 = 0 ∧ True) ∧ True
abbrev wj27 := (List.drop (0 : Nat) (wj22 a s) == upd wj1 [(7 : Nat)] [(62 : UInt8)] [(7 : Nat)], false)
abbrev wj28 := (List.drop (0 : Nat) (wj22 a s) == upd wj1 [(7 : Nat)] [(62 : UInt8)] [(6 : Nat)], true)
abbrev wj29 := (List.drop (0 : Nat) (wj22 a s) == upd wj1 [(7 : Nat)] [(62 : UInt8)] [(7 : Nat)], true)
abbrev wj30 := (List.drop (0 : Nat) (wj22 a s) == upd wj1 [(7 : Nat)] [(62 : UInt8)] [(4 : Nat)], true)
abbrev wj31 := (List.drop (0 : Nat) (wj22 a s) == upd wj1 [(7 : Nat)] [(62 : UInt8)] [(5 : Nat)], true)
theorem wjc1 : (upd (upd (upd (upd (upd (upd (upd (upd (fun is => ([] : List UInt8)) [(0 : Nat)] ([61, 61] : List UInt8)) [(1 : Nat)] ([33, 61] : List UInt8)) [(2 : Nat)] ([60, 61] : List UInt8)) [(3 : Nat)] ([62, 61] : List UInt8)) [(4 : Nat)] ([123] : List UInt8)) [(5 : Nat)] ([125] : List UInt8)) [(6 : Nat)] ([60] : List UInt8)) [(7 : Nat)] ([62] : List UInt8)) [(0 : Nat)] = ([61, 61] : List UInt8) := rfl
theorem wjc2 : (upd (upd (upd (upd (upd (upd (upd (upd (fun is => ([] : List UInt8)) [(0 : Nat)] ([61, 61] : List UInt8)) [(1 : Nat)] ([33, 61] : List UInt8)) [(2 : Nat)] ([60, 61] : List UInt8)) [(3 : Nat)] ([62, 61] : List UInt8)) [(4 : Nat)] ([123] : List UInt8)) [(5 : Nat)] ([125] : List UInt8)) [(6 : Nat)] ([60] : List UInt8)) [(7 : Nat)] ([62] : List UInt8)) [(1 : Nat)] = ([33, 61] : List UInt8) := rfl
theorem wjc3 : (upd (upd (upd (upd (upd (upd (upd (upd (fun is => ([] : List UInt8)) [(0 : Nat)] ([61, 61] : List UInt8)) [(1 : Nat)] ([33, 61] : List UInt8)) [(2 : Nat)] ([60, 61] : List UInt8)) [(3 : Nat)] ([62, 61] : List UInt8)) [(4 : Nat)] ([123] : List UInt8)) [(5 : Nat)] ([125] : List UInt8)) [(6 : Nat)] ([60] : List UInt8)) [(7 : Nat)] ([62] : List UInt8)) [(2 : Nat)] = ([60, 61] : List UInt8) := rfl
theorem wjc4 : (upd (upd (upd (upd (upd (upd (upd (upd (fun is => ([] : List UInt8)) [(0 : Nat)] ([61, 61] : List UInt8)) [(1 : Nat)] ([33, 61] : List UInt8)) [(2 : Nat)] ([60, 61] : List UInt8)) [(3 : Nat)] ([62, 61] : List UInt8)) [(4 : Nat)] ([123] : List UInt8)) [(5 : Nat)] ([125] : List UInt8)) [(6 : Nat)] ([60] : List UInt8)) [(7 : Nat)] ([62] : List UInt8)) [(3 : Nat)] = ([62, 61] : List UInt8) := rfl
theorem wjc5 : (upd (upd (upd (upd (upd (upd (upd (upd (fun is => ([] : List UInt8)) [(0 : Nat)] ([61, 61] : List UInt8)) [(1 : Nat)] ([33, 61] : List UInt8)) [(2 : Nat)] ([60, 61] : List UInt8)) [(3 : Nat)] ([62, 61] : List UInt8)) [(4 : Nat)] ([123] : List UInt8)) [(5 : Nat)] ([125] : List UInt8)) [(6 : Nat)] ([60] : List UInt8)) [(7 : Nat)] ([62] : List UInt8)) [(4 : Nat)] = ([123] : List UInt8) := rfl
theorem wjc6 : (upd (upd (upd (upd (upd (upd (upd (upd (fun is => ([] : List UInt8)) [(0 : Nat)] ([61, 61] : List UInt8)) [(1 : Nat)] ([33, 61] : List UInt8)) [(2 : Nat)] ([60, 61] : List UInt8)) [(3 : Nat)] ([62, 61] : List UInt8)) [(4 : Nat)] ([123] : List UInt8)) [(5 : Nat)] ([125] : List UInt8)) [(6 : Nat)] ([60] : List UInt8)) [(7 : Nat)] ([62] : List UInt8)) [(5 : Nat)] = ([125] : List UInt8) := rfl
theorem wjc7 : (upd (upd (upd (upd (upd (upd (upd (upd (fun is => ([] : List UInt8)) [(0 : Nat)] ([61, 61] : List UInt8)) [(1 : Nat)] ([33, 61] : List UInt8)) [(2 : Nat)] ([60, 61] : List UInt8)) [(3 : Nat)] ([62, 61] : List UInt8)) [(4 : Nat)] ([123] : List UInt8)) [(5 : Nat)] ([125] : List UInt8)) [(6 : Nat)] ([60] : List UInt8)) [(7 : Nat)] ([62] : List UInt8)) [(6 : Nat)] = ([60] : List UInt8) := rfl
theorem wjc8 : (upd (upd (upd (upd (upd (upd (upd (upd (fun is => ([] : List UInt8)) [(0 : Nat)] ([61, 61] : List UInt8)) [(1 : Nat)] ([33, 61] : List UInt8)) [(2 : Nat)] ([60, 61] : List UInt8)) [(3 : Nat)] ([62, 61] : List UInt8)) [(4 : Nat)] ([123] : List UInt8)) [(5 : Nat)] ([125] : List UInt8)) [(6 : Nat)] ([60] : List UInt8)) [(7 : Nat)] ([62] : List UInt8)) [(7 : Nat)] = ([62] : List UInt8) := rfl
set_option maxHeartbeats 4000000 in
theorem sgEE (t1 s : List UInt8) (a : Nat) (ha : a < s.length) (hs : s.length ≤ 10000) (h1 : a + 1 < s.length) (h2 : s.getD a 0 = 61) (h3 : s.getD (a + 1) 0 = 61)  :
    (RunsTo Tryd.prog 94 [.code (bodyOf Tryd.f94)] (envOf [vP 63] Tryd.f94.ntmps) (wj16 a s t1) 80 (.tup [(true, tkT (4) ([61, 61]) (0) .vl0), (false, .ve0)]) (Sx.look (rdW 63 s (a + 2 : Nat))) 700) := by
  have hw1 : IntKind.i64.wrap ((a : Int) + 1) = ((a + 1 : Nat) : Int) := by rw [wr64 (by omega)]; rfl
  have hw2 : IntKind.i64.wrap ((a : Int) + 2) = ((a + 2 : Nat) : Int) := by rw [wr64 (by omega)]; omega
  have hl0 : (s.drop a).length = s.length - a := List.length_drop
  have ht1 : (s.drop a).take 1 = [s.getD a 0] := by rw [drop_at s ha]; rfl
  have ht2 : a + 1 < s.length → (s.drop a).take 2 = [s.getD a 0, s.getD (a + 1) 0] := fun q => by rw [drop_at s ha, drop_at s q]; rfl
  have hU0 := wjc1
  have hU1 := wjc2
  have hU2 := wjc3
  have hU3 := wjc4
  have hU4 := wjc5
  have hU5 := wjc6
  have hU6 := wjc7
  have hU7 := wjc8
  have ht2' := ht2 h1
  rw [h2, h3] at ht2'
  rw [h2] at ht1
  have E' := (⟨hU0, hU1, hU2, hU3, hU4, hU5, hU6, hU7, hl0, hw1, hw2, ht1⟩ : _ ∧ _ ∧ _ ∧ _ ∧ _ ∧ _ ∧ _ ∧ _ ∧ _ ∧ _ ∧ _ ∧ _)
  refine rEn baseO 500 (99) 900 80 (hI 8 22015) ([]) [(wj3 a s), (wj7 a s), (wj5 a s), (List.drop (0 : Nat) (wj24 a s) == upd wj1 [(7 : Nat)] [(62 : UInt8)] [(0 : Nat)], true)] ((((4 : Int) = (4 : Int) ∧ [(61 : UInt8), (61 : UInt8)] = upd wj1 [(7 : Nat)] [(62 : UInt8)] [(0 : Nat)] ∧ (0 : Int) = (0 : Int) ∧ True ∧ (0 : Int) = (0 : Int)) ∧ True ∧ True) ∧ s = s ∧ (↑(a + (2 : Nat)) : Int) = IntKind.i64.wrap ((a : Int) + wj25)) (oc4 ?_ ?_ ?_ ?_ okn) ?_
  all_goals try dsimp only [wj3, wj7, wj2, wj4, wj25, wj5, wj24, wj1]
  all_goals exact sc25

set_option maxHeartbeats 4000000 in
theorem sgNE (t1 s : List UInt8) (a : Nat) (ha : a < s.length) (hs : s.length ≤ 10000) (h1 : a + 1 < s.length) (h2 : s.getD a 0 = 33) (h3 : s.getD (a + 1) 0 = 61)  :
    (RunsTo Tryd.prog 94 [.code (bodyOf Tryd.f94)] (envOf [vP 63] Tryd.f94.ntmps) (wj16 a s t1) 80 (.tup [(true, tkT (4) ([33, 61]) (0) .vl0), (false, .ve0)]) (Sx.look (rdW 63 s (a + 2 : Nat))) 700) := by
  have hw1 : IntKind.i64.wrap ((a : Int) + 1) = ((a + 1 : Nat) : Int) := by rw [wr64 (by omega)]; rfl
  have hw2 : IntKind.i64.wrap ((a : Int) + 2) = ((a + 2 : Nat) : Int) := by rw [wr64 (by omega)]; omega
  have hl0 : (s.drop a).length = s.length - a := List.length_drop
  have ht1 : (s.drop a).take 1 = [s.getD a 0] := by rw [drop_at s ha]; rfl
  have ht2 : a + 1 < s.length → (s.drop a).take 2 = [s.getD a 0, s.getD (a + 1) 0] := fun q => by rw [drop_at s ha, drop_at s q]; rfl
  have hU0 := wjc1
  have hU1 := wjc2
  have hU2 := wjc3
  have hU3 := wjc4
  have hU4 := wjc5
  have hU5 := wjc6
  have hU6 := wjc7
  have hU7 := wjc8
  have ht2' := ht2 h1
  rw [h2, h3] at ht2'
  rw [h2] at ht1
  have E' := (⟨hU0, hU1, hU2, hU3, hU4, hU5, hU6, hU7, hl0, hw1, hw2, ht1⟩ : _ ∧ _ ∧ _ ∧ _ ∧ _ ∧ _ ∧ _ ∧ _ ∧ _ ∧ _ ∧ _ ∧ _)
  refine rEn baseO 500 (99) 900 80 (hI 16 1442780671) ([]) [(wj3 a s), (wj7 a s), (wj5 a s), (wj10 a s), (wj3 a s), (wj7 a s), (wj5 a s), (List.drop (0 : Nat) (wj24 a s) == upd wj1 [(7 : Nat)] [(62 : UInt8)] [(1 : Nat)], true)] ((((4 : Int) = (4 : Int) ∧ [(33 : UInt8), (61 : UInt8)] = upd wj1 [(7 : Nat)] [(62 : UInt8)] [(1 : Nat)] ∧ (0 : Int) = (0 : Int) ∧ True ∧ (0 : Int) = (0 : Int)) ∧ True ∧ True) ∧ s = s ∧ (↑(a + (2 : Nat)) : Int) = IntKind.i64.wrap ((a : Int) + wj25)) (oc8 ?_ ?_ ?_ ?_ ?_ ?_ ?_ ?_ okn) ?_
  all_goals try dsimp only [wj3, wj7, wj2, wj4, wj25, wj5, wj10, wj24, wj1]
  all_goals exact sc25

set_option maxHeartbeats 4000000 in
theorem sgLE (t1 s : List UInt8) (a : Nat) (ha : a < s.length) (hs : s.length ≤ 10000) (h1 : a + 1 < s.length) (h2 : s.getD a 0 = 60) (h3 : s.getD (a + 1) 0 = 61)  :
    (RunsTo Tryd.prog 94 [.code (bodyOf Tryd.f94)] (envOf [vP 63] Tryd.f94.ntmps) (wj16 a s t1) 80 (.tup [(true, tkT (4) ([60, 61]) (0) .vl0), (false, .ve0)]) (Sx.look (rdW 63 s (a + 2 : Nat))) 700) := by
  have hw1 : IntKind.i64.wrap ((a : Int) + 1) = ((a + 1 : Nat) : Int) := by rw [wr64 (by omega)]; rfl
  have hw2 : IntKind.i64.wrap ((a : Int) + 2) = ((a + 2 : Nat) : Int) := by rw [wr64 (by omega)]; omega
  have hl0 : (s.drop a).length = s.length - a := List.length_drop
  have ht1 : (s.drop a).take 1 = [s.getD a 0] := by rw [drop_at s ha]; rfl
  have ht2 : a + 1 < s.length → (s.drop a).take 2 = [s.getD a 0, s.getD (a + 1) 0] := fun q => by rw [drop_at s ha, drop_at s q]; rfl
  have hU0 := wjc1
  have hU1 := wjc2
  have hU2 := wjc3
  have hU3 := wjc4
  have hU4 := wjc5
  have hU5 := wjc6
  have hU6 := wjc7
  have hU7 := wjc8
  have ht2' := ht2 h1
  rw [h2, h3] at ht2'
  rw [h2] at ht1
  have E' := (⟨hU0, hU1, hU2, hU3, hU4, hU5, hU6, hU7, hl0, hw1, hw2, ht1⟩ : _ ∧ _ ∧ _ ∧ _ ∧ _ ∧ _ ∧ _ ∧ _ ∧ _ ∧ _ ∧ _ ∧ _)
  refine rEn baseO 500 (99) 900 80 (hI 24 94554074060287) ([]) [(wj3 a s), (wj7 a s), (wj5 a s), (wj10 a s), (wj3 a s), (wj7 a s), (wj5 a s), (wj12 a s), (wj3 a s), (wj7 a s), (wj5 a s), (List.drop (0 : Nat) (wj24 a s) == upd wj1 [(7 : Nat)] [(62 : UInt8)] [(2 : Nat)], true)] ((((4 : Int) = (4 : Int) ∧ [(60 : UInt8), (61 : UInt8)] = upd wj1 [(7 : Nat)] [(62 : UInt8)] [(2 : Nat)] ∧ (0 : Int) = (0 : Int) ∧ True ∧ (0 : Int) = (0 : Int)) ∧ True ∧ True) ∧ s = s ∧ (↑(a + (2 : Nat)) : Int) = IntKind.i64.wrap ((a : Int) + wj25)) (oc3 ?_ ?_ ?_ (oc9 ?_ ?_ ?_ ?_ ?_ ?_ ?_ ?_ ?_ okn)) ?_
  all_goals try dsimp only [wj3, wj7, wj2, wj4, wj25, wj5, wj10, wj24, wj1, wj12]
  all_goals exact sc25

set_option maxHeartbeats 4000000 in
theorem sgGE (t1 s : List UInt8) (a : Nat) (ha : a < s.length) (hs : s.length ≤ 10000) (h1 : a + 1 < s.length) (h2 : s.getD a 0 = 62) (h3 : s.getD (a + 1) 0 = 61)  :
    (RunsTo Tryd.prog 94 [.code (bodyOf Tryd.f94)] (envOf [vP 63] Tryd.f94.ntmps) (wj16 a s t1) 80 (.tup [(true, tkT (4) ([62, 61]) (0) .vl0), (false, .ve0)]) (Sx.look (rdW 63 s (a + 2 : Nat))) 700) := by
  have hw1 : IntKind.i64.wrap ((a : Int) + 1) = ((a + 1 : Nat) : Int) := by rw [wr64 (by omega)]; rfl
  have hw2 : IntKind.i64.wrap ((a : Int) + 2) = ((a + 2 : Nat) : Int) := by rw [wr64 (by omega)]; omega
  have hl0 : (s.drop a).length = s.length - a := List.length_drop
  have ht1 : (s.drop a).take 1 = [s.getD a 0] := by rw [drop_at s ha]; rfl
  have ht2 : a + 1 < s.length → (s.drop a).take 2 = [s.getD a 0, s.getD (a + 1) 0] := fun q => by rw [drop_at s ha, drop_at s q]; rfl
  have hU0 := wjc1
  have hU1 := wjc2
  have hU2 := wjc3
  have hU3 := wjc4
  have hU4 := wjc5
  have hU5 := wjc6
  have hU6 := wjc7
  have hU7 := wjc8
  have ht2' := ht2 h1
  rw [h2, h3] at ht2'
  rw [h2] at ht1
  have E' := (⟨hU0, hU1, hU2, hU3, hU4, hU5, hU6, hU7, hl0, hw1, hw2, ht1⟩ : _ ∧ _ ∧ _ ∧ _ ∧ _ ∧ _ ∧ _ ∧ _ ∧ _ ∧ _ ∧ _ ∧ _)
  refine rEn baseO 500 (99) 900 80 (hI 32 6196695797614974463) ([]) [(wj3 a s), (wj7 a s), (wj5 a s), (wj10 a s), (wj3 a s), (wj7 a s), (wj5 a s), (wj12 a s), (wj3 a s), (wj7 a s), (wj5 a s), (wj13 a s), (wj3 a s), (wj7 a s), (wj5 a s), (List.drop (0 : Nat) (wj24 a s) == upd wj1 [(7 : Nat)] [(62 : UInt8)] [(3 : Nat)], true)] ((((4 : Int) = (4 : Int) ∧ [(62 : UInt8), (61 : UInt8)] = upd wj1 [(7 : Nat)] [(62 : UInt8)] [(3 : Nat)] ∧ (0 : Int) = (0 : Int) ∧ True ∧ (0 : Int) = (0 : Int)) ∧ True ∧ True) ∧ s = s ∧ (↑(a + (2 : Nat)) : Int) = IntKind.i64.wrap ((a : Int) + wj25)) (oc7 ?_ ?_ ?_ ?_ ?_ ?_ ?_ (oc9 ?_ ?_ ?_ ?_ ?_ ?_ ?_ ?_ ?_ okn)) ?_
  all_goals try dsimp only [wj3, wj7, wj2, wj4, wj25, wj5, wj10, wj24, wj1, wj12, wj13]
  all_goals exact sc25

set_option maxHeartbeats 4000000 in
theorem sgL (t1 s : List UInt8) (a : Nat) (ha : a < s.length) (hs : s.length ≤ 10000) (h2 : s.getD a 0 = 60) (h3 : a + 1 < s.length → s.getD (a + 1) 0 ≠ 61)  :
    (RunsTo Tryd.prog 94 [.code (bodyOf Tryd.f94)] (envOf [vP 63] Tryd.f94.ntmps) (wj16 a s t1) 80 (.tup [(true, tkT (4) ([60]) (0) .vl0), (false, .ve0)]) (Sx.look (rdW 63 s (a + 1 : Nat))) 700) := by
  have hw1 : IntKind.i64.wrap ((a : Int) + 1) = ((a + 1 : Nat) : Int) := by rw [wr64 (by omega)]; rfl
  have hw2 : IntKind.i64.wrap ((a : Int) + 2) = ((a + 2 : Nat) : Int) := by rw [wr64 (by omega)]; omega
  have hl0 : (s.drop a).length = s.length - a := List.length_drop
  have ht1 : (s.drop a).take 1 = [s.getD a 0] := by rw [drop_at s ha]; rfl
  have ht2 : a + 1 < s.length → (s.drop a).take 2 = [s.getD a 0, s.getD (a + 1) 0] := fun q => by rw [drop_at s ha, drop_at s q]; rfl
  have hU0 := wjc1
  have hU1 := wjc2
  have hU2 := wjc3
  have hU3 := wjc4
  have hU4 := wjc5
  have hU5 := wjc6
  have hU6 := wjc7
  have hU7 := wjc8
  rw [h2] at ht1
  have ht2' : a + 1 < s.length → (s.drop a).take 2 = [60, s.getD (a + 1) 0] := fun q => by rw [ht2 q, h2]
  have E' := (⟨hU0, hU1, hU2, hU3, hU4, hU5, hU6, hU7, hl0, hw1, hw2, ht1, h2⟩ : _ ∧ _ ∧ _ ∧ _ ∧ _ ∧ _ ∧ _ ∧ _ ∧ _ ∧ _ ∧ _ ∧ _ ∧ _)
  refine bcase (fun gg0 => (rEn baseO 500 (99) 900 80 (hI 52 6813339083268371317510947987967) ([]) [(wj3 a s), (wj9 a s), (wj3 a s), (wj9 a s), (wj3 a s), (wj9 a s), (wj3 a s), (wj9 a s), (wj3 a s), (wj8 a s), (wj6 a s), (wj11 a s), (wj3 a s), (wj8 a s), (wj6 a s), (wj14 a s), (wj3 a s), (wj8 a s), (wj6 a s), (wj28 a s)] (wj20 a s) (oc2 ?_ gg0 (oc9 ?_ gg0 ?_ gg0 ?_ gg0 ?_ ?_ ?_ (oc9 ?_ ?_ ?_ ?_ ?_ ?_ ?_ ?_ ?_ okn))) ?_)) fun gg0 => (rEn baseO 500 (99) 900 80 (hI 56 1744214805316694842987590509860351) ([]) [(wj3 a s), (wj7 a s), (wj5 a s), (wj10 a s), (wj3 a s), (wj7 a s), (wj5 a s), (wj12 a s), (wj3 a s), (wj7 a s), (wj5 a s), (wj13 a s), (wj3 a s), (wj7 a s), (wj5 a s), (wj15 a s), (wj3 a s), (wj8 a s), (wj6 a s), (wj11 a s), (wj3 a s), (wj8 a s), (wj6 a s), (wj14 a s), (wj3 a s), (wj8 a s), (wj6 a s), (wj28 a s)] (wj20 a s) (oc1 ?_ (oc9 gg0 ?_ ?_ ?_ gg0 ?_ ?_ ?_ gg0 (oc9 ?_ ?_ ?_ gg0 ?_ ?_ ?_ ?_ ?_ (oc9 ?_ ?_ ?_ ?_ ?_ ?_ ?_ ?_ ?_ okn)))) ?_)
  all_goals try dsimp only [wj3, wj9, wj2, wj4, wj25, wj8, wj26, wj6, wj11, wj22, wj1, wj14, wj28, wj20, wj7, wj5, wj10, wj24, wj12, wj13, wj15] at *
  all_goals exact sc26

set_option maxHeartbeats 4000000 in
theorem sgG (t1 s : List UInt8) (a : Nat) (ha : a < s.length) (hs : s.length ≤ 10000) (h2 : s.getD a 0 = 62) (h3 : a + 1 < s.length → s.getD (a + 1) 0 ≠ 61)  :
    (RunsTo Tryd.prog 94 [.code (bodyOf Tryd.f94)] (envOf [vP 63] Tryd.f94.ntmps) (wj16 a s t1) 80 (.tup [(true, tkT (4) ([62]) (0) .vl0), (false, .ve0)]) (Sx.look (rdW 63 s (a + 1 : Nat))) 700) := by
  have hw1 : IntKind.i64.wrap ((a : Int) + 1) = ((a + 1 : Nat) : Int) := by rw [wr64 (by omega)]; rfl
  have hw2 : IntKind.i64.wrap ((a : Int) + 2) = ((a + 2 : Nat) : Int) := by rw [wr64 (by omega)]; omega
  have hl0 : (s.drop a).length = s.length - a := List.length_drop
  have ht1 : (s.drop a).take 1 = [s.getD a 0] := by rw [drop_at s ha]; rfl
  have ht2 : a + 1 < s.length → (s.drop a).take 2 = [s.getD a 0, s.getD (a + 1) 0] := fun q => by rw [drop_at s ha, drop_at s q]; rfl
  have hU0 := wjc1
  have hU1 := wjc2
  have hU2 := wjc3
  have hU3 := wjc4
  have hU4 := wjc5
  have hU5 := wjc6
  have hU6 := wjc7
  have hU7 := wjc8
  rw [h2] at ht1
  have ht2' : a + 1 < s.length → (s.drop a).take 2 = [62, s.getD (a + 1) 0] := fun q => by rw [ht2 q, h2]
  have E' := (⟨hU0, hU1, hU2, hU3, hU4, hU5, hU6, hU7, hl0, hw1, hw2, ht1, h2⟩ : _ ∧ _ ∧ _ ∧ _ ∧ _ ∧ _ ∧ _ ∧ _ ∧ _ ∧ _ ∧ _ ∧ _ ∧ _)
  refine bcase (fun gg0 => (rEn baseO 500 (99) 900 80 (hI 60 446518990161073879836910261196808703) ([]) [(wj3 a s), (wj9 a s), (wj3 a s), (wj9 a s), (wj3 a s), (wj9 a s), (wj3 a s), (wj9 a s), (wj3 a s), (wj8 a s), (wj6 a s), (wj11 a s), (wj3 a s), (wj8 a s), (wj6 a s), (wj14 a s), (wj3 a s), (wj8 a s), (wj6 a s), (wj17 a s), (wj3 a s), (wj8 a s), (wj6 a s), (wj29 a s)] (wj21 a s) (oc6 ?_ gg0 ?_ gg0 ?_ gg0 (oc9 ?_ gg0 ?_ ?_ ?_ ?_ ?_ ?_ ?_ (oc9 ?_ ?_ ?_ ?_ ?_ ?_ ?_ ?_ ?_ okn))) ?_)) fun gg0 => (rEn baseO 500 (99) 900 80 (hI 64 114308861481234913230034731654207968767) ([]) [(wj3 a s), (wj7 a s), (wj5 a s), (wj10 a s), (wj3 a s), (wj7 a s), (wj5 a s), (wj12 a s), (wj3 a s), (wj7 a s), (wj5 a s), (wj13 a s), (wj3 a s), (wj7 a s), (wj5 a s), (wj15 a s), (wj3 a s), (wj8 a s), (wj6 a s), (wj11 a s), (wj3 a s), (wj8 a s), (wj6 a s), (wj14 a s), (wj3 a s), (wj8 a s), (wj6 a s), (wj17 a s), (wj3 a s), (wj8 a s), (wj6 a s), (wj29 a s)] (wj21 a s) (oc5 ?_ gg0 ?_ ?_ ?_ (oc9 gg0 ?_ ?_ ?_ gg0 ?_ ?_ ?_ gg0 (oc9 ?_ ?_ ?_ ?_ ?_ ?_ ?_ ?_ ?_ (oc9 ?_ ?_ ?_ ?_ ?_ ?_ ?_ ?_ ?_ okn)))) ?_)
  all_goals try dsimp only [wj3, wj9, wj2, wj4, wj25, wj8, wj26, wj6, wj11, wj22, wj1, wj14, wj17, wj29, wj21, wj7, wj5, wj10, wj24, wj12, wj13, wj15] at *
  all_goals exact sc26

set_option maxHeartbeats 4000000 in
theorem sgO (t1 s : List UInt8) (a : Nat) (ha : a < s.length) (hs : s.length ≤ 10000) (h2 : s.getD a 0 = 123)  :
    (RunsTo Tryd.prog 94 [.code (bodyOf Tryd.f94)] (envOf [vP 63] Tryd.f94.ntmps) (wj16 a s t1) 80 (.tup [(true, tkT (4) ([123]) (0) .vl0), (false, .ve0)]) (Sx.look (rdW 63 s (a + 1 : Nat))) 700) := by
  have hw1 : IntKind.i64.wrap ((a : Int) + 1) = ((a + 1 : Nat) : Int) := by rw [wr64 (by omega)]; rfl
  have hw2 : IntKind.i64.wrap ((a : Int) + 2) = ((a + 2 : Nat) : Int) := by rw [wr64 (by omega)]; omega
  have hl0 : (s.drop a).length = s.length - a := List.length_drop
  have ht1 : (s.drop a).take 1 = [s.getD a 0] := by rw [drop_at s ha]; rfl
  have ht2 : a + 1 < s.length → (s.drop a).take 2 = [s.getD a 0, s.getD (a + 1) 0] := fun q => by rw [drop_at s ha, drop_at s q]; rfl
  have hU0 := wjc1
  have hU1 := wjc2
  have hU2 := wjc3
  have hU3 := wjc4
  have hU4 := wjc5
  have hU5 := wjc6
  have hU6 := wjc7
  have hU7 := wjc8
  rw [h2] at ht1
  have ht2' : a + 1 < s.length → (s.drop a).take 2 = [123, s.getD (a + 1) 0] := fun q => by rw [ht2 q, h2]
  have E' := (⟨hU0, hU1, hU2, hU3, hU4, hU5, hU6, hU7, hl0, hw1, hw2, ht1, h2⟩ : _ ∧ _ ∧ _ ∧ _ ∧ _ ∧ _ ∧ _ ∧ _ ∧ _ ∧ _ ∧ _ ∧ _ ∧ _)
  refine bcase (fun gg0 => (rEn baseO 500 (99) 900 80 (hI 36 1586386211280106021375) ([]) [(wj3 a s), (wj9 a s), (wj3 a s), (wj9 a s), (wj3 a s), (wj9 a s), (wj3 a s), (wj9 a s), (wj3 a s), (wj8 a s), (wj6 a s), (wj30 a s)] (wj18 a s) (oc3 ?_ gg0 ?_ (oc9 gg0 ?_ gg0 ?_ gg0 ?_ ?_ ?_ ?_ okn)) ?_)) fun gg0 => (rEn baseO 500 (99) 900 80 (hI 40 406106655792494966412799) ([]) [(wj3 a s), (wj7 a s), (wj5 a s), (wj10 a s), (wj3 a s), (wj7 a s), (wj5 a s), (wj12 a s), (wj3 a s), (wj7 a s), (wj5 a s), (wj13 a s), (wj3 a s), (wj7 a s), (wj5 a s), (wj15 a s), (wj3 a s), (wj8 a s), (wj6 a s), (wj30 a s)] (wj18 a s) (oc2 ?_ gg0 (oc9 ?_ ?_ ?_ gg0 ?_ ?_ ?_ gg0 ?_ (oc9 ?_ ?_ gg0 ?_ ?_ ?_ ?_ ?_ ?_ okn))) ?_)
  all_goals try dsimp only [wj3, wj9, wj2, wj4, wj25, wj8, wj26, wj6, wj30, wj22, wj1, wj18, wj7, wj5, wj10, wj24, wj12, wj13, wj15] at *
  all_goals exact sc26

set_option maxHeartbeats 4000000 in
theorem sgC (t1 s : List UInt8) (a : Nat) (ha : a < s.length) (hs : s.length ≤ 10000) (h2 : s.getD a 0 = 125)  :
    (RunsTo Tryd.prog 94 [.code (bodyOf Tryd.f94)] (envOf [vP 63] Tryd.f94.ntmps) (wj16 a s t1) 80 (.tup [(true, tkT (4) ([125]) (0) .vl0), (false, .ve0)]) (Sx.look (rdW 63 s (a + 1 : Nat))) 700) := by
  have hw1 : IntKind.i64.wrap ((a : Int) + 1) = ((a + 1 : Nat) : Int) := by rw [wr64 (by omega)]; rfl
  have hw2 : IntKind.i64.wrap ((a : Int) + 2) = ((a + 2 : Nat) : Int) := by rw [wr64 (by omega)]; omega
  have hl0 : (s.drop a).length = s.length - a := List.length_drop
  have ht1 : (s.drop a).take 1 = [s.getD a 0] := by rw [drop_at s ha]; rfl
  have ht2 : a + 1 < s.length → (s.drop a).take 2 = [s.getD a 0, s.getD (a + 1) 0] := fun q => by rw [drop_at s ha, drop_at s q]; rfl
  have hU0 := wjc1
  have hU1 := wjc2
  have hU2 := wjc3
  have hU3 := wjc4
  have hU4 := wjc5
  have hU5 := wjc6
  have hU6 := wjc7
  have hU7 := wjc8
  rw [h2] at ht1
  have ht2' : a + 1 < s.length → (s.drop a).take 2 = [125, s.getD (a + 1) 0] := fun q => by rw [ht2 q, h2]
  have E' := (⟨hU0, hU1, hU2, hU3, hU4, hU5, hU6, hU7, hl0, hw1, hw2, ht1, h2⟩ : _ ∧ _ ∧ _ ∧ _ ∧ _ ∧ _ ∧ _ ∧ _ ∧ _ ∧ _ ∧ _ ∧ _ ∧ _)
  refine bcase (fun gg0 => (rEn baseO 500 (99) 900 80 (hI 44 103963303914965802074235391) ([]) [(wj3 a s), (wj9 a s), (wj3 a s), (wj9 a s), (wj3 a s), (wj9 a s), (wj3 a s), (wj9 a s), (wj3 a s), (wj8 a s), (wj6 a s), (wj11 a s), (wj3 a s), (wj8 a s), (wj6 a s), (wj31 a s)] (wj19 a s) (oc7 ?_ gg0 ?_ gg0 ?_ gg0 ?_ (oc9 gg0 ?_ ?_ ?_ ?_ ?_ ?_ ?_ ?_ okn)) ?_)) fun gg0 => (rEn baseO 500 (99) 900 80 (hI 48 26614605794016950118829200895) ([]) [(wj3 a s), (wj7 a s), (wj5 a s), (wj10 a s), (wj3 a s), (wj7 a s), (wj5 a s), (wj12 a s), (wj3 a s), (wj7 a s), (wj5 a s), (wj13 a s), (wj3 a s), (wj7 a s), (wj5 a s), (wj15 a s), (wj3 a s), (wj8 a s), (wj6 a s), (wj11 a s), (wj3 a s), (wj8 a s), (wj6 a s), (wj31 a s)] (wj19 a s) (oc6 ?_ gg0 ?_ ?_ ?_ gg0 (oc9 ?_ ?_ ?_ gg0 ?_ ?_ ?_ gg0 ?_ (oc9 ?_ ?_ ?_ ?_ ?_ ?_ ?_ ?_ ?_ okn))) ?_)
  all_goals try dsimp only [wj3, wj9, wj2, wj4, wj25, wj8, wj26, wj6, wj11, wj22, wj1, wj31, wj19, wj7, wj5, wj10, wj24, wj12, wj13, wj15] at *
  all_goals exact sc26

set_option maxHeartbeats 4000000 in
theorem sgF (t1 s : List UInt8) (a : Nat) (ha : a < s.length) (hs : s.length ≤ 10000) (n1 : s.getD a 0 ≠ 123) (n2 : s.getD a 0 ≠ 125) (n3 : s.getD a 0 ≠ 60 ) (n4 : s.getD a 0 ≠ 62) (n5 : a + 1 < s.length → ¬ ((s.getD a 0 = 61 ∨ s.getD a 0 = 33) ∧ s.getD (a + 1) 0 = 61))  :
    (RunsTo Tryd.prog 94 [.code (bodyOf Tryd.f94)] (envOf [vP 63] Tryd.f94.ntmps) (wj16 a s t1) 80 (.tup [(true, tkT (0) ([]) (0) .vl0), (false, vErr 6)]) (Sx.look ([])) 700) := by
  have hw1 : IntKind.i64.wrap ((a : Int) + 1) = ((a + 1 : Nat) : Int) := by rw [wr64 (by omega)]; rfl
  have hw2 : IntKind.i64.wrap ((a : Int) + 2) = ((a + 2 : Nat) : Int) := by rw [wr64 (by omega)]; omega
  have hl0 : (s.drop a).length = s.length - a := List.length_drop
  have ht1 : (s.drop a).take 1 = [s.getD a 0] := by rw [drop_at s ha]; rfl
  have ht2 : a + 1 < s.length → (s.drop a).take 2 = [s.getD a 0, s.getD (a + 1) 0] := fun q => by rw [drop_at s ha, drop_at s q]; rfl
  have hU0 := wjc1
  have hU1 := wjc2
  have hU2 := wjc3
  have hU3 := wjc4
  have hU4 := wjc5
  have hU5 := wjc6
  have hU6 := wjc7
  have hU7 := wjc8
  have E' := (⟨hU0, hU1, hU2, hU3, hU4, hU5, hU6, hU7, hl0, hw1, hw2, ht1⟩ : _ ∧ _ ∧ _ ∧ _ ∧ _ ∧ _ ∧ _ ∧ _ ∧ _ ∧ _ ∧ _ ∧ _)
  refine bcase (fun gg0 => (rEn baseO 500 (99) 900 80 (hI 61 2772667982784676657418572616687411711) ([]) [(wj3 a s), (wj9 a s), (wj3 a s), (wj9 a s), (wj3 a s), (wj9 a s), (wj3 a s), (wj9 a s), (wj3 a s), (wj8 a s), (wj6 a s), (wj11 a s), (wj3 a s), (wj8 a s), (wj6 a s), (wj14 a s), (wj3 a s), (wj8 a s), (wj6 a s), (wj17 a s), (wj3 a s), (wj8 a s), (wj6 a s), (wj27 a s)] wj23 (oc6 ?_ gg0 ?_ gg0 ?_ gg0 (oc9 ?_ gg0 ?_ ?_ ?_ ?_ ?_ ?_ ?_ (oc9 ?_ ?_ ?_ ?_ ?_ ?_ ?_ ?_ ?_ okn))) ?_)) fun gg0 => (rEn baseO 500 (99) 900 80 (hI 65 709803003592877224290940294659802338815) ([]) [(wj3 a s), (wj7 a s), (wj5 a s), (wj10 a s), (wj3 a s), (wj7 a s), (wj5 a s), (wj12 a s), (wj3 a s), (wj7 a s), (wj5 a s), (wj13 a s), (wj3 a s), (wj7 a s), (wj5 a s), (wj15 a s), (wj3 a s), (wj8 a s), (wj6 a s), (wj11 a s), (wj3 a s), (wj8 a s), (wj6 a s), (wj14 a s), (wj3 a s), (wj8 a s), (wj6 a s), (wj17 a s), (wj3 a s), (wj8 a s), (wj6 a s), (wj27 a s)] wj23 (oc5 ?_ gg0 ?_ ?_ ?_ (oc9 gg0 ?_ ?_ ?_ gg0 ?_ ?_ ?_ gg0 (oc9 ?_ ?_ ?_ ?_ ?_ ?_ ?_ ?_ ?_ (oc9 ?_ ?_ ?_ ?_ ?_ ?_ ?_ ?_ ?_ okn)))) ?_)
  all_goals try dsimp only [wj3, wj9, wj2, wj4, wj25, wj8, wj26, wj6, wj11, wj22, wj1, wj14, wj17, wj27, wj23, wj7, wj5, wj10, wj24, wj12, wj13, wj15] at *
  all_goals exact sc26

end Go.Proofs.YtaleenklamognaaDoor

set_option linter.unusedSimpArgs false
set_option linter.unusedVariables false
set_option maxRecDepth 100000
namespace Go.Proofs.YtaleenklamognaaDoor
open Go.Sx

open WordR
theorem sign_eq (c : UInt8) (r : List UInt8) : signR (c :: r) = if r.headD 0 = 61 ∧ (c = 61 ∨ c = 33 ∨ c = 60 ∨ c = 62) then .ok ⟨4, [c, 61], 0, [], 0⟩ 2 else if c = 123 ∨ c = 125 ∨ c = 60 ∨ c = 62 then .ok ⟨4, [c], 0, [], 0⟩ 1 else .err 5 := by
  cases r with
  | nil => unfold signR; split <;> simp_all
  | cons d q =>
    rw [List.headD_cons]
    by_cases hd : d = 61
    · subst hd; unfold signR; split <;> simp_all
      all_goals (rename_i hx he; exact hx _ he.2.symm)
    · unfold signR; split <;> simp_all
def SGR (s : List UInt8) (a : Nat) (X : SV → HF → Prop) : TR → Prop
  | .ok t n => X (.tup [(true, tkT (4) (t.text) (0) .vl0), (false, .ve0)]) (Sx.look (rdW 63 s (a + n : Nat)))
  | .err e => e = 5 ∧ X (.tup [(true, tkT (0) ([]) (0) .vl0), (false, vErr 6)]) (Sx.look [])
theorem sgT (t1 s : List UInt8) (a : Nat) (ha : a < s.length) (hs : s.length ≤ 10000) : SGR s a (fun v L' => RunsTo Tryd.prog 94 [.code (bodyOf Tryd.f94)] (envOf [vP 63] Tryd.f94.ntmps) (Sx.look (sentEnts 23 213 [(6, t1)] ++ (rdW 63 s (a : Nat)))) 80 (v) (L') 700) (signR (s.drop a)) := by
  rw [drop_at s ha, sign_eq, head_drop]
  have h61 : s.getD (a + 1) 0 = 61 → a + 1 < s.length := fun h => by
    refine Nat.lt_of_not_le fun q => ?_
    rw [List.getD_eq_getElem?_getD, List.getElem?_eq_none q] at h
    exact absurd h (by decide)
  by_cases h1 : s.getD (a + 1) 0 = 61 ∧ (s.getD a 0 = 61 ∨ s.getD a 0 = 33 ∨ s.getD a 0 = 60 ∨ s.getD a 0 = 62)
  · rw [if_pos h1]
    obtain ⟨h2, h3⟩ := h1
    rcases h3 with e | e | e | e <;> rw [e]
    · exact sgEE t1 s a ha hs (h61 h2) e h2
    · exact sgNE t1 s a ha hs (h61 h2) e h2
    · exact sgLE t1 s a ha hs (h61 h2) e h2
    · exact sgGE t1 s a ha hs (h61 h2) e h2
  rw [if_neg h1]
  by_cases h2 : s.getD a 0 = 123 ∨ s.getD a 0 = 125 ∨ s.getD a 0 = 60 ∨ s.getD a 0 = 62
  · rw [if_pos h2]
    rcases h2 with e | e | e | e <;> rw [e]
    · exact sgO t1 s a ha hs e
    · exact sgC t1 s a ha hs e
    · exact sgL t1 s a ha hs e (fun _ q => h1 ⟨q, .inr (.inr (.inl e))⟩)
    · exact sgG t1 s a ha hs e (fun _ q => h1 ⟨q, .inr (.inr (.inr e))⟩)
  rw [if_neg h2]
  exact ⟨rfl, sgF t1 s a ha hs (fun e => h2 (.inl e)) (fun e => h2 (.inr (.inl e))) (fun e => h2 (.inr (.inr (.inl e)))) (fun e => h2 (.inr (.inr (.inr e)))) (fun _ q => h1 ⟨q.2, q.1.elim .inl (fun e => .inr (.inl e))⟩)⟩
theorem sgOkT (t1 s : List UInt8) (a : Nat) (ha : a < s.length) (hs : s.length ≤ 10000) (h : isOkR (signR (s.drop a)) = true) : RunsTo Tryd.prog 94 [.code (bodyOf Tryd.f94)] (envOf [vP 63] Tryd.f94.ntmps) (Sx.look (sentEnts 23 213 [(6, t1)] ++ (rdW 63 s (a : Nat)))) 80 (.tup [(true, tkT (4) ((okT (signR (s.drop a))).text) (0) .vl0), (false, .ve0)]) (Sx.look (rdW 63 s (a + okN (signR (s.drop a)) : Nat))) 700 := by
  have q := sgT t1 s a ha hs
  cases hz : (signR (s.drop a)) with
  | ok t m => rw [hz] at q; exact q
  | err e =>
    rw [hz] at h; cases h
theorem sgFoT (t1 s : List UInt8) (a : Nat) (ha : a < s.length) (hs : s.length ≤ 10000) (h : isErR 5 (signR (s.drop a)) = true) : RunsTo Tryd.prog 94 [.code (bodyOf Tryd.f94)] (envOf [vP 63] Tryd.f94.ntmps) (Sx.look (sentEnts 23 213 [(6, t1)] ++ (rdW 63 s (a : Nat)))) 80 (.tup [(true, tkT (0) ([]) (0) .vl0), (false, vErr 6)]) (Sx.look ([])) 700 := by
  have q := sgT t1 s a ha hs
  cases hz : (signR (s.drop a)) with
  | ok t m =>
    rw [hz] at h; cases h
  | err e =>
    rw [hz] at q; exact q.2
def sgOkP : PC := { args := [.v (.vp 63)], heap := [⟨63, true, 2, .tc (.vs 0) (.tc (.vi .i64 1) .t0)⟩], gs := [6], G := 23, tp := 213, n := 80, n' := 700, cond := fun e => decide (0 ≤ eI e 1 []) && (decide ((eI e 1 []).toNat < (eS e 0 []).length) && (decide ((eS e 0 []).length ≤ 10000) && isOkR (signR ((eS e 0 []).drop (eI e 1 []).toNat)))), v := fun e => .tup [(true, tkT (4) ((okT (signR ((eS e 0 []).drop (eI e 1 []).toNat))).text) (0) .vl0), (false, .ve0)], post := fun e => rdW 63 (eS e 0 []) ((eI e 1 []).toNat + okN (signR ((eS e 0 []).drop (eI e 1 []).toNat)) : Nat) }
theorem sgOkP_pc : PC.Runs Tryd.prog 94 Tryd.f94 (bodyOf Tryd.f94) sgOkP := ⟨Tryd.func94, by kernel_rfl, (fun g hg => by first | (cases hg; done) | (revert g; show ∀ g ∈ ([6] : List Nat), g < 23; decide)), fun e H hc => by
  have hc : (decide (0 ≤ eI e 1 []) && (decide ((eI e 1 []).toNat < (eS e 0 []).length) && (decide ((eS e 0 []).length ≤ 10000) && isOkR (signR ((eS e 0 []).drop (eI e 1 []).toNat))))) = true := hc
  try simp only [Bool.and_eq_true, decide_eq_true_eq, Nat.beq_eq] at hc
  exact by obtain ⟨h1, h2, h3, h4⟩ := hc; have hj : ((eI e 1 []).toNat : Int) = eI e 1 [] := Int.toNat_of_nonneg h1; have q := sgOkT (textAt H 29) (eS e 0 []) (eI e 1 []).toNat h2 h3 h4; rw [hj] at q; exact q⟩
def sgFoP : PC := { args := [.v (.vp 63)], heap := [⟨63, true, 2, .tc (.vs 0) (.tc (.vi .i64 1) .t0)⟩], gs := [6], G := 23, tp := 213, n := 80, n' := 700, cond := fun e => decide (0 ≤ eI e 1 []) && (decide ((eI e 1 []).toNat < (eS e 0 []).length) && (decide ((eS e 0 []).length ≤ 10000) && isErR 5 (signR ((eS e 0 []).drop (eI e 1 []).toNat)))), v := fun e => .tup [(true, tkT (0) ([]) (0) .vl0), (false, vErr 6)], post := fun e => [] }
theorem sgFoP_pc : PC.Runs Tryd.prog 94 Tryd.f94 (bodyOf Tryd.f94) sgFoP := ⟨Tryd.func94, by kernel_rfl, (fun g hg => by first | (cases hg; done) | (revert g; show ∀ g ∈ ([6] : List Nat), g < 23; decide)), fun e H hc => by
  have hc : (decide (0 ≤ eI e 1 []) && (decide ((eI e 1 []).toNat < (eS e 0 []).length) && (decide ((eS e 0 []).length ≤ 10000) && isErR 5 (signR ((eS e 0 []).drop (eI e 1 []).toNat))))) = true := hc
  try simp only [Bool.and_eq_true, decide_eq_true_eq, Nat.beq_eq] at hc
  exact by obtain ⟨h1, h2, h3, h4⟩ := hc; have hj : ((eI e 1 []).toNat : Int) = eI e 1 [] := Int.toNat_of_nonneg h1; have q := sgFoT (textAt H 29) (eS e 0 []) (eI e 1 []).toNat h2 h3 h4; rw [hj] at q; exact q⟩
def sumsTKo : List (FuncId × Summ) := [(66, bgP.summ 46), (91, fgP.summ 46), (90, nmOkP.summ 46), (92, nuOkP.summ 46), (93, txOkP.summ 46), (94, sgOkP.summ 46)]
theorem baseTKo : Base0 Tryd.prog sumsTKo := ((((((baseO.cons Tryd.func94 (by kernel_rfl) (PC.summ_ok sgOkP_pc gtopG)).cons Tryd.func93 (by kernel_rfl) (PC.summ_ok txOkP_pc gtopG)).cons Tryd.func92 (by kernel_rfl) (PC.summ_ok nuOkP_pc gtopG)).cons Tryd.func90 (by kernel_rfl) (PC.summ_ok nmOkP_pc gtopG)).cons Tryd.func91 (by kernel_rfl) (PC.summ_ok fgP_pc gtopG)).cons Tryd.func66 (by kernel_rfl) (PC.summ_ok bgP_pc gtopG))
def sumsTKl : List (FuncId × Summ) := [(66, bgP.summ 46), (91, fgP.summ 46), (90, nmLoP.summ 46), (92, nuLoP.summ 46), (93, txLoP.summ 46)]
theorem baseTKl : Base0 Tryd.prog sumsTKl := (((((baseO.cons Tryd.func93 (by kernel_rfl) (PC.summ_ok txLoP_pc gtopG)).cons Tryd.func92 (by kernel_rfl) (PC.summ_ok nuLoP_pc gtopG)).cons Tryd.func90 (by kernel_rfl) (PC.summ_ok nmLoP_pc gtopG)).cons Tryd.func91 (by kernel_rfl) (PC.summ_ok fgP_pc gtopG)).cons Tryd.func66 (by kernel_rfl) (PC.summ_ok bgP_pc gtopG))
def sumsTKf : List (FuncId × Summ) := [(66, bgP.summ 46), (91, fgP.summ 46), (92, nuFoP.summ 46), (93, txFoP.summ 46), (94, sgFoP.summ 46)]
theorem baseTKf : Base0 Tryd.prog sumsTKf := (((((baseO.cons Tryd.func94 (by kernel_rfl) (PC.summ_ok sgFoP_pc gtopG)).cons Tryd.func93 (by kernel_rfl) (PC.summ_ok txFoP_pc gtopG)).cons Tryd.func92 (by kernel_rfl) (PC.summ_ok nuFoP_pc gtopG)).cons Tryd.func91 (by kernel_rfl) (PC.summ_ok fgP_pc gtopG)).cons Tryd.func66 (by kernel_rfl) (PC.summ_ok bgP_pc gtopG))
def sumsTKs : List (FuncId × Summ) := [(66, bgP.summ 46), (91, fgP.summ 46), (93, txShP.summ 46)]
theorem baseTKs : Base0 Tryd.prog sumsTKs := (((baseO.cons Tryd.func93 (by kernel_rfl) (PC.summ_ok txShP_pc gtopG)).cons Tryd.func91 (by kernel_rfl) (PC.summ_ok fgP_pc gtopG)).cons Tryd.func66 (by kernel_rfl) (PC.summ_ok bgP_pc gtopG))

variable (a : Nat) (s t0 t1 t2 : List UInt8)
abbrev wk1 := (↑(s.getD (a : Int).toNat (0 : UInt8)).toNat : Int)
abbrev wk2 := (((0 : Int) = (0 : Int) ∧ ([] : List UInt8) = [] ∧ (0 : Int) = (0 : Int) ∧ True ∧ (0 : Int) = (0 : Int)) ∧ 0 = 0 ∧ True) ∧ True
abbrev wk3 := (decide (0 ≤ (a : Int) ∧ (a : Int) < (↑s.length : Int)), true)
abbrev wk4 := Sx.look (sentEnts 23 213 [(5, t0), (6, t1), (0, t2)] ++ (rdW 63 s (a : Nat)))
abbrev wk6 := List.drop (a : Int).toNat s
abbrev wk5 := (((2 : Int) = (2 : Int) ∧ ([] : List UInt8) = [] ∧ (okT (numberR (List.drop a s))).3 = (okT (numberR (wk6 a s))).3 ∧ 0 = 0 ∧ (0 : Int) = (0 : Int)) ∧ True ∧ True) ∧ (s = s ∧ (↑(a + okN (numberR (List.drop a s))) : Int) = (↑((a : Int).toNat + okN (numberR (wk6 a s))) : Int)) ∧ 0 = 0
abbrev wk19 := (true, tkT (0) ([]) (0) .vl0)
abbrev wk7 := RunsTo Tryd.prog 51 [.code (bodyOf Tryd.f51)] (envOf [vP 63] Tryd.f51.ntmps) (wk4 a s t0 t1 t2) 80 (.tup [wk19, (false, vErr 0)]) (Sx.look ([])) 6000
abbrev wk8 := RunsTo Tryd.prog 51 [.code (bodyOf Tryd.f51)] (envOf [vP 63] Tryd.f51.ntmps) (wk4 a s t0 t1 t2) 80 (.tup [wk19, (false, vErr 6)]) (Sx.look ([])) 6000
abbrev wk9 := (((5 : Int) = (5 : Int) ∧ ([] : List UInt8) = [] ∧ (0 : Int) = (0 : Int) ∧ 0 = 0 ∧ (0 : Int) = (0 : Int)) ∧ True ∧ True) ∧ (s = s ∧ (↑(a + (1 : Nat)) : Int) = IntKind.i64.wrap ((a : Int) + 1)) ∧ 0 = 0
abbrev wk10 := ((wk1 a s) == 10, false)
abbrev wk11 := ((wk1 a s) == 59, false)
abbrev wk12 := (ltrI (wk1 a s), false)
abbrev wk13 := (decide (0 ≤ (a : Int)) && (decide ((a : Int).toNat < s.length) && (decide (s.length ≤ (10000 : Nat)) && isErR (4 : Nat) (numberR (wk6 a s)))), true)
abbrev wk14 := (decide (0 ≤ (a : Int)) && (decide ((a : Int).toNat < s.length) && (decide (s.length ≤ (10000 : Nat)) && isErR (5 : Nat) (numberR (wk6 a s)))), true)
abbrev wk15 := (decide (0 ≤ (a : Int)) && (decide ((a : Int).toNat < s.length) && (decide (s.length ≤ (10000 : Nat)) && isOkR (numberR (wk6 a s)))), true)
abbrev wk16 := ([] : List Pc)
abbrev wk17 := (figI (wk1 a s), false)
abbrev wk18 := txR s (a : Int).toNat
set_option maxHeartbeats 4000000 in
theorem tkE (t0 t1 t2 : List UInt8) (s : List UInt8) (a : Nat) (ha : a < s.length) (hs : s.length ≤ 4000) (h : (s.getD a 0).toNat = 10 ∨ (s.getD a 0).toNat = 59)  :
    (RunsTo Tryd.prog 51 [.code (bodyOf Tryd.f51)] (envOf [vP 63] Tryd.f51.ntmps) (wk4 a s t0 t1 t2) 80 (.tup [(true, tkT (5) ([]) (0) (.vl 141 (fun _ => 0) 2 [] (fun _ => wk16.length))), (false, .ve0)]) (Sx.look (rdW 63 s (a + 1 : Nat) ++ prE 141 wk16)) 6000) := by
  have hw1 : IntKind.i64.wrap ((a : Int) + 1) = ((a + 1 : Nat) : Int) := by rw [wr64 (by omega)]; rfl
  have hb0 := u8nat (s.getD a 0)
  have E' := hw1
  refine bcase (fun gg0 => (rEn baseTKo 400 (99) 900 80 (hI 3 17) ([((141 : Nat), Rn.nil (2 : Nat))]) [(wk3 a s), (wk10 a s), ((wk1 a s) == 59, true)] (wk9 a s) (oc3 ?_ gg0 ?_ okn) ?_)) fun gg0 => (rEn baseTKo 400 (99) 900 80 (hI 2 5) ([((141 : Nat), Rn.nil (2 : Nat))]) [(wk3 a s), ((wk1 a s) == 10, true)] (wk9 a s) (oc2 ?_ gg0 okn) ?_)
  all_goals try dsimp only [wk3, wk10, wk1, wk9] at *
  all_goals exact sc27

set_option maxHeartbeats 4000000 in
theorem tkN (t0 t1 t2 : List UInt8) (s : List UInt8) (a : Nat) (ha : a < s.length) (hs : s.length ≤ 4000) (n1 : (s.getD a 0).toNat ≠ 10) (n2 : (s.getD a 0).toNat ≠ 59) (hl : ltrI ((s.getD a 0).toNat : Int) = true) (h5 : (spanR goI (s.drop a)) ≤ 24)  :
    (RunsTo Tryd.prog 51 [.code (bodyOf Tryd.f51)] (envOf [vP 63] Tryd.f51.ntmps) (wk4 a s t0 t1 t2) 80 (.tup [(true, tkT (1) (txt s a (spanR goI (s.drop a))) (0) (.vl 141 (fun _ => 0) 2 [] (fun _ => wk16.length))), (false, .ve0)]) (Sx.look (rdW 63 s (a + (spanR goI (s.drop a)) : Nat) ++ prE 141 wk16)) 6000) := by
  have hw1 : IntKind.i64.wrap ((a : Int) + 1) = ((a + 1 : Nat) : Int) := by rw [wr64 (by omega)]; rfl
  have hb0 := u8nat (s.getD a 0)
  have E' := (⟨hw1, hl⟩ : _ ∧ _)
  refine rEn baseTKo 400 (99) 900 80 (hI 6 1473) ([((141 : Nat), Rn.nil (2 : Nat))]) [(wk3 a s), (wk10 a s), (wk11 a s), (ltrI (wk1 a s), true), (decide (0 ≤ (a : Int)) && (decide ((a : Int).toNat ≤ s.length) && (decide (s.length ≤ (100000 : Nat)) && decide (spanR goI (wk6 a s) ≤ (24 : Nat)))), true)] ((((1 : Int) = (1 : Int) ∧ txt s a (spanR goI (List.drop a s)) = txt s (a : Int).toNat (spanR goI (wk6 a s)) ∧ (0 : Int) = (0 : Int) ∧ 0 = 0 ∧ (0 : Int) = (0 : Int)) ∧ True ∧ True) ∧ (s = s ∧ (↑(a + spanR goI (List.drop a s)) : Int) = (↑((a : Int).toNat + spanR goI (wk6 a s)) : Int)) ∧ 0 = 0) (oc5 ?_ ?_ ?_ ?_ ?_ okn) ?_
  all_goals try dsimp only [wk3, wk10, wk1, wk11, wk6]
  all_goals exact sc27

set_option maxHeartbeats 4000000 in
theorem tkNl (t0 t1 t2 : List UInt8) (s : List UInt8) (a : Nat) (ha : a < s.length) (hs : s.length ≤ 4000) (n1 : (s.getD a 0).toNat ≠ 10) (n2 : (s.getD a 0).toNat ≠ 59) (hl : ltrI ((s.getD a 0).toNat : Int) = true) (h5 : 24 < (spanR goI (s.drop a)))  :
    (wk7 a s t0 t1 t2) := by
  have hw1 : IntKind.i64.wrap ((a : Int) + 1) = ((a + 1 : Nat) : Int) := by rw [wr64 (by omega)]; rfl
  have hb0 := u8nat (s.getD a 0)
  have E' := (⟨hw1, hl⟩ : _ ∧ _)
  refine rEn baseTKl 400 (99) 900 80 (hI 6 1473) ([]) [(wk3 a s), (wk10 a s), (wk11 a s), (ltrI (wk1 a s), true), (decide (0 ≤ (a : Int)) && (decide ((a : Int).toNat ≤ s.length) && (decide (s.length ≤ (100000 : Nat)) && decide ((24 : Nat) < spanR goI (wk6 a s)))), true)] wk2 (oc5 ?_ ?_ ?_ ?_ ?_ okn) ?_
  all_goals try dsimp only [wk3, wk10, wk1, wk11, wk6, wk2]
  all_goals exact sc27

set_option maxHeartbeats 4000000 in
theorem tkU (t0 t1 t2 : List UInt8) (s : List UInt8) (a : Nat) (ha : a < s.length) (hs : s.length ≤ 4000) (n1 : (s.getD a 0).toNat ≠ 10) (n2 : (s.getD a 0).toNat ≠ 59) (hl : ltrI ((s.getD a 0).toNat : Int) = false) (hf : figI ((s.getD a 0).toNat : Int) = true ∨ (s.getD a 0).toNat = 45) (h : isOkR (numberR (s.drop a)) = true)  :
    (RunsTo Tryd.prog 51 [.code (bodyOf Tryd.f51)] (envOf [vP 63] Tryd.f51.ntmps) (wk4 a s t0 t1 t2) 80 (.tup [(true, tkT (2) ([]) ((okT (numberR (s.drop a))).num) (.vl 141 (fun _ => 0) 2 [] (fun _ => wk16.length))), (false, .ve0)]) (Sx.look (rdW 63 s (a + okN (numberR (s.drop a)) : Nat) ++ prE 141 wk16)) 6000) := by
  have hw1 : IntKind.i64.wrap ((a : Int) + 1) = ((a + 1 : Nat) : Int) := by rw [wr64 (by omega)]; rfl
  have hb0 := u8nat (s.getD a 0)
  have E' := (⟨hw1, hl⟩ : _ ∧ _)
  refine bcase (fun gg0 => (rEn baseTKo 400 (99) 900 80 (hI 9 85185) ([((141 : Nat), Rn.nil (2 : Nat))]) [(wk3 a s), (wk10 a s), (wk11 a s), (wk12 a s), (wk17 a s), ((wk1 a s) == 45, true), (wk15 a s)] (wk5 a s) (oc7 ?_ ?_ ?_ ?_ gg0 ?_ ?_ okn) ?_)) fun gg0 => (rEn baseTKo 400 (99) 900 80 (hI 8 23745) ([((141 : Nat), Rn.nil (2 : Nat))]) [(wk3 a s), (wk10 a s), (wk11 a s), (wk12 a s), (figI (wk1 a s), true), (wk15 a s)] (wk5 a s) (oc6 ?_ ?_ ?_ ?_ gg0 ?_ okn) ?_)
  all_goals try dsimp only [wk3, wk10, wk1, wk11, wk12, wk17, wk15, wk6, wk5] at *
  all_goals exact sc27

set_option maxHeartbeats 4000000 in
theorem tkUl (t0 t1 t2 : List UInt8) (s : List UInt8) (a : Nat) (ha : a < s.length) (hs : s.length ≤ 4000) (n1 : (s.getD a 0).toNat ≠ 10) (n2 : (s.getD a 0).toNat ≠ 59) (hl : ltrI ((s.getD a 0).toNat : Int) = false) (hf : figI ((s.getD a 0).toNat : Int) = true ∨ (s.getD a 0).toNat = 45) (h : isErR 4 (numberR (s.drop a)) = true)  :
    (wk7 a s t0 t1 t2) := by
  have hw1 : IntKind.i64.wrap ((a : Int) + 1) = ((a + 1 : Nat) : Int) := by rw [wr64 (by omega)]; rfl
  have hb0 := u8nat (s.getD a 0)
  have E' := (⟨hw1, hl⟩ : _ ∧ _)
  refine bcase (fun gg0 => (rEn baseTKl 400 (99) 900 80 (hI 9 85185) ([]) [(wk3 a s), (wk10 a s), (wk11 a s), (wk12 a s), (wk17 a s), ((wk1 a s) == 45, true), (wk13 a s)] wk2 (oc7 ?_ ?_ ?_ ?_ gg0 ?_ ?_ okn) ?_)) fun gg0 => (rEn baseTKl 400 (99) 900 80 (hI 8 23745) ([]) [(wk3 a s), (wk10 a s), (wk11 a s), (wk12 a s), (figI (wk1 a s), true), (wk13 a s)] wk2 (oc6 ?_ ?_ ?_ ?_ gg0 ?_ okn) ?_)
  all_goals try dsimp only [wk3, wk10, wk1, wk11, wk12, wk17, wk13, wk6, wk2] at *
  all_goals exact sc27

set_option maxHeartbeats 4000000 in
theorem tkUf (t0 t1 t2 : List UInt8) (s : List UInt8) (a : Nat) (ha : a < s.length) (hs : s.length ≤ 4000) (n1 : (s.getD a 0).toNat ≠ 10) (n2 : (s.getD a 0).toNat ≠ 59) (hl : ltrI ((s.getD a 0).toNat : Int) = false) (hf : figI ((s.getD a 0).toNat : Int) = true ∨ (s.getD a 0).toNat = 45) (h : isErR 5 (numberR (s.drop a)) = true)  :
    (wk8 a s t0 t1 t2) := by
  have hw1 : IntKind.i64.wrap ((a : Int) + 1) = ((a + 1 : Nat) : Int) := by rw [wr64 (by omega)]; rfl
  have hb0 := u8nat (s.getD a 0)
  have E' := (⟨hw1, hl⟩ : _ ∧ _)
  refine bcase (fun gg0 => (rEn baseTKf 400 (99) 900 80 (hI 9 85185) ([]) [(wk3 a s), (wk10 a s), (wk11 a s), (wk12 a s), (wk17 a s), ((wk1 a s) == 45, true), (wk14 a s)] wk2 (oc7 ?_ ?_ ?_ ?_ gg0 ?_ ?_ okn) ?_)) fun gg0 => (rEn baseTKf 400 (99) 900 80 (hI 8 23745) ([]) [(wk3 a s), (wk10 a s), (wk11 a s), (wk12 a s), (figI (wk1 a s), true), (wk14 a s)] wk2 (oc6 ?_ ?_ ?_ ?_ gg0 ?_ okn) ?_)
  all_goals try dsimp only [wk3, wk10, wk1, wk11, wk12, wk17, wk14, wk6, wk2] at *
  all_goals exact sc27

set_option maxHeartbeats 4000000 in
theorem tkQ (t0 t1 t2 : List UInt8) (s : List UInt8) (a : Nat) (ha : a < s.length) (hs : s.length ≤ 4000) (n1 : (s.getD a 0).toNat ≠ 10) (n2 : (s.getD a 0).toNat ≠ 59) (hl : ltrI ((s.getD a 0).toNat : Int) = false) (hf : figI ((s.getD a 0).toNat : Int) = false) (n3 : (s.getD a 0).toNat ≠ 45) (n4 : (s.getD a 0).toNat = 34) (h : isOkR (txR s a) = true)  :
    (RunsTo Tryd.prog 51 [.code (bodyOf Tryd.f51)] (envOf [vP 63] Tryd.f51.ntmps) (wk4 a s t0 t1 t2) 80 (.tup [(true, tkT (3) ([]) (0) (.vl 141 (fun _ => 0) 2 [] (fun _ => ((okT (txR s a)).ps).length))), (false, .ve0)]) (Sx.look (rdW 63 s (a + okN (txR s a) : Nat) ++ prE 141 ((okT (txR s a)).ps))) 6000) := by
  have hw1 : IntKind.i64.wrap ((a : Int) + 1) = ((a + 1 : Nat) : Int) := by rw [wr64 (by omega)]; rfl
  have hb0 := u8nat (s.getD a 0)
  have E' := (⟨hw1, hl, hf⟩ : _ ∧ _ ∧ _)
  refine rEn baseTKo 400 (99) 900 80 (hI 10 330945) ([((141 : Nat), Rn.to (162 : Nat))]) [(wk3 a s), (wk10 a s), (wk11 a s), (wk12 a s), (wk17 a s), ((wk1 a s) == 45, false), ((wk1 a s) == 34, true), (decide (0 ≤ (a : Int)) && (decide ((a : Int).toNat < s.length) && (decide (s.length ≤ (10000 : Nat)) && isOkR (wk18 a s))), true)] ((((3 : Int) = (3 : Int) ∧ ([] : List UInt8) = [] ∧ (0 : Int) = (0 : Int) ∧ (0 = 0 ∧ (okT (txR s a)).4.length = (okT (wk18 a s)).4.length) ∧ (0 : Int) = (0 : Int)) ∧ True ∧ True) ∧ (s = s ∧ (↑(a + okN (txR s a)) : Int) = (↑((a : Int).toNat + okN (wk18 a s)) : Int)) ∧ (okT (txR s a)).4.length = (okT (wk18 a s)).4.length ∧ (∀ (i : Nat), i < (okT (txR s a)).4.length → prV (okT (txR s a)).4 [i] = prV (okT (wk18 a s)).4 [i]) ∧ ∀ (i : Nat), i < (okT (txR s a)).4.length → prL (okT (txR s a)).4 [i] = prL (okT (wk18 a s)).4 [i]) (oc8 ?_ ?_ ?_ ?_ ?_ ?_ ?_ ?_ okn) ?_
  all_goals try dsimp only [wk3, wk10, wk1, wk11, wk12, wk17, wk18]
  all_goals exact sc27

set_option maxHeartbeats 4000000 in
theorem tkQs (t0 t1 t2 : List UInt8) (s : List UInt8) (a : Nat) (ha : a < s.length) (hs : s.length ≤ 4000) (n1 : (s.getD a 0).toNat ≠ 10) (n2 : (s.getD a 0).toNat ≠ 59) (hl : ltrI ((s.getD a 0).toNat : Int) = false) (hf : figI ((s.getD a 0).toNat : Int) = false) (n3 : (s.getD a 0).toNat ≠ 45) (n4 : (s.getD a 0).toNat = 34) (h : isErR 3 (txR s a) = true)  :
    (RunsTo Tryd.prog 51 [.code (bodyOf Tryd.f51)] (envOf [vP 63] Tryd.f51.ntmps) (wk4 a s t0 t1 t2) 80 (.tup [wk19, (false, vErr 5)]) (Sx.look ([])) 6000) := by
  have hw1 : IntKind.i64.wrap ((a : Int) + 1) = ((a + 1 : Nat) : Int) := by rw [wr64 (by omega)]; rfl
  have hb0 := u8nat (s.getD a 0)
  have E' := (⟨hw1, hl, hf⟩ : _ ∧ _ ∧ _)
  refine rEn baseTKs 400 (99) 900 80 (hI 10 330945) ([]) [(wk3 a s), (wk10 a s), (wk11 a s), (wk12 a s), (wk17 a s), ((wk1 a s) == 45, false), ((wk1 a s) == 34, true), (decide (0 ≤ (a : Int)) && (decide ((a : Int).toNat < s.length) && (decide (s.length ≤ (10000 : Nat)) && isErR (3 : Nat) (wk18 a s))), true)] wk2 (oc8 ?_ ?_ ?_ ?_ ?_ ?_ ?_ ?_ okn) ?_
  all_goals try dsimp only [wk3, wk10, wk1, wk11, wk12, wk17, wk18, wk2]
  all_goals exact sc27

set_option maxHeartbeats 4000000 in
theorem tkQf (t0 t1 t2 : List UInt8) (s : List UInt8) (a : Nat) (ha : a < s.length) (hs : s.length ≤ 4000) (n1 : (s.getD a 0).toNat ≠ 10) (n2 : (s.getD a 0).toNat ≠ 59) (hl : ltrI ((s.getD a 0).toNat : Int) = false) (hf : figI ((s.getD a 0).toNat : Int) = false) (n3 : (s.getD a 0).toNat ≠ 45) (n4 : (s.getD a 0).toNat = 34) (h : isErR 5 (txR s a) = true)  :
    (wk8 a s t0 t1 t2) := by
  have hw1 : IntKind.i64.wrap ((a : Int) + 1) = ((a + 1 : Nat) : Int) := by rw [wr64 (by omega)]; rfl
  have hb0 := u8nat (s.getD a 0)
  have E' := (⟨hw1, hl, hf⟩ : _ ∧ _ ∧ _)
  refine rEn baseTKf 400 (99) 900 80 (hI 10 330945) ([]) [(wk3 a s), (wk10 a s), (wk11 a s), (wk12 a s), (wk17 a s), ((wk1 a s) == 45, false), ((wk1 a s) == 34, true), (decide (0 ≤ (a : Int)) && (decide ((a : Int).toNat < s.length) && (decide (s.length ≤ (10000 : Nat)) && isErR (5 : Nat) (wk18 a s))), true)] wk2 (oc8 ?_ ?_ ?_ ?_ ?_ ?_ ?_ ?_ okn) ?_
  all_goals try dsimp only [wk3, wk10, wk1, wk11, wk12, wk17, wk18, wk2]
  all_goals exact sc27

set_option maxHeartbeats 4000000 in
theorem tkQl (t0 t1 t2 : List UInt8) (s : List UInt8) (a : Nat) (ha : a < s.length) (hs : s.length ≤ 4000) (n1 : (s.getD a 0).toNat ≠ 10) (n2 : (s.getD a 0).toNat ≠ 59) (hl : ltrI ((s.getD a 0).toNat : Int) = false) (hf : figI ((s.getD a 0).toNat : Int) = false) (n3 : (s.getD a 0).toNat ≠ 45) (n4 : (s.getD a 0).toNat = 34) (h : isErR 4 (txR s a) = true)  :
    (wk7 a s t0 t1 t2) := by
  have hw1 : IntKind.i64.wrap ((a : Int) + 1) = ((a + 1 : Nat) : Int) := by rw [wr64 (by omega)]; rfl
  have hb0 := u8nat (s.getD a 0)
  have E' := (⟨hw1, hl, hf⟩ : _ ∧ _ ∧ _)
  refine rEn baseTKl 400 (99) 900 80 (hI 10 330945) ([]) [(wk3 a s), (wk10 a s), (wk11 a s), (wk12 a s), (wk17 a s), ((wk1 a s) == 45, false), ((wk1 a s) == 34, true), (decide (0 ≤ (a : Int)) && (decide ((a : Int).toNat < s.length) && (decide (s.length ≤ (10000 : Nat)) && isErR (4 : Nat) (wk18 a s))), true)] wk2 (oc8 ?_ ?_ ?_ ?_ ?_ ?_ ?_ ?_ okn) ?_
  all_goals try dsimp only [wk3, wk10, wk1, wk11, wk12, wk17, wk18, wk2]
  all_goals exact sc27

set_option maxHeartbeats 4000000 in
theorem tkG (t0 t1 t2 : List UInt8) (s : List UInt8) (a : Nat) (ha : a < s.length) (hs : s.length ≤ 4000) (n1 : (s.getD a 0).toNat ≠ 10) (n2 : (s.getD a 0).toNat ≠ 59) (hl : ltrI ((s.getD a 0).toNat : Int) = false) (hf : figI ((s.getD a 0).toNat : Int) = false) (n3 : (s.getD a 0).toNat ≠ 45) (n4 : (s.getD a 0).toNat ≠ 34) (h : isOkR (signR (s.drop a)) = true)  :
    (RunsTo Tryd.prog 51 [.code (bodyOf Tryd.f51)] (envOf [vP 63] Tryd.f51.ntmps) (wk4 a s t0 t1 t2) 80 (.tup [(true, tkT (4) ((okT (signR (s.drop a))).text) (0) (.vl 141 (fun _ => 0) 2 [] (fun _ => wk16.length))), (false, .ve0)]) (Sx.look (rdW 63 s (a + okN (signR (s.drop a)) : Nat) ++ prE 141 wk16)) 6000) := by
  have hw1 : IntKind.i64.wrap ((a : Int) + 1) = ((a + 1 : Nat) : Int) := by rw [wr64 (by omega)]; rfl
  have hb0 := u8nat (s.getD a 0)
  have E' := (⟨hw1, hl, hf⟩ : _ ∧ _ ∧ _)
  refine rEn baseTKo 400 (99) 900 80 (hI 10 265409) ([((141 : Nat), Rn.nil (2 : Nat))]) [(wk3 a s), (wk10 a s), (wk11 a s), (wk12 a s), (wk17 a s), ((wk1 a s) == 45, false), ((wk1 a s) == 34, false), (decide (0 ≤ (a : Int)) && (decide ((a : Int).toNat < s.length) && (decide (s.length ≤ (10000 : Nat)) && isOkR (signR (wk6 a s)))), true)] ((((4 : Int) = (4 : Int) ∧ (okT (signR (List.drop a s))).2 = (okT (signR (wk6 a s))).2 ∧ (0 : Int) = (0 : Int) ∧ 0 = 0 ∧ (0 : Int) = (0 : Int)) ∧ True ∧ True) ∧ (s = s ∧ (↑(a + okN (signR (List.drop a s))) : Int) = (↑((a : Int).toNat + okN (signR (wk6 a s))) : Int)) ∧ 0 = 0) (oc8 ?_ ?_ ?_ ?_ ?_ ?_ ?_ ?_ okn) ?_
  all_goals try dsimp only [wk3, wk10, wk1, wk11, wk12, wk17, wk6]
  all_goals exact sc27

set_option maxHeartbeats 4000000 in
theorem tkGf (t0 t1 t2 : List UInt8) (s : List UInt8) (a : Nat) (ha : a < s.length) (hs : s.length ≤ 4000) (n1 : (s.getD a 0).toNat ≠ 10) (n2 : (s.getD a 0).toNat ≠ 59) (hl : ltrI ((s.getD a 0).toNat : Int) = false) (hf : figI ((s.getD a 0).toNat : Int) = false) (n3 : (s.getD a 0).toNat ≠ 45) (n4 : (s.getD a 0).toNat ≠ 34) (h : isErR 5 (signR (s.drop a)) = true)  :
    (wk8 a s t0 t1 t2) := by
  have hw1 : IntKind.i64.wrap ((a : Int) + 1) = ((a + 1 : Nat) : Int) := by rw [wr64 (by omega)]; rfl
  have hb0 := u8nat (s.getD a 0)
  have E' := (⟨hw1, hl, hf⟩ : _ ∧ _ ∧ _)
  refine rEn baseTKf 400 (99) 900 80 (hI 10 265409) ([]) [(wk3 a s), (wk10 a s), (wk11 a s), (wk12 a s), (wk17 a s), ((wk1 a s) == 45, false), ((wk1 a s) == 34, false), (decide (0 ≤ (a : Int)) && (decide ((a : Int).toNat < s.length) && (decide (s.length ≤ (10000 : Nat)) && isErR (5 : Nat) (signR (wk6 a s)))), true)] wk2 (oc8 ?_ ?_ ?_ ?_ ?_ ?_ ?_ ?_ okn) ?_
  all_goals try dsimp only [wk3, wk10, wk1, wk11, wk12, wk17, wk6, wk2]
  all_goals exact sc27

def TKR (s : List UInt8) (a : Nat) (X : SV → HF → Prop) : TR → Prop
  | .ok t n => X (.tup [(true, tkT (t.kind) (t.text) (t.num) (.vl 141 (fun _ => 0) 2 [] (fun _ => (t.ps).length))), (false, .ve0)]) (Sx.look (rdW 63 s (a + n : Nat) ++ prE 141 (t.ps)))
  | .err e => (e = 3 ∧ X (.tup [(true, tkT (0) ([]) (0) .vl0), (false, vErr 5)]) (Sx.look [])) ∨ (e = 5 ∧ X (.tup [(true, tkT (0) ([]) (0) .vl0), (false, vErr 6)]) (Sx.look [])) ∨ (e = 4 ∧ X (.tup [(true, tkT (0) ([]) (0) .vl0), (false, vErr 0)]) (Sx.look []))
theorem tok_eq (s : List UInt8) (a : Nat) (ha : a < s.length) : tokR (s.drop a) = if s.getD a 0 = 10 ∨ s.getD a 0 = 59 then .ok ⟨5, [], 0, [], 0⟩ 1 else if ltrI ((s.getD a 0).toNat : Int) = true then nameR (s.drop a) else if figI ((s.getD a 0).toNat : Int) = true ∨ s.getD a 0 = 45 then numberR (s.drop a) else if s.getD a 0 = 34 then txR s a else signR (s.drop a) := by
  have hd := drop_at s ha
  unfold txR
  rw [hd]; rfl
theorem numK_ok {m : Bool} {r : List UInt8} {t : Wt} {n : Nat} (h : numK m r = .ok t n) : t = ⟨2, [], t.num, [], 0⟩ := by
  unfold numK at h
  split at h
  · cases h
  · split at h
    · cases h
    · injection h with h1 h2; rw [← h1]
theorem number_ok {l : List UInt8} {t : Wt} {n : Nat} (h : numberR l = .ok t n) : t = ⟨2, [], t.num, [], 0⟩ := by
  cases l with
  | nil => exact numK_ok h
  | cons c r =>
    rw [numberR] at h
    split at h <;> exact numK_ok h
theorem number_e {l : List UInt8} {e : Nat} (h : numberR l = .err e) : e = 4 ∨ e = 5 := by
  have hk : ∀ {m r e}, numK m r = .err e → e = 4 ∨ e = 5 := by
    intro m r e h
    unfold numK at h
    split at h
    · injection h with h; exact .inl h.symm
    · split at h
      · injection h with h; exact .inr h.symm
      · cases h
  cases l with
  | nil => exact hk h
  | cons c r =>
    rw [numberR] at h
    split at h <;> exact hk h
theorem text_ok : ∀ (f : Nat) (l : List UInt8) (P : List Pc) (n : Nat) {t : Wt} {m : Nat}, textR f l P n = .ok t m → t = ⟨3, [], 0, t.ps, 0⟩
  | 0, l, P, n, t, m, h => by cases h
  | f + 1, [], P, n, t, m, h => by cases h
  | f + 1, c :: r, P, n, t, m, h => by
    rw [textR] at h
    split at h
    · injection h with h1 h2; rw [← h1]
    · split at h
      · cases h
      · split at h
        · exact text_ok f _ _ _ h
        · cases h
      · split at h
        · exact text_ok f _ _ _ h
        · cases h
theorem text_e : ∀ (f : Nat) (l : List UInt8) (P : List Pc) (n : Nat) {e : Nat}, textR f l P n = .err e → (∀ q, (varR q = .err e ∨ escR q = .err e) → e = 3 ∨ e = 4 ∨ e = 5) → e = 3 ∨ e = 4 ∨ e = 5
  | 0, l, P, n, e, h, _ => by injection h with h; exact .inl h.symm
  | f + 1, [], P, n, e, h, _ => by injection h with h; exact .inl h.symm
  | f + 1, c :: r, P, n, e, h, hq => by
    rw [textR] at h
    split at h
    · cases h
    · split at h
      · rename_i k hk
        injection h with h
        subst h
        rw [oneR] at hk
        split at hk
        · exact hq _ (.inl hk)
        · split at hk
          · injection hk with hk; omega
          · split at hk
            · exact hq _ (.inr hk)
            · cases hk
      · split at h
        · exact text_e f _ _ _ h hq
        · injection h with h; omega
      · split at h
        · exact text_e f _ _ _ h hq
        · injection h with h; omega
theorem esc_e {q : List UInt8} {e : Nat} (h : varR q = .err e ∨ escR q = .err e) : e = 3 ∨ e = 4 ∨ e = 5 := by
  rcases h with h | h
  · cases q with
    | nil => injection h with h; omega
    | cons d r =>
      rw [varR] at h
      repeat' split at h
      all_goals first | (cases h; done) | (injection h with h; omega)
  · have hx : ∀ {r e}, hexR r = .err e → e = 3 ∨ e = 4 ∨ e = 5 := by
      intro r e h
      match r, h with
      | [], h => injection h with h; omega
      | [x], h => rw [hexR] at h; split at h <;> (injection h with h; omega)
      | x :: y :: q, h =>
        rw [hexR] at h
        repeat' split at h
        all_goals first | (cases h; done) | (injection h with h; omega)
    cases q with
    | nil => injection h with h; omega
    | cons d r =>
      rw [escR] at h
      repeat' split at h
      all_goals first | (cases h; done) | exact hx h | (injection h with h; omega)
theorem sign_ok {c : UInt8} {r : List UInt8} {t : Wt} {n : Nat} (h : signR (c :: r) = .ok t n) : t = ⟨4, t.text, 0, [], 0⟩ := by
  rw [sign_eq] at h
  split at h
  · injection h with h1 h2; rw [← h1]
  · split at h
    · injection h with h1 h2; rw [← h1]
    · cases h
theorem sign_e {c : UInt8} {r : List UInt8} {e : Nat} (h : signR (c :: r) = .err e) : e = 5 := by
  rw [sign_eq] at h
  split at h
  · cases h
  · split at h
    · cases h
    · injection h with h; exact h.symm
theorem tokT (t0 t1 t2 s : List UInt8) (a : Nat) (ha : a < s.length) (hs : s.length ≤ 4000) : TKR s a (fun v L' => RunsTo Tryd.prog 51 [.code (bodyOf Tryd.f51)] (envOf [vP 63] Tryd.f51.ntmps) (Sx.look (sentEnts 23 213 [(5, t0), (6, t1), (0, t2)] ++ (rdW 63 s (a : Nat)))) 80 (v) (L') 6000) (tokR (s.drop a)) := by
  rw [tok_eq s a ha]
  have hn : ∀ {k : UInt8}, s.getD a 0 ≠ k → (s.getD a 0).toNat ≠ k.toNat := fun h => nat_ne h
  by_cases h1 : s.getD a 0 = 10 ∨ s.getD a 0 = 59
  · rw [if_pos h1]
    exact tkE t0 t1 t2 s a ha hs (h1.imp (fun e => by rw [e]; rfl) (fun e => by rw [e]; rfl))
  rw [if_neg h1]
  have n1 : (s.getD a 0).toNat ≠ 10 := hn (fun e => h1 (.inl e))
  have n2 : (s.getD a 0).toNat ≠ 59 := hn (fun e => h1 (.inr e))
  cases hl : ltrI ((s.getD a 0).toNat : Int) with
  | true =>
    rw [if_pos rfl, nameR]
    by_cases h5 : 24 < spanR goI (s.drop a)
    · rw [if_pos h5]; exact .inr (.inr ⟨rfl, tkNl t0 t1 t2 s a ha hs n1 n2 hl h5⟩)
    · rw [if_neg h5]
      have q := tkN t0 t1 t2 s a ha hs n1 n2 hl (by omega)
      unfold txt at q
      rw [take_drop] at q
      exact q
  | false =>
    rw [if_neg (by decide)]
    by_cases h2 : figI ((s.getD a 0).toNat : Int) = true ∨ s.getD a 0 = 45
    · rw [if_pos h2]
      have hf : figI ((s.getD a 0).toNat : Int) = true ∨ (s.getD a 0).toNat = 45 := h2.imp id (fun e => by rw [e]; rfl)
      cases hz : numberR (s.drop a) with
      | ok t n =>
        have q := tkU t0 t1 t2 s a ha hs n1 n2 hl hf (by rw [hz]; rfl)
        rw [hz] at q
        have e := number_ok hz
        rw [e]
        exact q
      | err e =>
        rcases number_e hz with rfl | rfl
        · exact .inr (.inr ⟨rfl, tkUl t0 t1 t2 s a ha hs n1 n2 hl hf (by rw [hz]; rfl)⟩)
        · exact .inr (.inl ⟨rfl, tkUf t0 t1 t2 s a ha hs n1 n2 hl hf (by rw [hz]; rfl)⟩)
    · rw [if_neg h2]
      have hf : figI ((s.getD a 0).toNat : Int) = false := by
        cases hx : figI ((s.getD a 0).toNat : Int) with
        | true => exact absurd (.inl hx) h2
        | false => rfl
      have n3 : (s.getD a 0).toNat ≠ 45 := hn (fun e => h2 (.inr e))
      by_cases h3 : s.getD a 0 = 34
      · rw [if_pos h3]
        have h3 : (s.getD a 0).toNat = 34 := by rw [h3]; rfl
        cases hz : txR s a with
        | ok t n =>
          have q := tkQ t0 t1 t2 s a ha hs n1 n2 hl hf n3 h3 (by rw [hz]; rfl)
          rw [hz] at q
          have e := text_ok _ _ _ _ hz
          rw [e]
          exact q
        | err e =>
          rcases text_e _ _ _ _ hz (fun q => esc_e) with rfl | rfl | rfl
          · exact .inl ⟨rfl, tkQs t0 t1 t2 s a ha hs n1 n2 hl hf n3 h3 (by rw [hz]; rfl)⟩
          · exact .inr (.inr ⟨rfl, tkQl t0 t1 t2 s a ha hs n1 n2 hl hf n3 h3 (by rw [hz]; rfl)⟩)
          · exact .inr (.inl ⟨rfl, tkQf t0 t1 t2 s a ha hs n1 n2 hl hf n3 h3 (by rw [hz]; rfl)⟩)
      · rw [if_neg h3]
        have n4 : (s.getD a 0).toNat ≠ 34 := hn h3
        cases hz : signR (s.drop a) with
        | ok t n =>
          have q := tkG t0 t1 t2 s a ha hs n1 n2 hl hf n3 n4 (by rw [hz]; rfl)
          rw [hz] at q
          rw [drop_at s ha] at hz
          have e := sign_ok hz
          rw [e]
          exact q
        | err e =>
          have he : e = 5 := by rw [drop_at s ha] at hz; exact sign_e hz
          subst he
          exact .inr (.inl ⟨rfl, tkGf t0 t1 t2 s a ha hs n1 n2 hl hf n3 n4 (by rw [hz]; rfl)⟩)
theorem tokOkT (t0 t1 t2 s : List UInt8) (a : Nat) (ha : a < s.length) (hs : s.length ≤ 4000) (h : isOkR (tokR (s.drop a)) = true) : RunsTo Tryd.prog 51 [.code (bodyOf Tryd.f51)] (envOf [vP 63] Tryd.f51.ntmps) (Sx.look (sentEnts 23 213 [(5, t0), (6, t1), (0, t2)] ++ (rdW 63 s (a : Nat)))) 80 (.tup [(true, tkT ((okT (tokR (s.drop a))).kind) ((okT (tokR (s.drop a))).text) ((okT (tokR (s.drop a))).num) (.vl 141 (fun _ => 0) 2 [] (fun _ => ((okT (tokR (s.drop a))).ps).length))), (false, .ve0)]) (Sx.look (rdW 63 s (a + okN (tokR (s.drop a)) : Nat) ++ prE 141 ((okT (tokR (s.drop a))).ps))) 6000 := by
  have q := tokT t0 t1 t2 s a ha hs
  cases hz : (tokR (s.drop a)) with
  | ok t m => rw [hz] at q; exact q
  | err e =>
    rw [hz] at h; cases h
theorem tokShT (t0 t1 t2 s : List UInt8) (a : Nat) (ha : a < s.length) (hs : s.length ≤ 4000) (h : isErR 3 (tokR (s.drop a)) = true) : RunsTo Tryd.prog 51 [.code (bodyOf Tryd.f51)] (envOf [vP 63] Tryd.f51.ntmps) (Sx.look (sentEnts 23 213 [(5, t0), (6, t1), (0, t2)] ++ (rdW 63 s (a : Nat)))) 80 (.tup [(true, tkT (0) ([]) (0) .vl0), (false, vErr 5)]) (Sx.look ([])) 6000 := by
  have q := tokT t0 t1 t2 s a ha hs
  cases hz : (tokR (s.drop a)) with
  | ok t m =>
    rw [hz] at h; cases h
  | err e =>
    rw [hz] at h q
    have he : e = 3 := by simpa [isErR] using h
    subst he
    simpa [TKR] using q
theorem tokFoT (t0 t1 t2 s : List UInt8) (a : Nat) (ha : a < s.length) (hs : s.length ≤ 4000) (h : isErR 5 (tokR (s.drop a)) = true) : RunsTo Tryd.prog 51 [.code (bodyOf Tryd.f51)] (envOf [vP 63] Tryd.f51.ntmps) (Sx.look (sentEnts 23 213 [(5, t0), (6, t1), (0, t2)] ++ (rdW 63 s (a : Nat)))) 80 (.tup [(true, tkT (0) ([]) (0) .vl0), (false, vErr 6)]) (Sx.look ([])) 6000 := by
  have q := tokT t0 t1 t2 s a ha hs
  cases hz : (tokR (s.drop a)) with
  | ok t m =>
    rw [hz] at h; cases h
  | err e =>
    rw [hz] at h q
    have he : e = 5 := by simpa [isErR] using h
    subst he
    simpa [TKR] using q
theorem tokLoT (t0 t1 t2 s : List UInt8) (a : Nat) (ha : a < s.length) (hs : s.length ≤ 4000) (h : isErR 4 (tokR (s.drop a)) = true) : RunsTo Tryd.prog 51 [.code (bodyOf Tryd.f51)] (envOf [vP 63] Tryd.f51.ntmps) (Sx.look (sentEnts 23 213 [(5, t0), (6, t1), (0, t2)] ++ (rdW 63 s (a : Nat)))) 80 (.tup [(true, tkT (0) ([]) (0) .vl0), (false, vErr 0)]) (Sx.look ([])) 6000 := by
  have q := tokT t0 t1 t2 s a ha hs
  cases hz : (tokR (s.drop a)) with
  | ok t m =>
    rw [hz] at h; cases h
  | err e =>
    rw [hz] at h q
    have he : e = 4 := by simpa [isErR] using h
    subst he
    simpa [TKR] using q
def tokOkP : PC := { args := [.v (.vp 63)], heap := [⟨63, true, 2, .tc (.vs 0) (.tc (.vi .i64 1) .t0)⟩], gs := [5, 6, 0], G := 23, tp := 213, n := 80, n' := 6000, cond := fun e => decide (0 ≤ eI e 1 []) && (decide ((eI e 1 []).toNat < (eS e 0 []).length) && (decide ((eS e 0 []).length ≤ 4000) && isOkR (tokR ((eS e 0 []).drop (eI e 1 []).toNat)))), v := fun e => .tup [(true, tkT ((okT (tokR ((eS e 0 []).drop (eI e 1 []).toNat))).kind) ((okT (tokR ((eS e 0 []).drop (eI e 1 []).toNat))).text) ((okT (tokR ((eS e 0 []).drop (eI e 1 []).toNat))).num) (.vl 141 (fun _ => 0) 2 [] (fun _ => ((okT (tokR ((eS e 0 []).drop (eI e 1 []).toNat))).ps).length))), (false, .ve0)], post := fun e => rdW 63 (eS e 0 []) ((eI e 1 []).toNat + okN (tokR ((eS e 0 []).drop (eI e 1 []).toNat)) : Nat) ++ prE 141 ((okT (tokR ((eS e 0 []).drop (eI e 1 []).toNat))).ps) }
theorem tokOkP_pc : PC.Runs Tryd.prog 51 Tryd.f51 (bodyOf Tryd.f51) tokOkP := ⟨Tryd.func51, by kernel_rfl, (fun g hg => by first | (cases hg; done) | (revert g; show ∀ g ∈ ([5, 6, 0] : List Nat), g < 23; decide)), fun e H hc => by
  have hc : (decide (0 ≤ eI e 1 []) && (decide ((eI e 1 []).toNat < (eS e 0 []).length) && (decide ((eS e 0 []).length ≤ 4000) && isOkR (tokR ((eS e 0 []).drop (eI e 1 []).toNat))))) = true := hc
  try simp only [Bool.and_eq_true, decide_eq_true_eq, Nat.beq_eq] at hc
  exact by obtain ⟨h1, h2, h3, h4⟩ := hc; have hj : ((eI e 1 []).toNat : Int) = eI e 1 [] := Int.toNat_of_nonneg h1; have q := tokOkT (textAt H 28) (textAt H 29) (textAt H 23) (eS e 0 []) (eI e 1 []).toNat h2 h3 h4; rw [hj] at q; exact q⟩
def tokShP : PC := { args := [.v (.vp 63)], heap := [⟨63, true, 2, .tc (.vs 0) (.tc (.vi .i64 1) .t0)⟩], gs := [5, 6, 0], G := 23, tp := 213, n := 80, n' := 6000, cond := fun e => decide (0 ≤ eI e 1 []) && (decide ((eI e 1 []).toNat < (eS e 0 []).length) && (decide ((eS e 0 []).length ≤ 4000) && isErR 3 (tokR ((eS e 0 []).drop (eI e 1 []).toNat)))), v := fun e => .tup [(true, tkT (0) ([]) (0) .vl0), (false, vErr 5)], post := fun e => [] }
theorem tokShP_pc : PC.Runs Tryd.prog 51 Tryd.f51 (bodyOf Tryd.f51) tokShP := ⟨Tryd.func51, by kernel_rfl, (fun g hg => by first | (cases hg; done) | (revert g; show ∀ g ∈ ([5, 6, 0] : List Nat), g < 23; decide)), fun e H hc => by
  have hc : (decide (0 ≤ eI e 1 []) && (decide ((eI e 1 []).toNat < (eS e 0 []).length) && (decide ((eS e 0 []).length ≤ 4000) && isErR 3 (tokR ((eS e 0 []).drop (eI e 1 []).toNat))))) = true := hc
  try simp only [Bool.and_eq_true, decide_eq_true_eq, Nat.beq_eq] at hc
  exact by obtain ⟨h1, h2, h3, h4⟩ := hc; have hj : ((eI e 1 []).toNat : Int) = eI e 1 [] := Int.toNat_of_nonneg h1; have q := tokShT (textAt H 28) (textAt H 29) (textAt H 23) (eS e 0 []) (eI e 1 []).toNat h2 h3 h4; rw [hj] at q; exact q⟩
def tokFoP : PC := { args := [.v (.vp 63)], heap := [⟨63, true, 2, .tc (.vs 0) (.tc (.vi .i64 1) .t0)⟩], gs := [5, 6, 0], G := 23, tp := 213, n := 80, n' := 6000, cond := fun e => decide (0 ≤ eI e 1 []) && (decide ((eI e 1 []).toNat < (eS e 0 []).length) && (decide ((eS e 0 []).length ≤ 4000) && isErR 5 (tokR ((eS e 0 []).drop (eI e 1 []).toNat)))), v := fun e => .tup [(true, tkT (0) ([]) (0) .vl0), (false, vErr 6)], post := fun e => [] }
theorem tokFoP_pc : PC.Runs Tryd.prog 51 Tryd.f51 (bodyOf Tryd.f51) tokFoP := ⟨Tryd.func51, by kernel_rfl, (fun g hg => by first | (cases hg; done) | (revert g; show ∀ g ∈ ([5, 6, 0] : List Nat), g < 23; decide)), fun e H hc => by
  have hc : (decide (0 ≤ eI e 1 []) && (decide ((eI e 1 []).toNat < (eS e 0 []).length) && (decide ((eS e 0 []).length ≤ 4000) && isErR 5 (tokR ((eS e 0 []).drop (eI e 1 []).toNat))))) = true := hc
  try simp only [Bool.and_eq_true, decide_eq_true_eq, Nat.beq_eq] at hc
  exact by obtain ⟨h1, h2, h3, h4⟩ := hc; have hj : ((eI e 1 []).toNat : Int) = eI e 1 [] := Int.toNat_of_nonneg h1; have q := tokFoT (textAt H 28) (textAt H 29) (textAt H 23) (eS e 0 []) (eI e 1 []).toNat h2 h3 h4; rw [hj] at q; exact q⟩
def tokLoP : PC := { args := [.v (.vp 63)], heap := [⟨63, true, 2, .tc (.vs 0) (.tc (.vi .i64 1) .t0)⟩], gs := [5, 6, 0], G := 23, tp := 213, n := 80, n' := 6000, cond := fun e => decide (0 ≤ eI e 1 []) && (decide ((eI e 1 []).toNat < (eS e 0 []).length) && (decide ((eS e 0 []).length ≤ 4000) && isErR 4 (tokR ((eS e 0 []).drop (eI e 1 []).toNat)))), v := fun e => .tup [(true, tkT (0) ([]) (0) .vl0), (false, vErr 0)], post := fun e => [] }
theorem tokLoP_pc : PC.Runs Tryd.prog 51 Tryd.f51 (bodyOf Tryd.f51) tokLoP := ⟨Tryd.func51, by kernel_rfl, (fun g hg => by first | (cases hg; done) | (revert g; show ∀ g ∈ ([5, 6, 0] : List Nat), g < 23; decide)), fun e H hc => by
  have hc : (decide (0 ≤ eI e 1 []) && (decide ((eI e 1 []).toNat < (eS e 0 []).length) && (decide ((eS e 0 []).length ≤ 4000) && isErR 4 (tokR ((eS e 0 []).drop (eI e 1 []).toNat))))) = true := hc
  try simp only [Bool.and_eq_true, decide_eq_true_eq, Nat.beq_eq] at hc
  exact by obtain ⟨h1, h2, h3, h4⟩ := hc; have hj : ((eI e 1 []).toNat : Int) = eI e 1 [] := Int.toNat_of_nonneg h1; have q := tokLoT (textAt H 28) (textAt H 29) (textAt H 23) (eS e 0 []) (eI e 1 []).toNat h2 h3 h4; rw [hj] at q; exact q⟩
end Go.Proofs.YtaleenklamognaaDoor

set_option linter.unusedSimpArgs false
set_option linter.unusedVariables false
set_option maxRecDepth 100000
namespace Go.Proofs.YtaleenklamognaaDoor
open Go.Sx

open WordR
def zW : Wt := ⟨0, [], 0, [], 0⟩
def wK (T : List Wt) : Ix → Int := fun is => ((T.getD (is.headD 0) zW).kind : Int)
def wX (T : List Wt) : Ix → List UInt8 := fun is => (T.getD (is.headD 0) zW).text
def wN (T : List Wt) : Ix → Int := fun is => (T.getD (is.headD 0) zW).num
def wP (T : List Wt) : Ix → Int := fun is => ((T.getD (is.headD 0) zW).pos : Int)
def wM (T : List Wt) : Ix → Nat := fun is => T.length - 1 - is.headD 0
def wL (T : List Wt) : Ix → Nat := fun is => (T.getD (is.headD 0) zW).ps.length
def gpL (T : List Wt) : Nat → Nat := fun m => (T.getD (T.length - 1 - m) zW).ps.length
def gpV (T : List Wt) : Ix → List UInt8 := fun is => ((T.getD (T.length - 1 - is.headD 0) zW).ps.getD (is.tail.headD 0) zP).var
def gpT (T : List Wt) : Ix → List UInt8 := fun is => ((T.getD (T.length - 1 - is.headD 0) zW).ps.getD (is.tail.headD 0) zP).lit
def wtE (l f : Nat) (T : List Wt) : List Ent := [⟨l, true, none, 5, .ta T.length (.tc (.vi .i64 (wK T)) (.tc (.vs (wX T)) (.tc (.vi .i64 (wN T)) (.tc (.vl f (wM T) 2 [] (wL T)) (.tc (.vi .i64 (wP T)) .t0)))))⟩, ⟨f, true, some (T.length, gpL T), 2, .tc (.vs (gpV T)) (.tc (.vs (gpT T)) .t0)⟩]
def atW (t : Wt) (a : Nat) : Wt := ⟨t.kind, t.text, t.num, t.ps, a⟩
theorem wt_app {β : Type} (f : Wt → β) (T : List Wt) (t : Wt) (g : Ix → β) (hg : g [0] = f t) : ∀ k, k < T.length + 1 → f ((T ++ [t]).getD k zW) = appF T.length 0 (fun is => f (T.getD (is.headD 0) zW)) g [k] := fun k hk =>
  app_get f zW T [t] g (fun j hj => by
    have : j = 0 := by simp at hj; omega
    subst this; exact hg) k (by simpa using hk)
theorem wK_app (T : List Wt) (t : Wt) (g : Ix → Int) (hg : g [0] = (t.kind : Int)) : ∀ k, k < T.length + 1 → wK (T ++ [t]) [k] = appF T.length 0 (wK T) g [k] := wt_app (fun t => (t.kind : Int)) T t g hg
theorem wX_app (T : List Wt) (t : Wt) (g : Ix → List UInt8) (hg : g [0] = t.text) : ∀ k, k < T.length + 1 → wX (T ++ [t]) [k] = appF T.length 0 (wX T) g [k] := wt_app (fun t => t.text) T t g hg
theorem wN_app (T : List Wt) (t : Wt) (g : Ix → Int) (hg : g [0] = t.num) : ∀ k, k < T.length + 1 → wN (T ++ [t]) [k] = appF T.length 0 (wN T) g [k] := wt_app (fun t => t.num) T t g hg
theorem wP_app (T : List Wt) (t : Wt) (g : Ix → Int) (hg : g [0] = (t.pos : Int)) : ∀ k, k < T.length + 1 → wP (T ++ [t]) [k] = appF T.length 0 (wP T) g [k] := wt_app (fun t => (t.pos : Int)) T t g hg
theorem wL_app (T : List Wt) (t : Wt) (g : Ix → Nat) (hg : g [0] = t.ps.length) : ∀ k, k < T.length + 1 → wL (T ++ [t]) [k] = appF T.length 0 (wL T) g [k] := wt_app (fun t => t.ps.length) T t g hg
theorem wM_app (T : List Wt) (t : Wt) (f g : Ix → Nat) (hf : ∀ k, k < T.length → f [k] = T.length - 1 - k + 1) (hg : g [0] = 0) : ∀ k, k < T.length + 1 → wM (T ++ [t]) [k] = appF T.length 0 f g [k] := fun k hk => by
  simp only [wM, appF, List.length_append, List.length_cons, List.length_nil, List.headD, Nat.zero_add]
  split
  · rename_i h; have := hf k h; omega
  · have : k = T.length := by omega
    subst this; simp [hg]
theorem wgetD_last (T : List Wt) (t : Wt) : (T ++ [t]).getD T.length zW = t := by simp
theorem wgetD_pre (T : List Wt) (t : Wt) {k : Nat} (h : k < T.length) : (T ++ [t]).getD k zW = T.getD k zW := by simp [List.getD_eq_getElem?_getD, List.getElem?_append_left h]
theorem gpL_cons (T : List Wt) (t : Wt) (n : Nat) (hn : n = t.ps.length) : ∀ m, m < T.length + 1 → gpL (T ++ [t]) m = consN n (gpL T) m
  | 0, _ => by simp [gpL, consN, hn]
  | m + 1, h => by
    simp only [gpL, consN, List.length_append, List.length_cons, List.length_nil]
    rw [show T.length + (0 + 1) - 1 - (m + 1) = T.length - 1 - m by omega, wgetD_pre T t (by omega)]
theorem gpV_cons (T : List Wt) (t : Wt) (g : Ix → List UInt8) : ∀ m, m < T.length + 1 → ∀ j, (∀ j, j < t.ps.length → g [j] = (t.ps.getD j zP).var) → j < gpL (T ++ [t]) m → gpV (T ++ [t]) [m, j] = consF g (gpV T) [m, j]
  | 0, _, j, hg, hj => by
    have hj2 : j < t.ps.length := by simpa [gpL] using hj
    simp only [gpV, consF, List.headD, List.tail, List.length_append, List.length_cons, List.length_nil]
    rw [show T.length + (0 + 1) - 1 - 0 = T.length by omega, wgetD_last, hg j hj2]
  | m + 1, h, j, hg, hj => by
    simp only [gpV, consF, List.headD, List.tail, List.length_append, List.length_cons, List.length_nil]
    rw [show T.length + (0 + 1) - 1 - (m + 1) = T.length - 1 - m by omega, wgetD_pre T t (by omega)]
theorem gpT_cons (T : List Wt) (t : Wt) (g : Ix → List UInt8) : ∀ m, m < T.length + 1 → ∀ j, (∀ j, j < t.ps.length → g [j] = (t.ps.getD j zP).lit) → j < gpL (T ++ [t]) m → gpT (T ++ [t]) [m, j] = consF g (gpT T) [m, j]
  | 0, _, j, hg, hj => by
    have hj2 : j < t.ps.length := by simpa [gpL] using hj
    simp only [gpT, consF, List.headD, List.tail, List.length_append, List.length_cons, List.length_nil]
    rw [show T.length + (0 + 1) - 1 - 0 = T.length by omega, wgetD_last, hg j hj2]
  | m + 1, h, j, hg, hj => by
    simp only [gpT, consF, List.headD, List.tail, List.length_append, List.length_cons, List.length_nil]
    rw [show T.length + (0 + 1) - 1 - (m + 1) = T.length - 1 - m by omega, wgetD_pre T t (by omega)]
def sumsSPOk : List (FuncId × Summ) := [(49, skP.summ 46), (51, tokOkP.summ 46)]
theorem baseSPOk : Base0 Tryd.prog sumsSPOk := ((baseO.cons Tryd.func51 (by kernel_rfl) (PC.summ_ok tokOkP_pc gtopG)).cons Tryd.func49 (by kernel_rfl) (PC.summ_ok skP_pc gtopG))
def sumsSPSh : List (FuncId × Summ) := [(49, skP.summ 46), (51, tokShP.summ 46)]
theorem baseSPSh : Base0 Tryd.prog sumsSPSh := ((baseO.cons Tryd.func51 (by kernel_rfl) (PC.summ_ok tokShP_pc gtopG)).cons Tryd.func49 (by kernel_rfl) (PC.summ_ok skP_pc gtopG))
def sumsSPFo : List (FuncId × Summ) := [(49, skP.summ 46), (51, tokFoP.summ 46)]
theorem baseSPFo : Base0 Tryd.prog sumsSPFo := ((baseO.cons Tryd.func51 (by kernel_rfl) (PC.summ_ok tokFoP_pc gtopG)).cons Tryd.func49 (by kernel_rfl) (PC.summ_ok skP_pc gtopG))
def sumsSPLo : List (FuncId × Summ) := [(49, skP.summ 46), (51, tokLoP.summ 46)]
theorem baseSPLo : Base0 Tryd.prog sumsSPLo := ((baseO.cons Tryd.func51 (by kernel_rfl) (PC.summ_ok tokLoP_pc gtopG)).cons Tryd.func49 (by kernel_rfl) (PC.summ_ok skP_pc gtopG))

variable (T : List Wt) (a : Nat) (s : List UInt8) (t : Wt) (t0 t1 t2 : List UInt8)
abbrev wl1 := tokR (List.drop (a : Int).toNat s)
abbrev wl2 := Sx.look (sentEnts 23 213 [(5, t0), (6, t1), (0, t2)] ++ (rdW 101 s (a : Nat) ++ wtE 102 103 (T)))
abbrev wl3 := [(5, vP 101), (6, vL 102 5 (T).length)]
abbrev wl4 := (True ∧ (a : Int) = (a : Int) ∧ 0 = 0 ∧ True) ∧ True
abbrev wl5 := (!decide ((a : Int) ≥ (↑s.length : Int)), true)
abbrev wl6 := (↑((a : Int).toNat + okN (wl1 a s)) : Int)
abbrev wl7 := T ++ [atW t a]
set_option maxHeartbeats 4000000 in
theorem spL (t0 t1 t2 s : List UInt8) (hs : 4000 < s.length)  :
    (RunsTo Tryd.prog 14 [.code (bodyOf Tryd.f14)] (envOf [vS s] Tryd.f14.ntmps) (Sx.look (sentEnts 23 213 [(5, t0), (6, t1), (0, t2)] ++ ([]))) 80 (.tup [(false, .vl0), (false, .vi .i64 fun _ => (0 : Int)), (false, vErr 0)]) (Sx.look ([])) 9000) := by
  refine rEn baseSPOk 400 (99) 900 80 (hI 1 1) ([]) [(decide ((↑s.length : Int) > 4000), true)] ((True ∧ (0 : Int) = (0 : Int) ∧ 0 = 0 ∧ True) ∧ True) (oc1 ?_ okn) ?_
  all_goals exact sc6

set_option maxHeartbeats 4000000 in
theorem sp0 (t0 t1 t2 s : List UInt8) (b : Nat) (hs : s.length ≤ 4000) (hb : gapR false s = b)  (v : SV) (L' : HF) (next : (RunsTo Tryd.prog 14 (headOf Tryd.f14 0) (envAt Tryd.f14.ntmps ([(5, vP 101), (6, vL 102 5 (([] : List Wt)).length)])) (Sx.look (sentEnts 23 213 [(5, t0), (6, t1), (0, t2)] ++ (rdW 101 s (b : Nat) ++ wtE 102 103 (([] : List Wt))))) 80 (v) (L') 9000)) :
    (RunsTo Tryd.prog 14 [.code (bodyOf Tryd.f14)] (envOf [vS s] Tryd.f14.ntmps) (Sx.look (sentEnts 23 213 [(5, t0), (6, t1), (0, t2)] ++ ([]))) 80 (v) (L') 9000) := by
  have hb0 : 0 + gapR false (s.drop 0) = b := by rw [List.drop_zero, Nat.zero_add]; exact hb
  have E' := (⟨hb0, hb⟩ : _ ∧ _)
  refine rMo baseSPOk 400 (behind Tryd.f14 0) 900 80 (hI 2 4) ([((101 : Nat), Rn.to (80 : Nat)), ((102 : Nat), Rn.nil (5 : Nat)), ((103 : Nat), Rn.nil (2 : Nat))]) [(decide ((↑s.length : Int) > 4000), false), (decide ((0 : Int) ≤ 0) && (decide (Int.toNat (0 : Int) ≤ s.length) && decide (s.length ≤ (100000 : Nat))), true)] ((0 = 0 ∧ 0 = 0) ∧ (s = s ∧ (b : Int) = (↑(Int.toNat (0 : Int) + gapR false (List.drop (Int.toNat (0 : Int)) s)) : Int)) ∧ 0 = 0 ∧ 0 = 0) next (oc2 ?_ ?_ okn) ?_
  all_goals clear next; exact sc28

set_option maxHeartbeats 4000000 in
theorem spE (t0 t1 t2 s : List UInt8) (T : List Wt) (a : Nat) (ha : a = s.length)  :
    (RunsTo Tryd.prog 14 (headOf Tryd.f14 0) (envAt Tryd.f14.ntmps (wl3 T)) (wl2 T a s t0 t1 t2) 80 (.tup [(false, .vl 102 (fun _ => 0) 5 [] (fun _ => (T).length)), (false, .vi .i64 fun _ => 0), (false, .ve0)]) (Sx.look (wtE 102 103 T)) 9000) := by
  refine rEn baseSPOk 400 (99) 900 140 (hI 1 0) ([]) [(!decide ((a : Int) ≥ (↑s.length : Int)), false)] (((0 = 0 ∧ T.length = T.length) ∧ (0 : Int) = (0 : Int) ∧ True ∧ True) ∧ (T.length = T.length ∧ (∀ (i : Nat), i < T.length → wK T [i] = wK T [i]) ∧ (∀ (i : Nat), i < T.length → wX T [i] = wX T [i]) ∧ (∀ (i : Nat), i < T.length → wN T [i] = wN T [i]) ∧ ((∀ (i : Nat), i < T.length → wM T [i] = wM T [i]) ∧ ∀ (i : Nat), i < T.length → wL T [i] = wL T [i]) ∧ ∀ (i : Nat), i < T.length → wP T [i] = wP T [i]) ∧ T.length = T.length ∧ ∀ (m : Nat), m < T.length → gpL T m = gpL T m ∧ (∀ (i : Nat), i < gpL T m → gpV T [m, i] = gpV T [m, i]) ∧ ∀ (i : Nat), i < gpL T m → gpT T [m, i] = gpT T [m, i]) (oc1 ?_ okn) ?_
  all_goals exact sc6

set_option maxHeartbeats 4000000 in
theorem spR (t0 t1 t2 s : List UInt8) (T : List Wt) (a n b : Nat) (t : Wt) (ha : a < s.length) (hs : s.length ≤ 4000) (hT : T.length ≤ a) (h1 : isOkR (tokR (s.drop a)) = true) (h2 : okT (tokR (s.drop a)) = t) (h3 : okN (tokR (s.drop a)) = n) (hn : a + n ≤ s.length) (hb : a + n + gapR false (s.drop (a + n)) = b)  (v : SV) (L' : HF) (next : (RunsTo Tryd.prog 14 (headOf Tryd.f14 0) (envAt Tryd.f14.ntmps ([(5, vP 101), (6, vL 102 5 (wl7 T a t).length)])) (Sx.look (sentEnts 23 213 [(5, t0), (6, t1), (0, t2)] ++ (rdW 101 s (b : Nat) ++ wtE 102 103 (wl7 T a t)))) 80 (v) (L') 9000)) :
    (RunsTo Tryd.prog 14 (headOf Tryd.f14 0) (envAt Tryd.f14.ntmps (wl3 T)) (wl2 T a s t0 t1 t2) 80 (v) (L') 9000) := by
  have hz : IntKind.i64.wrap ((a : Int) + 0) = (a : Int) := by rw [wr64 (by omega)]; omega
  have E' := (⟨h1, h2, h3, hb, hz⟩ : _ ∧ _ ∧ _ ∧ _ ∧ _)
  refine rMo baseSPOk 400 (behind Tryd.f14 0) 900 140 (hI 7 5605) ([((102 : Nat), Rn.to (6063 : Nat)), ((103 : Nat), Rn.to (6062 : Nat))]) [(wl5 a s), (decide (0 ≤ (a : Int)) && (decide ((a : Int).toNat < s.length) && (decide (s.length ≤ (4000 : Nat)) && isOkR (wl1 a s))), true), ((0 + T.length).ble T.length, true), (decide (((2 : Nat) * (T.length + (1 : Nat)) + (192 : Nat)) * (64 : Nat) ≤ (281474976710656 : Nat)), true), (decide (0 ≤ (wl6 a s)) && (decide ((wl6 a s).toNat ≤ s.length) && decide (s.length ≤ (100000 : Nat))), true)] ((0 = 0 ∧ 0 = 0 ∧ (wl7 T a t).length = T.length + (1 : Nat)) ∧ (s = s ∧ (b : Int) = (↑((wl6 a s).toNat + gapR false (List.drop (wl6 a s).toNat s)) : Int)) ∧ ((wl7 T a t).length = T.length + (1 : Nat) ∧ (∀ (i : Nat), i < (wl7 T a t).length → wK (wl7 T a t) [i] = appF T.length (0 : Nat) (wK T) (fun js => (↑(okT (wl1 a s)).1 : Int)) [i]) ∧ (∀ (i : Nat), i < (wl7 T a t).length → wX (wl7 T a t) [i] = appF T.length (0 : Nat) (wX T) (fun js => (okT (wl1 a s)).2) [i]) ∧ (∀ (i : Nat), i < (wl7 T a t).length → wN (wl7 T a t) [i] = appF T.length (0 : Nat) (wN T) (fun js => (okT (wl1 a s)).3) [i]) ∧ ((∀ (i : Nat), i < (wl7 T a t).length → wM (wl7 T a t) [i] = appF T.length (0 : Nat) (fun is => wM T is + (1 : Nat)) (fun js => (0 : Nat)) [i]) ∧ ∀ (i : Nat), i < (wl7 T a t).length → wL (wl7 T a t) [i] = appF T.length (0 : Nat) (wL T) (fun js => (okT (wl1 a s)).4.length) [i]) ∧ ∀ (i : Nat), i < (wl7 T a t).length → wP (wl7 T a t) [i] = appF T.length (0 : Nat) (wP T) (fun js => (a : Int)) [i]) ∧ (wl7 T a t).length = T.length + (1 : Nat) ∧ ∀ (m : Nat), m < (wl7 T a t).length → gpL (wl7 T a t) m = consN (okT (wl1 a s)).4.length (gpL T) m ∧ (∀ (i : Nat), i < gpL (wl7 T a t) m → gpV (wl7 T a t) [m, i] = consF (prV (okT (wl1 a s)).4) (gpV T) [m, i]) ∧ ∀ (i : Nat), i < gpL (wl7 T a t) m → gpT (wl7 T a t) [m, i] = consF (prL (okT (wl1 a s)).4) (gpT T) [m, i]) next (oc5 ?_ ?_ ?_ ?_ ?_ okn) ?_
  all_goals clear next; try dsimp only [wl5, wl1, wl6, wl7]
  all_goals exact sc29

set_option maxHeartbeats 4000000 in
theorem spSh (t0 t1 t2 s : List UInt8) (T : List Wt) (a : Nat) (ha : a < s.length) (hs : s.length ≤ 4000) (h1 : isErR 3 (tokR (s.drop a)) = true)  :
    (RunsTo Tryd.prog 14 (headOf Tryd.f14 0) (envAt Tryd.f14.ntmps (wl3 T)) (wl2 T a s t0 t1 t2) 80 (.tup [(false, .vl0), (false, .vi .i64 fun _ => (a : Int)), (false, vErr 5)]) (Sx.look ([])) 9000) := by
  have hz : IntKind.i64.wrap ((a : Int) + 0) = (a : Int) := by rw [wr64 (by omega)]; omega
  have E' := (⟨h1, hz⟩ : _ ∧ _)
  refine rEn baseSPSh 400 (99) 900 140 (hI 3 53) ([]) [(wl5 a s), (decide (0 ≤ (a : Int)) && (decide ((a : Int).toNat < s.length) && (decide (s.length ≤ (4000 : Nat)) && isErR (3 : Nat) (wl1 a s))), true)] (wl4 a) (oc2 ?_ ?_ okn) ?_
  all_goals try dsimp only [wl5, wl1, wl4]
  all_goals exact sc30

set_option maxHeartbeats 4000000 in
theorem spFo (t0 t1 t2 s : List UInt8) (T : List Wt) (a : Nat) (ha : a < s.length) (hs : s.length ≤ 4000) (h1 : isErR 5 (tokR (s.drop a)) = true)  :
    (RunsTo Tryd.prog 14 (headOf Tryd.f14 0) (envAt Tryd.f14.ntmps (wl3 T)) (wl2 T a s t0 t1 t2) 80 (.tup [(false, .vl0), (false, .vi .i64 fun _ => (a : Int)), (false, vErr 6)]) (Sx.look ([])) 9000) := by
  have hz : IntKind.i64.wrap ((a : Int) + 0) = (a : Int) := by rw [wr64 (by omega)]; omega
  have E' := (⟨h1, hz⟩ : _ ∧ _)
  refine rEn baseSPFo 400 (99) 900 140 (hI 3 53) ([]) [(wl5 a s), (decide (0 ≤ (a : Int)) && (decide ((a : Int).toNat < s.length) && (decide (s.length ≤ (4000 : Nat)) && isErR (5 : Nat) (wl1 a s))), true)] (wl4 a) (oc2 ?_ ?_ okn) ?_
  all_goals try dsimp only [wl5, wl1, wl4]
  all_goals exact sc30

set_option maxHeartbeats 4000000 in
theorem spLo (t0 t1 t2 s : List UInt8) (T : List Wt) (a : Nat) (ha : a < s.length) (hs : s.length ≤ 4000) (h1 : isErR 4 (tokR (s.drop a)) = true)  :
    (RunsTo Tryd.prog 14 (headOf Tryd.f14 0) (envAt Tryd.f14.ntmps (wl3 T)) (wl2 T a s t0 t1 t2) 80 (.tup [(false, .vl0), (false, .vi .i64 fun _ => (a : Int)), (false, vErr 0)]) (Sx.look ([])) 9000) := by
  have hz : IntKind.i64.wrap ((a : Int) + 0) = (a : Int) := by rw [wr64 (by omega)]; omega
  have E' := (⟨h1, hz⟩ : _ ∧ _)
  refine rEn baseSPLo 400 (99) 900 140 (hI 3 53) ([]) [(wl5 a s), (decide (0 ≤ (a : Int)) && (decide ((a : Int).toNat < s.length) && (decide (s.length ≤ (4000 : Nat)) && isErR (4 : Nat) (wl1 a s))), true)] (wl4 a) (oc2 ?_ ?_ okn) ?_
  all_goals try dsimp only [wl5, wl1, wl4]
  all_goals exact sc30

end Go.Proofs.YtaleenklamognaaDoor

set_option linter.unusedSimpArgs false
set_option linter.unusedVariables false
set_option maxRecDepth 100000
namespace Go.Proofs.YtaleenklamognaaDoor
open Go.Sx

open WordR
theorem gap_le : ∀ (b : Bool) (l : List UInt8), gapR b l ≤ l.length
  | _, [] => by simp [gapR]
  | false, c :: r => by
    have h1 := gap_le false r
    have h2 := gap_le true r
    rw [gapR]
    split
    · simp only [List.length_cons]; omega
    · split <;> simp only [List.length_cons] <;> omega
  | true, c :: r => by
    have h2 := gap_le true r
    rw [gapR]
    split <;> simp only [List.length_cons] <;> omega
theorem text_n : ∀ (f : Nat) (l : List UInt8) (P : List Pc) (n : Nat) {t : Wt} {m : Nat}, textR f l P n = .ok t m → n < m ∧ m ≤ n + l.length
  | 0, l, P, n, t, m, h => by cases h
  | f + 1, [], P, n, t, m, h => by cases h
  | f + 1, c :: r, P, n, t, m, h => by
    rw [textR] at h
    split at h
    · injection h with h1 h2; subst h2; simp
    · rename_i hc
      have ho : ∀ {x k}, oneR (c :: r) = .byte x k ∨ (∃ y, oneR (c :: r) = .var y k) → 1 ≤ k ∧ k ≤ (c :: r).length := by
        intro x k h
        rw [oneR] at h
        simp only [List.length_cons]
        split at h
        · rcases h with h | ⟨y, h⟩
          · exact absurd h (varR_nb _)
          · have := varR_ok _ h; omega
        · split at h
          · rcases h with h | ⟨y, h⟩ <;> cases h
          · split at h
            · rcases h with h | ⟨y, h⟩
              · have := escR_ok _ h; omega
              · exact absurd h (escR_nv _)
            · rcases h with h | ⟨y, h⟩
              · injection h with h1 h2; omega
              · cases h
      split at h
      · cases h
      · rename_i x k hk
        split at h
        · have h1 := ho (x := x) (.inl hk)
          have := text_n f _ _ _ h
          rw [List.length_drop] at this
          omega
        · cases h
      · rename_i x k hk
        split at h
        · have h1 := ho (x := 0) (.inr ⟨x, hk⟩)
          have := text_n f _ _ _ h
          rw [List.length_drop] at this
          omega
        · cases h
theorem tok_n : ∀ (l : List UInt8) {t : Wt} {n : Nat}, tokR l = .ok t n → 1 ≤ n ∧ n ≤ l.length
  | [], t, n, h => by cases h
  | c :: r, t, n, h => by
    rw [tokR] at h
    split at h
    · injection h with h1 h2; subst h2; simp
    · split at h
      · rename_i hl
        rw [nameR] at h
        split at h
        · cases h
        · injection h with h1 h2
          have hg : goI (nat c) = true := by simp [goI, hl]
          have hle := span_le goI (c :: r)
          rw [spanR, if_pos hg] at hle h2
          omega
      · split at h
        · have hk : ∀ {m q t n}, numK m q = .ok t n → 1 ≤ n ∧ n ≤ q.length + (if m = true then 1 else 0) := by
            intro m q t n h
            have hle := span_le figI q
            unfold numK at h
            split at h
            · cases h
            · split at h
              · cases h
              · rename_i hn
                injection h with h1 h2
                have : spanR figI q ≠ 0 := fun e => hn (.inl e)
                omega
          rw [numberR] at h
          split at h
          · have := hk h; simp only [if_pos] at this; simp only [List.length_cons]; exact this
          · have := hk h; rw [if_neg (by decide)] at this; omega
        · split at h
          · have := text_n _ _ _ _ h; simp only [List.length_cons]; omega
          · rw [sign_eq] at h
            split at h
            · rename_i h6
              injection h with h1 h2
              cases r with
              | nil => simp at h6
              | cons d q => simp only [List.length_cons]; omega
            · split at h
              · injection h with h1 h2; simp only [List.length_cons]; omega
              · cases h
theorem tok_e {l : List UInt8} {e : Nat} (h : tokR l = .err e) : e = 3 ∨ e = 4 ∨ e = 5 := by
  cases l with
  | nil => injection h with h; omega
  | cons c r =>
    rw [tokR] at h
    split at h
    · cases h
    · split at h
      · rw [nameR] at h
        split at h
        · injection h with h; omega
        · cases h
      · split at h
        · have := number_e h; omega
        · split at h
          · exact text_e _ _ _ _ h (fun q => esc_e)
          · have := sign_e h; omega
def SPR (T : List Wt) (X : SV → HF → Prop) : List Wt × Nat × Nat → Prop
  | (T', p, 0) => X (.tup [(false, .vl 102 (fun _ => 0) 5 [] (fun _ => (T ++ T').length)), (false, .vi .i64 fun _ => 0), (false, .ve0)]) (Sx.look (wtE 102 103 (T ++ T')))
  | (_, p, e + 1) => (e + 1 = 3 ∧ X (.tup [(false, .vl0), (false, .vi .i64 fun _ => (p : Int)), (false, vErr 5)]) (Sx.look [])) ∨ (e + 1 = 5 ∧ X (.tup [(false, .vl0), (false, .vi .i64 fun _ => (p : Int)), (false, vErr 6)]) (Sx.look [])) ∨ (e + 1 = 4 ∧ X (.tup [(false, .vl0), (false, .vi .i64 fun _ => (p : Int)), (false, vErr 0)]) (Sx.look []))
theorem SPR.step {T : List Wt} {X Y : SV → HF → Prop} (h : ∀ v L', X v L' → Y v L') : ∀ {r : List Wt × Nat × Nat}, SPR T X r → SPR T Y r
  | (T', p, 0), q => h _ _ q
  | (_, p, e + 1), q => q.imp (fun x => ⟨x.1, h _ _ x.2⟩) (fun q => q.imp (fun x => ⟨x.1, h _ _ x.2⟩) (fun x => ⟨x.1, h _ _ x.2⟩))
theorem spLoop (t0 t1 t2 s : List UInt8) (hs : s.length ≤ 4000) : ∀ (f a0 a : Nat) (T : List Wt), a = a0 + gapR false (s.drop a0) → a0 ≤ s.length → s.length - a0 < f → T.length ≤ a0 → SPR T (fun v L' => RunsTo Tryd.prog 14 (headOf Tryd.f14 0) (envAt Tryd.f14.ntmps ([(5, vP 101), (6, vL 102 5 (T).length)])) (Sx.look (sentEnts 23 213 [(5, t0), (6, t1), (0, t2)] ++ (rdW 101 s (a : Nat) ++ wtE 102 103 (T)))) 80 (v) (L') 9000) (splitR f a0 (s.drop a0)) := by
  intro f
  induction f with
  | zero => intro a0 a T _ _ h; omega
  | succ f ih =>
    intro a0 a T ha ha0 hf hT
    have hg := gap_le false (s.drop a0)
    rw [List.length_drop] at hg
    have hdd : (s.drop a0).drop (gapR false (s.drop a0)) = s.drop a := by rw [List.drop_drop, ha]
    rw [splitR, hdd, ← ha]
    by_cases hae : s.length ≤ a
    · rw [List.drop_eq_nil_of_le hae]
      have q := spE t0 t1 t2 s T a (by omega)
      show RunsTo Tryd.prog 14 (headOf Tryd.f14 0) (envAt Tryd.f14.ntmps ([(5, vP 101), (6, vL 102 5 (T).length)])) (Sx.look (sentEnts 23 213 [(5, t0), (6, t1), (0, t2)] ++ (rdW 101 s (a : Nat) ++ wtE 102 103 (T)))) 80 (.tup [(false, .vl 102 (fun _ => 0) 5 [] (fun _ => (T ++ ([] : List Wt)).length)), (false, .vi .i64 fun _ => 0), (false, .ve0)]) (Sx.look (wtE 102 103 (T ++ ([] : List Wt)))) 9000
      rw [List.append_nil]
      exact q
    have hlt : a < s.length := by omega
    have hd := drop_at s hlt
    rw [hd]
    simp only
    rw [← hd]
    cases hz : tokR (s.drop a) with
    | err e =>
      simp only
      rcases tok_e hz with rfl | rfl | rfl
      · exact .inl ⟨rfl, spSh t0 t1 t2 s T a hlt hs (by rw [hz]; rfl)⟩
      · exact .inr (.inr ⟨rfl, spLo t0 t1 t2 s T a hlt hs (by rw [hz]; rfl)⟩)
      · exact .inr (.inl ⟨rfl, spFo t0 t1 t2 s T a hlt hs (by rw [hz]; rfl)⟩)
    | ok t n =>
      simp only
      have hn := tok_n _ hz
      rw [List.length_drop] at hn
      have st := spR t0 t1 t2 s T a n _ t hlt hs (by omega) (by rw [hz]; rfl) (by rw [hz]; rfl) (by rw [hz]; rfl) (by omega) rfl
      have q := ih (a + n) _ (T ++ [atW t a]) rfl (by omega) (by omega) (by simp; omega)
      rw [List.drop_drop]
      have q := SPR.step st q
      cases hr : splitR f (a + n) (s.drop (a + n)) with
      | mk T' pe =>
        obtain ⟨p, e⟩ := pe
        rw [hr] at q
        cases e with
        | zero =>
          simp only
          show RunsTo Tryd.prog 14 (headOf Tryd.f14 0) (envAt Tryd.f14.ntmps ([(5, vP 101), (6, vL 102 5 (T).length)])) (Sx.look (sentEnts 23 213 [(5, t0), (6, t1), (0, t2)] ++ (rdW 101 s (a : Nat) ++ wtE 102 103 (T)))) 80 (.tup [(false, .vl 102 (fun _ => 0) 5 [] (fun _ => (T ++ (⟨t.kind, t.text, t.num, t.ps, a⟩ : Wt) :: T').length)), (false, .vi .i64 fun _ => 0), (false, .ve0)]) (Sx.look (wtE 102 103 (T ++ (⟨t.kind, t.text, t.num, t.ps, a⟩ : Wt) :: T'))) 9000
          have e1 : T ++ (⟨t.kind, t.text, t.num, t.ps, a⟩ : Wt) :: T' = T ++ [atW t a] ++ T' := by simp [atW]
          rw [e1]
          exact q
        | succ e => exact q
theorem spT (t0 t1 t2 s : List UInt8) : SPR [] (fun v L' => RunsTo Tryd.prog 14 [.code (bodyOf Tryd.f14)] (envOf [vS s] Tryd.f14.ntmps) (Sx.look (sentEnts 23 213 [(5, t0), (6, t1), (0, t2)] ++ ([]))) 80 (v) (L') 9000) (splitS s) := by
  unfold splitS
  by_cases h : 4000 < s.length
  · rw [if_pos h]; exact .inr (.inr ⟨rfl, spL t0 t1 t2 s h⟩)
  · rw [if_neg h]
    have q := spLoop t0 t1 t2 s (by omega) (s.length + 1) 0 _ [] rfl (by omega) (by omega) (by simp)
    rw [List.drop_zero, Nat.zero_add] at q
    exact SPR.step (sp0 t0 t1 t2 s _ (by omega) rfl) q
theorem spOkT (t0 t1 t2 s : List UInt8) (h : (splitS s).2.2 = 0) : RunsTo Tryd.prog 14 [.code (bodyOf Tryd.f14)] (envOf [vS s] Tryd.f14.ntmps) (Sx.look (sentEnts 23 213 [(5, t0), (6, t1), (0, t2)] ++ ([]))) 80 (.tup [(false, .vl 102 (fun _ => 0) 5 [] (fun _ => ((splitS s).1).length)), (false, .vi .i64 fun _ => 0), (false, .ve0)]) (Sx.look (wtE 102 103 (splitS s).1)) 9000 := by
  have q := spT t0 t1 t2 s
  cases hz : splitS s with
  | mk T pe =>
    obtain ⟨p, e⟩ := pe
    rw [hz] at q h
    simp only at h
    subst h
    exact q
theorem spShT (t0 t1 t2 s : List UInt8) (h : (splitS s).2.2 = 3) : RunsTo Tryd.prog 14 [.code (bodyOf Tryd.f14)] (envOf [vS s] Tryd.f14.ntmps) (Sx.look (sentEnts 23 213 [(5, t0), (6, t1), (0, t2)] ++ ([]))) 80 (.tup [(false, .vl0), (false, .vi .i64 fun _ => ((splitS s).2.1 : Int)), (false, vErr 5)]) (Sx.look ([])) 9000 := by
  have q := spT t0 t1 t2 s
  cases hz : splitS s with
  | mk T pe =>
    obtain ⟨p, e⟩ := pe
    rw [hz] at q h
    simp only at h
    subst h
    simpa [SPR] using q
theorem spFoT (t0 t1 t2 s : List UInt8) (h : (splitS s).2.2 = 5) : RunsTo Tryd.prog 14 [.code (bodyOf Tryd.f14)] (envOf [vS s] Tryd.f14.ntmps) (Sx.look (sentEnts 23 213 [(5, t0), (6, t1), (0, t2)] ++ ([]))) 80 (.tup [(false, .vl0), (false, .vi .i64 fun _ => ((splitS s).2.1 : Int)), (false, vErr 6)]) (Sx.look ([])) 9000 := by
  have q := spT t0 t1 t2 s
  cases hz : splitS s with
  | mk T pe =>
    obtain ⟨p, e⟩ := pe
    rw [hz] at q h
    simp only at h
    subst h
    simpa [SPR] using q
theorem spLoT (t0 t1 t2 s : List UInt8) (h : (splitS s).2.2 = 4) : RunsTo Tryd.prog 14 [.code (bodyOf Tryd.f14)] (envOf [vS s] Tryd.f14.ntmps) (Sx.look (sentEnts 23 213 [(5, t0), (6, t1), (0, t2)] ++ ([]))) 80 (.tup [(false, .vl0), (false, .vi .i64 fun _ => ((splitS s).2.1 : Int)), (false, vErr 0)]) (Sx.look ([])) 9000 := by
  have q := spT t0 t1 t2 s
  cases hz : splitS s with
  | mk T pe =>
    obtain ⟨p, e⟩ := pe
    rw [hz] at q h
    simp only at h
    subst h
    simpa [SPR] using q
def spOkP : PC := { args := [.v (.vs 0)], heap := [], gs := [5, 6, 0], G := 23, tp := 213, n := 80, n' := 9000, cond := fun e => decide ((splitS (eS e 0 [])).2.2 = 0), v := fun e => .tup [(false, .vl 102 (fun _ => 0) 5 [] (fun _ => ((splitS (eS e 0 [])).1).length)), (false, .vi .i64 fun _ => 0), (false, .ve0)], post := fun e => wtE 102 103 (splitS (eS e 0 [])).1 }
theorem spOkP_pc : PC.Runs Tryd.prog 14 Tryd.f14 (bodyOf Tryd.f14) spOkP := ⟨Tryd.func14, by kernel_rfl, (fun g hg => by first | (cases hg; done) | (revert g; show ∀ g ∈ ([5, 6, 0] : List Nat), g < 23; decide)), fun e H hc => by
  have hc : (decide ((splitS (eS e 0 [])).2.2 = 0)) = true := hc
  try simp only [Bool.and_eq_true, decide_eq_true_eq, Nat.beq_eq] at hc
  exact spOkT (textAt H 28) (textAt H 29) (textAt H 23) (eS e 0 []) hc⟩
def spShP : PC := { args := [.v (.vs 0)], heap := [], gs := [5, 6, 0], G := 23, tp := 213, n := 80, n' := 9000, cond := fun e => decide ((splitS (eS e 0 [])).2.2 = 3), v := fun e => .tup [(false, .vl0), (false, .vi .i64 fun _ => ((splitS (eS e 0 [])).2.1 : Int)), (false, vErr 5)], post := fun e => [] }
theorem spShP_pc : PC.Runs Tryd.prog 14 Tryd.f14 (bodyOf Tryd.f14) spShP := ⟨Tryd.func14, by kernel_rfl, (fun g hg => by first | (cases hg; done) | (revert g; show ∀ g ∈ ([5, 6, 0] : List Nat), g < 23; decide)), fun e H hc => by
  have hc : (decide ((splitS (eS e 0 [])).2.2 = 3)) = true := hc
  try simp only [Bool.and_eq_true, decide_eq_true_eq, Nat.beq_eq] at hc
  exact spShT (textAt H 28) (textAt H 29) (textAt H 23) (eS e 0 []) hc⟩
def spFoP : PC := { args := [.v (.vs 0)], heap := [], gs := [5, 6, 0], G := 23, tp := 213, n := 80, n' := 9000, cond := fun e => decide ((splitS (eS e 0 [])).2.2 = 5), v := fun e => .tup [(false, .vl0), (false, .vi .i64 fun _ => ((splitS (eS e 0 [])).2.1 : Int)), (false, vErr 6)], post := fun e => [] }
theorem spFoP_pc : PC.Runs Tryd.prog 14 Tryd.f14 (bodyOf Tryd.f14) spFoP := ⟨Tryd.func14, by kernel_rfl, (fun g hg => by first | (cases hg; done) | (revert g; show ∀ g ∈ ([5, 6, 0] : List Nat), g < 23; decide)), fun e H hc => by
  have hc : (decide ((splitS (eS e 0 [])).2.2 = 5)) = true := hc
  try simp only [Bool.and_eq_true, decide_eq_true_eq, Nat.beq_eq] at hc
  exact spFoT (textAt H 28) (textAt H 29) (textAt H 23) (eS e 0 []) hc⟩
def spLoP : PC := { args := [.v (.vs 0)], heap := [], gs := [5, 6, 0], G := 23, tp := 213, n := 80, n' := 9000, cond := fun e => decide ((splitS (eS e 0 [])).2.2 = 4), v := fun e => .tup [(false, .vl0), (false, .vi .i64 fun _ => ((splitS (eS e 0 [])).2.1 : Int)), (false, vErr 0)], post := fun e => [] }
theorem spLoP_pc : PC.Runs Tryd.prog 14 Tryd.f14 (bodyOf Tryd.f14) spLoP := ⟨Tryd.func14, by kernel_rfl, (fun g hg => by first | (cases hg; done) | (revert g; show ∀ g ∈ ([5, 6, 0] : List Nat), g < 23; decide)), fun e H hc => by
  have hc : (decide ((splitS (eS e 0 [])).2.2 = 4)) = true := hc
  try simp only [Bool.and_eq_true, decide_eq_true_eq, Nat.beq_eq] at hc
  exact spLoT (textAt H 28) (textAt H 29) (textAt H 23) (eS e 0 []) hc⟩
end Go.Proofs.YtaleenklamognaaDoor

