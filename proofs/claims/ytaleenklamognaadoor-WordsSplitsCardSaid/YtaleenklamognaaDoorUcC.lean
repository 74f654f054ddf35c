/- Words, by the document: which bytes are such, gaps, digits. -/
import Derived.Test.YtaleenklamognaaDoorUaC
import Derived.Test.YtaleenklamognaaDoorUbC
set_option linter.unusedSimpArgs false
set_option linter.unusedVariables false
set_option maxRecDepth 100000
namespace Go.Proofs.YtaleenklamognaaDoor
open Go.Sx

open WordR
def pfI (l : Bool) (x : Int) : Bool := figI x || (l && ltrI x)

variable (L' : HF) (a i k : Nat) (l : Bool) (s : List UInt8) (v : SV) (x : Int)
abbrev qn1 := ((↑(48 : Nat) : Int) == x, false)
abbrev qn2 := ((↑(49 : Nat) : Int) == x, false)
abbrev qn3 := ((↑(50 : Nat) : Int) == x, false)
abbrev qn4 := ((↑(51 : Nat) : Int) == x, false)
abbrev qn5 := ((↑(52 : Nat) : Int) == x, false)
abbrev qn6 := ((↑(53 : Nat) : Int) == x, false)
abbrev qn7 := ((↑(54 : Nat) : Int) == x, false)
abbrev qn8 := ((↑(55 : Nat) : Int) == x, false)
abbrev qn28 := IntKind.i64.wrap ((0 : Int) + 1) + 1
abbrev qn45 := IntKind.i64.wrap qn28 + 1
abbrev qn9 := IntKind.i64.wrap qn45 + 1
abbrev qn10 := ((↑(56 : Nat) : Int) == x, false)
abbrev qn11 := (↑(s.getD (i : Int).toNat (0 : UInt8)).toNat : Int)
abbrev qn12 := ((↑(57 : Nat) : Int) == x, false)
abbrev qn13 := ((↑(97 : Nat) : Int) == x, false)
abbrev qn14 := ((↑(98 : Nat) : Int) == x, false)
abbrev qn46 := (↑s.length : Int)
abbrev qn15 := (decide (0 ≤ IntKind.i64.wrap ((a : Int) + (k : Int)) ∧ IntKind.i64.wrap ((a : Int) + (k : Int)) < (qn46 s)), true)
abbrev qn16 := ((↑(99 : Nat) : Int) == x, false)
abbrev qn17 := ((↑(100 : Nat) : Int) == x, false)
abbrev qn18 := Sx.look ([] ++ ([]))
abbrev qn19 := ((↑(101 : Nat) : Int) == x, false)
abbrev qn20 := ((↑(102 : Nat) : Int) == x, false)
abbrev qn21 := (↑(s.getD (IntKind.i64.wrap ((a : Int) + (k : Int))).toNat (0 : UInt8)).toNat : Int)
abbrev qn22 := (decide (0 ≤ (i : Int) ∧ (i : Int) < (qn46 s)), true)
abbrev qn23 := ((↑(65 : Nat) : Int) == x, false)
abbrev qn24 := RunsTo Tryd.prog 52 (headOf Tryd.f52 0) (envAt Tryd.f52.ntmps ([(0, vS s), (1, vN (i : Nat))])) qn18 80 (v) (L') 140
abbrev qn25 := RunsTo Tryd.prog 52 (headOf Tryd.f52 1) (envAt Tryd.f52.ntmps ([(0, vS s), (1, vN (i : Nat))])) qn18 80 (v) (L') 140
abbrev qn26 := RunsTo Tryd.prog 54 (headOf Tryd.f54 0) (envAt Tryd.f54.ntmps ([(0, vS s), (1, vN a), (2, vB l), (7, vN (k : Nat))])) qn18 80 (vN (k : Nat)) (Sx.look ([])) 140
abbrev qn27 := ((↑(66 : Nat) : Int) == x, false)
abbrev qn29 := (decide ((i : Int) < (qn46 s)), true)
abbrev qn30 := (s = s ∧ (↑(i + (1 : Nat)) : Int) = IntKind.i64.wrap ((i : Int) + 1)) ∧ True
abbrev qn31 := ((↑(67 : Nat) : Int) == x, false)
abbrev qn32 := (decide (IntKind.i64.wrap ((a : Int) + (k : Int)) < (qn46 s)), true)
abbrev qn37 := IntKind.i64.wrap qn9 + 1
abbrev qn33 := IntKind.i64.wrap (IntKind.i64.wrap qn37 + 1) + 1
abbrev qn34 := ((↑(68 : Nat) : Int) == x, false)
abbrev qn35 := RunsTo Tryd.prog 52 (headOf Tryd.f52 0) (envAt Tryd.f52.ntmps ([(0, vS s), (1, vN (i : Nat))])) qn18 80 (vN (i : Nat)) (Sx.look ([])) 140
abbrev qn36 := (↑(69 : Nat) : Int)
abbrev qn38 := hexI x = IntKind.i64.wrap ((10 : Int) + IntKind.i64.wrap qn45) ∧ True
abbrev qn39 := hexI x = IntKind.i64.wrap ((10 : Int) + IntKind.i64.wrap ((0 : Int) + 1)) ∧ True
abbrev qn40 := (↑(70 : Nat) : Int)
abbrev qn41 := hexI x = IntKind.i64.wrap ((10 : Int) + IntKind.i64.wrap qn28) ∧ True
abbrev qn42 := hexI x = IntKind.i64.wrap ((10 : Int) + IntKind.i64.wrap qn9) ∧ True
abbrev qn43 := hexI x = IntKind.i64.wrap ((10 : Int) + IntKind.i64.wrap qn37) ∧ True
abbrev qn44 := (s = s ∧ (a : Int) = (a : Int) ∧ l = l ∧ (↑(k + (1 : Nat)) : Int) = IntKind.i64.wrap ((k : Int) + 1)) ∧ True
abbrev qn47 := ltrI x = (x == (95 : Int)) ∧ True
abbrev qn48 := RunsTo Tryd.prog 54 (headOf Tryd.f54 0) (envAt Tryd.f54.ntmps ([(0, vS s), (1, vN a), (2, vB l), (7, vN (k + 1 : Nat))])) qn18 80 (v) (L') 140
set_option maxHeartbeats 4000000 in
theorem lrT (x : Int)  :
    (RunsTo Tryd.prog 53 [.code (bodyOf Tryd.f53)] (envOf [vU x] Tryd.f53.ntmps) qn18 80 (vB (ltrI x)) (Sx.look ([])) 90) := by
  refine bcase (fun gg0 => (bcase (fun gg1 => (rEn baseO 300 (99) 900 80 (hI 2 0) ([]) [(decide (x ≥ (97 : Int)), false), (decide (x ≥ (65 : Int)), false)] (qn47 x) (oc2 gg0 gg1 okn) ?_)) fun gg1 => (bcase (fun gg2 => (rEn baseO 300 (99) 900 80 (hI 3 4) ([]) [(decide (x ≥ (97 : Int)), false), (decide (x ≥ (65 : Int)), true), (decide (x ≤ (90 : Int)), false)] (qn47 x) (oc3 gg0 gg1 gg2 okn) ?_)) fun gg2 => (rEn baseO 300 (99) 900 80 (hI 3 20) ([]) [(decide (x ≥ (97 : Int)), false), (decide (x ≥ (65 : Int)), true), (decide (x ≤ (90 : Int)), true)] (ltrI x = true ∧ True) (oc3 gg0 gg1 gg2 okn) ?_)))) fun gg0 => (bcase (fun gg1 => (rEn baseO 300 (99) 900 80 (hI 4 17) ([]) [(decide (x ≥ (97 : Int)), true), (decide (x ≤ (122 : Int)), false), (decide (x ≥ (65 : Int)), true), (decide (x ≤ (90 : Int)), false)] (qn47 x) (oc4 gg0 gg1 ?_ ?_ okn) ?_)) fun gg1 => (rEn baseO 300 (99) 900 80 (hI 2 5) ([]) [(decide (x ≥ (97 : Int)), true), (decide (x ≤ (122 : Int)), true)] (ltrI x = true ∧ True) (oc2 gg0 gg1 okn) ?_))
  all_goals try dsimp only [qn47] at *
  all_goals exact sc1

def lrP : PC := { args := [.v (.vi .u8 0)], heap := [], gs := [], G := 23, tp := 213, n := 80, n' := 90, cond := fun e => true, v := fun e => vB (ltrI (eI e 0 [])), post := fun e => [] }
theorem lrP_pc : PC.Runs Tryd.prog 53 Tryd.f53 (bodyOf Tryd.f53) lrP := ⟨Tryd.func53, by kernel_rfl, (fun g hg => by first | (cases hg; done) | (revert g; show ∀ g ∈ ([] : List Nat), g < 23; decide)), fun e H hc => by
  have hc : (true) = true := hc
  try simp only [Bool.and_eq_true, decide_eq_true_eq, Nat.beq_eq] at hc
  exact lrT (eI e 0 [])⟩

set_option maxHeartbeats 4000000 in
theorem frT (x : Int)  :
    (RunsTo Tryd.prog 55 [.code (bodyOf Tryd.f55)] (envOf [vU x] Tryd.f55.ntmps) qn18 80 (vB (figI x)) (Sx.look ([])) 90) := by
  refine bcase (fun gg0 => (rEn baseO 300 (99) 900 80 (hI 1 0) ([]) [(decide (x ≥ (48 : Int)), false)] (figI x = false ∧ True) (oc1 gg0 okn) ?_)) fun gg0 => (rEn baseO 300 (99) 900 80 (hI 1 1) ([]) [(decide (x ≥ (48 : Int)), true)] (figI x = decide (x ≤ (57 : Int)) ∧ True) (oc1 gg0 okn) ?_)
  all_goals exact sc2

def frP : PC := { args := [.v (.vi .u8 0)], heap := [], gs := [], G := 23, tp := 213, n := 80, n' := 90, cond := fun e => true, v := fun e => vB (figI (eI e 0 [])), post := fun e => [] }
theorem frP_pc : PC.Runs Tryd.prog 55 Tryd.f55 (bodyOf Tryd.f55) frP := ⟨Tryd.func55, by kernel_rfl, (fun g hg => by first | (cases hg; done) | (revert g; show ∀ g ∈ ([] : List Nat), g < 23; decide)), fun e H hc => by
  have hc : (true) = true := hc
  try simp only [Bool.and_eq_true, decide_eq_true_eq, Nat.beq_eq] at hc
  exact frT (eI e 0 [])⟩
def sumsRS : List (FuncId × Summ) := [(53, lrP.summ 46), (55, frP.summ 46)]
theorem baseRS : Base0 Tryd.prog sumsRS := ((baseO.cons Tryd.func55 (by kernel_rfl) (PC.summ_ok frP_pc gtopG)).cons Tryd.func53 (by kernel_rfl) (PC.summ_ok lrP_pc gtopG))
theorem span_pf (p q : Int → Bool) (h : ∀ x, p x = q x) : ∀ l : List UInt8, spanR p l = spanR q l
  | [] => rfl
  | c :: r => by rw [spanR, spanR, h, span_pf p q h r]
theorem pf_t (l : List UInt8) : spanR (pfI true) l = spanR goI l := span_pf _ _ (fun x => by simp [pfI, goI, Bool.or_comm]) l
theorem pf_f (l : List UInt8) : spanR (pfI false) l = spanR figI l := span_pf _ _ (fun x => by simp [pfI]) l

set_option maxHeartbeats 4000000 in
theorem rs0 (s : List UInt8) (a : Nat) (l : Bool)  (v : SV) (L' : HF) (next : (RunsTo Tryd.prog 54 (headOf Tryd.f54 0) (envAt Tryd.f54.ntmps ([(0, vS s), (1, vN a), (2, vB l), (7, vN (0 : Nat))])) qn18 80 (v) (L') 140)) :
    (RunsTo Tryd.prog 54 [.code (bodyOf Tryd.f54)] (envOf [vS s, vN a, vB l] Tryd.f54.ntmps) qn18 80 (v) (L') 140) := by
  refine rMo baseRS 300 (behind Tryd.f54 0) 900 80 (hI 0 0) ([]) [] ((s = s ∧ (a : Int) = (a : Int) ∧ l = l ∧ (↑(0 : Nat) : Int) = (0 : Int)) ∧ True) next okn ?_
  all_goals clear next; exact sc6

set_option maxHeartbeats 4000000 in
theorem rs1 (s : List UInt8) (a : Nat) (l : Bool) (k : Nat) (hk : a + k < s.length) (hs : s.length ≤ 100000) (h : figI ((s.getD (a + k) 0).toNat : Int) = true)  (v : SV) (L' : HF) (next : (qn48 L' a k l s v)) :
    (RunsTo Tryd.prog 54 (headOf Tryd.f54 0) (envAt Tryd.f54.ntmps ([(0, vS s), (1, vN a), (2, vB l), (7, vN (k : Nat))])) qn18 80 (v) (L') 140) := by
  have hw : IntKind.i64.wrap ((k : Int) + 1) = ((k + 1 : Nat) : Int) := by rw [wr64 (by omega)]; rfl
  have hak : IntKind.i64.wrap ((a : Int) + (k : Int)) = ((a + k : Nat) : Int) := by rw [wr64 (by omega)]; rfl
  have E' := (⟨hw, hak⟩ : _ ∧ _)
  refine rMo baseRS 300 (behind Tryd.f54 0) 900 110 (hI 4 117) ([]) [(qn32 a k s), (qn15 a k s), (figI (qn21 a k s), true)] (qn44 a k l s) next (oc3 ?_ ?_ ?_ okn) ?_
  all_goals clear next; try dsimp only [qn32, qn46, qn15, qn21, qn44]
  all_goals exact sc31

set_option maxHeartbeats 4000000 in
theorem rs2 (s : List UInt8) (a : Nat) (l : Bool) (k : Nat) (hk : a + k < s.length) (hs : s.length ≤ 100000) (h : figI ((s.getD (a + k) 0).toNat : Int) = false) (h2 : ltrI ((s.getD (a + k) 0).toNat : Int) = true) (hl : l = true)  (v : SV) (L' : HF) (next : (qn48 L' a k l s v)) :
    (RunsTo Tryd.prog 54 (headOf Tryd.f54 0) (envAt Tryd.f54.ntmps ([(0, vS s), (1, vN a), (2, vB l), (7, vN (k : Nat))])) qn18 80 (v) (L') 140) := by
  have hw : IntKind.i64.wrap ((k : Int) + 1) = ((k + 1 : Nat) : Int) := by rw [wr64 (by omega)]; rfl
  have hak : IntKind.i64.wrap ((a : Int) + (k : Int)) = ((a + k : Nat) : Int) := by rw [wr64 (by omega)]; rfl
  have E' := (⟨hw, hak⟩ : _ ∧ _)
  refine rMo baseRS 300 (behind Tryd.f54 0) 900 110 (hI 8 30005) ([]) [(qn32 a k s), (qn15 a k s), (figI (qn21 a k s), false), (l, true), (qn15 a k s), (ltrI (qn21 a k s), true)] (qn44 a k l s) next (oc6 ?_ ?_ ?_ ?_ ?_ ?_ okn) ?_
  all_goals clear next; try dsimp only [qn32, qn46, qn15, qn21, qn44]
  all_goals exact sc31

set_option maxHeartbeats 4000000 in
theorem rs3 (s : List UInt8) (a : Nat) (l : Bool) (k : Nat) (hk : a + k = s.length) (hs : s.length ≤ 100000)  :
    (qn26 a k l s) := by
  have hw : IntKind.i64.wrap ((k : Int) + 1) = ((k + 1 : Nat) : Int) := by rw [wr64 (by omega)]; rfl
  have hak : IntKind.i64.wrap ((a : Int) + (k : Int)) = ((a + k : Nat) : Int) := by rw [wr64 (by omega)]; rfl
  have E' := (⟨hak, hw⟩ : _ ∧ _)
  refine rEn baseRS 300 (99) 900 110 (hI 1 0) ([]) [(decide (IntKind.i64.wrap ((a : Int) + (k : Int)) < (qn46 s)), false)] ((k : Int) = (k : Int) ∧ True) (oc1 ?_ okn) ?_
  all_goals try dsimp only [qn46]
  all_goals exact sc31

set_option maxHeartbeats 4000000 in
theorem rs4 (s : List UInt8) (a : Nat) (l : Bool) (k : Nat) (hk : a + k < s.length) (hs : s.length ≤ 100000) (h : figI ((s.getD (a + k) 0).toNat : Int) = false) (hl : l = false)  :
    (qn26 a k l s) := by
  have hw : IntKind.i64.wrap ((k : Int) + 1) = ((k + 1 : Nat) : Int) := by rw [wr64 (by omega)]; rfl
  have hak : IntKind.i64.wrap ((a : Int) + (k : Int)) = ((a + k : Nat) : Int) := by rw [wr64 (by omega)]; rfl
  have E' := (⟨hak, hw⟩ : _ ∧ _)
  refine rEn baseRS 300 (99) 900 110 (hI 5 53) ([]) [(qn32 a k s), (qn15 a k s), (figI (qn21 a k s), false), (l, false)] ((k : Int) = (k : Int) ∧ True) (oc4 ?_ ?_ ?_ ?_ okn) ?_
  all_goals try dsimp only [qn32, qn46, qn15, qn21]
  all_goals exact sc31

set_option maxHeartbeats 4000000 in
theorem rs5 (s : List UInt8) (a : Nat) (l : Bool) (k : Nat) (hk : a + k < s.length) (hs : s.length ≤ 100000) (h : figI ((s.getD (a + k) 0).toNat : Int) = false) (h2 : ltrI ((s.getD (a + k) 0).toNat : Int) = false) (hl : l = true)  :
    (qn26 a k l s) := by
  have hw : IntKind.i64.wrap ((k : Int) + 1) = ((k + 1 : Nat) : Int) := by rw [wr64 (by omega)]; rfl
  have hak : IntKind.i64.wrap ((a : Int) + (k : Int)) = ((a + k : Nat) : Int) := by rw [wr64 (by omega)]; rfl
  have E' := (⟨hak, hw⟩ : _ ∧ _)
  refine rEn baseRS 300 (99) 900 110 (hI 8 13621) ([]) [(qn32 a k s), (qn15 a k s), (figI (qn21 a k s), false), (l, true), (qn15 a k s), (ltrI (qn21 a k s), false)] ((k : Int) = (k : Int) ∧ True) (oc6 ?_ ?_ ?_ ?_ ?_ ?_ okn) ?_
  all_goals try dsimp only [qn32, qn46, qn15, qn21]
  all_goals exact sc31

theorem rsT (s : List UInt8) (a : Nat) (l : Bool) (ha : a ≤ s.length) (hs : s.length ≤ 100000) : RunsTo Tryd.prog 54 [.code (bodyOf Tryd.f54)] (envOf [vS s, vN a, vB l] Tryd.f54.ntmps) (Sx.look ([] ++ ([]))) 80 (vN (spanR (pfI l) (s.drop a) : Nat)) (Sx.look []) 140 := by
  refine rs0 s a l _ _ ?_
  suffices q : ∀ (j k : Nat), a + k + j = s.length → RunsTo Tryd.prog 54 (headOf Tryd.f54 0) (envAt Tryd.f54.ntmps ([(0, vS s), (1, vN a), (2, vB l), (7, vN (k : Nat))])) (Sx.look ([] ++ ([]))) 80 (vN (k + spanR (pfI l) (s.drop (a + k)) : Nat)) (Sx.look []) 140 by
    have := q (s.length - a) 0 (by omega)
    rw [Nat.add_zero, Nat.zero_add] at this
    exact this
  intro j
  induction j with
  | zero =>
    intro k hk
    rw [span_e (by omega), Nat.add_zero]
    exact rs3 s a l k (by omega) hs
  | succ j ih =>
    intro k hk
    have q := ih (k + 1) (by omega)
    have more : pfI l ((s.getD (a + k) 0).toNat : Int) = true → k + spanR (pfI l) (s.drop (a + k)) = k + 1 + spanR (pfI l) (s.drop (a + (k + 1))) := fun h => by
      rw [span_y (by omega) h, show a + k + 1 = a + (k + 1) by omega]; omega
    have less : pfI l ((s.getD (a + k) 0).toNat : Int) = false → k + spanR (pfI l) (s.drop (a + k)) = k := fun h => by
      rw [span_n (by omega) h, Nat.add_zero]
    cases h : figI ((s.getD (a + k) 0).toNat : Int) with
    | true =>
      rw [more (by unfold pfI; rw [h]; rfl)]
      exact rs1 s a l k (by omega) hs h _ _ q
    | false =>
      cases l with
      | false => rw [less (by unfold pfI; rw [h]; rfl)]; exact rs4 s a false k (by omega) hs h rfl
      | true =>
        cases h2 : ltrI ((s.getD (a + k) 0).toNat : Int) with
        | true => rw [more (by unfold pfI; rw [h, h2]; rfl)]; exact rs2 s a true k (by omega) hs h h2 rfl _ _ q
        | false => rw [less (by unfold pfI; rw [h, h2]; rfl)]; exact rs5 s a true k (by omega) hs h h2 rfl
def rsP : PC := { args := [.v (.vs 0), .v (.vi .i64 1), .v (.vb 2)], heap := [], gs := [], G := 23, tp := 213, n := 80, n' := 140, cond := fun e => decide (0 ≤ eI e 1 []) && (decide ((eI e 1 []).toNat ≤ (eS e 0 []).length) && (decide ((eS e 0 []).length ≤ 100000))), v := fun e => vN (spanR (pfI (eB e 2 [])) ((eS e 0 []).drop (eI e 1 []).toNat) : Nat), post := fun e => [] }
theorem rsP_pc : PC.Runs Tryd.prog 54 Tryd.f54 (bodyOf Tryd.f54) rsP := ⟨Tryd.func54, by kernel_rfl, (fun g hg => by first | (cases hg; done) | (revert g; show ∀ g ∈ ([] : List Nat), g < 23; decide)), fun e H hc => by
  have hc : (decide (0 ≤ eI e 1 []) && (decide ((eI e 1 []).toNat ≤ (eS e 0 []).length) && (decide ((eS e 0 []).length ≤ 100000)))) = true := hc
  try simp only [Bool.and_eq_true, decide_eq_true_eq, Nat.beq_eq] at hc
  exact by obtain ⟨h1, h2, h3⟩ := hc; have hj : ((eI e 1 []).toNat : Int) = eI e 1 [] := Int.toNat_of_nonneg h1; have q := rsT (eS e 0 []) (eI e 1 []).toNat (eB e 2 []) h2 h3; rw [hj] at q; exact q⟩

set_option maxHeartbeats 4000000 in
theorem rg0 (s : List UInt8) (a : Nat)  (v : SV) (L' : HF) (next : (RunsTo Tryd.prog 52 (headOf Tryd.f52 0) (envAt Tryd.f52.ntmps ([(0, vS s), (1, vN (a : Nat))])) qn18 80 (v) (L') 140)) :
    (RunsTo Tryd.prog 52 [.code (bodyOf Tryd.f52)] (envOf [vS s, vN a] Tryd.f52.ntmps) qn18 80 (v) (L') 140) := by
  refine rMo baseO 300 (behind Tryd.f52 0) 900 80 (hI 0 0) ([]) [] ((s = s ∧ (a : Int) = (a : Int)) ∧ True) next okn ?_
  all_goals clear next; exact sc6

set_option maxHeartbeats 4000000 in
theorem rg1 (s : List UInt8) (i : Nat) (hi : i < s.length) (hs : s.length ≤ 100000) (h : (s.getD i 0).toNat = 32 ∨ (s.getD i 0).toNat = 9 ∨ (s.getD i 0).toNat = 13)  (v : SV) (L' : HF) (next : (RunsTo Tryd.prog 52 (headOf Tryd.f52 0) (envAt Tryd.f52.ntmps ([(0, vS s), (1, vN (i + 1 : Nat))])) qn18 80 (v) (L') 140)) :
    (qn24 L' i s v) := by
  have hw : IntKind.i64.wrap ((i : Int) + 1) = ((i + 1 : Nat) : Int) := by rw [wr64 (by omega)]; rfl
  have hb0 := u8nat (s.getD i 0)
  have E' := hw
  refine bcase (fun gg0 => (bcase (fun gg1 => (rMo baseO 300 (behind Tryd.f52 0) 900 110 (hI 5 261) ([]) [(qn29 i s), (qn22 i s), ((qn11 i s) == 32, false), ((qn11 i s) == 9, false), ((qn11 i s) == 13, true)] (qn30 i s) next (oc5 ?_ ?_ gg0 gg1 ?_ okn) ?_)) fun gg1 => (rMo baseO 300 (behind Tryd.f52 0) 900 110 (hI 5 325) ([]) [(qn29 i s), (qn22 i s), ((qn11 i s) == 32, false), ((qn11 i s) == 9, true), ((qn11 i s) == 9, true)] (qn30 i s) next (oc5 ?_ ?_ gg0 gg1 gg1 okn) ?_))) fun gg0 => (rMo baseO 300 (behind Tryd.f52 0) 900 110 (hI 4 85) ([]) [(qn29 i s), (qn22 i s), ((qn11 i s) == 32, true), ((qn11 i s) == 32, true)] (qn30 i s) next (oc4 ?_ ?_ gg0 gg0 okn) ?_)
  all_goals clear next; try dsimp only [qn29, qn46, qn22, qn11, qn30] at *
  all_goals exact sc32

set_option maxHeartbeats 4000000 in
theorem rg2 (s : List UInt8) (i : Nat) (hi : i < s.length) (hs : s.length ≤ 100000) (h : (s.getD i 0).toNat = 35)  (v : SV) (L' : HF) (next : (qn25 L' i s v)) :
    (qn24 L' i s v) := by
  have hw : IntKind.i64.wrap ((i : Int) + 1) = ((i + 1 : Nat) : Int) := by rw [wr64 (by omega)]; rfl
  have hb0 := u8nat (s.getD i 0)
  have E' := hw
  refine rMo baseO 300 (behind Tryd.f52 1) 900 110 (hI 6 1029) ([]) [(qn29 i s), (qn22 i s), ((qn11 i s) == 32, false), ((qn11 i s) == 9, false), ((qn11 i s) == 13, false), ((qn11 i s) == 35, true)] ((s = s ∧ (i : Int) = (i : Int)) ∧ True) next (oc6 ?_ ?_ ?_ ?_ ?_ ?_ okn) ?_
  all_goals clear next; try dsimp only [qn29, qn46, qn22, qn11]
  all_goals exact sc32

set_option maxHeartbeats 4000000 in
theorem rg3 (s : List UInt8) (i : Nat) (hi : i < s.length) (hs : s.length ≤ 100000) (h : (s.getD i 0).toNat ≠ 10)  (v : SV) (L' : HF) (next : (RunsTo Tryd.prog 52 (headOf Tryd.f52 1) (envAt Tryd.f52.ntmps ([(0, vS s), (1, vN (i + 1 : Nat))])) qn18 80 (v) (L') 140)) :
    (qn25 L' i s v) := by
  have hw : IntKind.i64.wrap ((i : Int) + 1) = ((i + 1 : Nat) : Int) := by rw [wr64 (by omega)]; rfl
  have hb0 := u8nat (s.getD i 0)
  have E' := hw
  refine rMo baseO 300 (behind Tryd.f52 1) 900 110 (hI 3 21) ([]) [(qn29 i s), (qn22 i s), ((qn11 i s) != (10 : Int), true)] (qn30 i s) next (oc3 ?_ ?_ ?_ okn) ?_
  all_goals clear next; try dsimp only [qn29, qn46, qn22, qn11, qn30]
  all_goals exact sc32

set_option maxHeartbeats 4000000 in
theorem rg4 (s : List UInt8) (i : Nat) (hi : i < s.length) (hs : s.length ≤ 100000) (h : (s.getD i 0).toNat = 10)  (v : SV) (L' : HF) (next : (qn24 L' i s v)) :
    (qn25 L' i s v) := by
  have hw : IntKind.i64.wrap ((i : Int) + 1) = ((i + 1 : Nat) : Int) := by rw [wr64 (by omega)]; rfl
  have hb0 := u8nat (s.getD i 0)
  have E' := hw
  refine rMo baseO 300 (behind Tryd.f52 0) 900 110 (hI 3 5) ([]) [(qn29 i s), (qn22 i s), ((qn11 i s) != (10 : Int), false)] ((s = s ∧ (i : Int) = (i : Int)) ∧ True) next (oc3 ?_ ?_ ?_ okn) ?_
  all_goals clear next; try dsimp only [qn29, qn46, qn22, qn11]
  all_goals exact sc32

set_option maxHeartbeats 4000000 in
theorem rg5 (s : List UInt8) (i : Nat) (hi : i = s.length)  (v : SV) (L' : HF) (next : (qn24 L' i s v)) :
    (qn25 L' i s v) := by
  refine rMo baseO 300 (behind Tryd.f52 0) 900 110 (hI 1 0) ([]) [(decide ((i : Int) < (qn46 s)), false)] ((s = s ∧ (i : Int) = (i : Int)) ∧ True) next (oc1 ?_ okn) ?_
  all_goals clear next; try dsimp only [qn46]
  all_goals exact sc33

set_option maxHeartbeats 4000000 in
theorem rg6 (s : List UInt8) (i : Nat) (hi : i < s.length) (hs : s.length ≤ 100000) (n1 : (s.getD i 0).toNat ≠ 32) (n2 : (s.getD i 0).toNat ≠ 9) (n3 : (s.getD i 0).toNat ≠ 13) (n4 : (s.getD i 0).toNat ≠ 35)  :
    (qn35 i s) := by
  have hw : IntKind.i64.wrap ((i : Int) + 1) = ((i + 1 : Nat) : Int) := by rw [wr64 (by omega)]; rfl
  have hb0 := u8nat (s.getD i 0)
  have E' := hw
  refine rEn baseO 300 (99) 900 110 (hI 6 5) ([]) [(qn29 i s), (qn22 i s), ((qn11 i s) == 32, false), ((qn11 i s) == 9, false), ((qn11 i s) == 13, false), ((qn11 i s) == 35, false)] ((i : Int) = (i : Int) ∧ True) (oc6 ?_ ?_ ?_ ?_ ?_ ?_ okn) ?_
  all_goals try dsimp only [qn29, qn46, qn22, qn11]
  all_goals exact sc32

set_option maxHeartbeats 4000000 in
theorem rg7 (s : List UInt8) (i : Nat) (hi : i = s.length)  :
    (qn35 i s) := by
  refine rEn baseO 300 (99) 900 110 (hI 1 0) ([]) [(decide ((i : Int) < (qn46 s)), false)] ((i : Int) = (i : Int) ∧ True) (oc1 ?_ okn) ?_
  all_goals try dsimp only [qn46]
  all_goals exact sc33

theorem rgLoop (s : List UInt8) (hs : s.length ≤ 100000) : ∀ (k i : Nat), i + k = s.length → (RunsTo Tryd.prog 52 (headOf Tryd.f52 0) (envAt Tryd.f52.ntmps ([(0, vS s), (1, vN (i : Nat))])) (Sx.look ([] ++ ([]))) 80 (vN (i + gapR false (s.drop i) : Nat)) (Sx.look []) 140) ∧ (RunsTo Tryd.prog 52 (headOf Tryd.f52 1) (envAt Tryd.f52.ntmps ([(0, vS s), (1, vN (i : Nat))])) (Sx.look ([] ++ ([]))) 80 (vN (i + gapR true (s.drop i) : Nat)) (Sx.look []) 140) := by
  intro k
  induction k with
  | zero =>
    intro i hi
    have e : s.drop i = [] := List.drop_eq_nil_of_le (by omega)
    rw [e]
    have q := rg7 s i (by omega)
    exact ⟨q, rg5 s i (by omega) _ _ q⟩
  | succ k ih =>
    intro i hi
    have hlt : i < s.length := by omega
    obtain ⟨q1, q2⟩ := ih (i + 1) (by omega)
    have nn : ∀ {k : UInt8}, s.getD i 0 ≠ k → (s.getD i 0).toNat ≠ k.toNat := fun h e => h (UInt8.toNat_inj.1 e)
    rw [drop_at s hlt]
    have e1 : ∀ x, i + (x + 1) = i + 1 + x := fun x => by omega
    have outer : RunsTo Tryd.prog 52 (headOf Tryd.f52 0) (envAt Tryd.f52.ntmps ([(0, vS s), (1, vN (i : Nat))])) (Sx.look ([] ++ ([]))) 80 (vN (i + gapR false (s.getD i 0 :: s.drop (i + 1)) : Nat)) (Sx.look []) 140 := by
      rw [gapR]
      cases hb : blI (nat (s.getD i 0)) with
      | true =>
        rw [if_pos rfl, e1]
        unfold blI nat at hb
        have hb := of_decide_eq_true hb
        exact rg1 s i hlt hs (by omega) _ _ q1
      | false =>
        rw [if_neg (by decide)]
        unfold blI nat at hb
        have hb := of_decide_eq_false hb
        by_cases h : s.getD i 0 = 35
        · rw [if_pos h, e1]
          exact rg2 s i hlt hs (by rw [h]; rfl) _ _ (rg3 s i hlt hs (by rw [h]; decide) _ _ q2)
        · rw [if_neg h, Nat.add_zero]
          exact rg6 s i hlt hs (by omega) (by omega) (by omega) (nn h)
    refine ⟨outer, ?_⟩
    rw [gapR]
    by_cases h : s.getD i 0 = 10
    · rw [if_pos h, Nat.add_zero]
      have h10 : (s.getD i 0).toNat = 10 := by rw [h]; rfl
      refine rg4 s i hlt hs h10 _ _ ?_
      exact rg6 s i hlt hs (by omega) (by omega) (by omega) (by omega)
    · rw [if_neg h, e1]
      exact rg3 s i hlt hs (nn h) _ _ q2
theorem rgT (s : List UInt8) (a : Nat) (ha : a ≤ s.length) (hs : s.length ≤ 100000) : RunsTo Tryd.prog 52 [.code (bodyOf Tryd.f52)] (envOf [vS s, vN a] Tryd.f52.ntmps) (Sx.look ([] ++ ([]))) 80 (vN (a + gapR false (s.drop a) : Nat)) (Sx.look []) 140 :=
  rg0 s a _ _ (rgLoop s hs (s.length - a) a (by omega)).1
def rgP : PC := { args := [.v (.vs 0), .v (.vi .i64 1)], heap := [], gs := [], G := 23, tp := 213, n := 80, n' := 140, cond := fun e => decide (0 ≤ eI e 1 []) && (decide ((eI e 1 []).toNat ≤ (eS e 0 []).length) && (decide ((eS e 0 []).length ≤ 100000))), v := fun e => vN ((eI e 1 []).toNat + gapR false ((eS e 0 []).drop (eI e 1 []).toNat) : Nat), post := fun e => [] }
theorem rgP_pc : PC.Runs Tryd.prog 52 Tryd.f52 (bodyOf Tryd.f52) rgP := ⟨Tryd.func52, by kernel_rfl, (fun g hg => by first | (cases hg; done) | (revert g; show ∀ g ∈ ([] : List Nat), g < 23; decide)), fun e H hc => by
  have hc : (decide (0 ≤ eI e 1 []) && (decide ((eI e 1 []).toNat ≤ (eS e 0 []).length) && (decide ((eS e 0 []).length ≤ 100000)))) = true := hc
  try simp only [Bool.and_eq_true, decide_eq_true_eq, Nat.beq_eq] at hc
  exact by obtain ⟨h1, h2, h3⟩ := hc; have hj : ((eI e 1 []).toNat : Int) = eI e 1 [] := Int.toNat_of_nonneg h1; have q := rgT (eS e 0 []) (eI e 1 []).toNat h2 h3; rw [hj] at q; exact q⟩

set_option maxHeartbeats 4000000 in
theorem rdT (x : Int) (h0 : 0 ≤ x ∧ x < 256)  :
    (RunsTo Tryd.prog 120 [.code (bodyOf Tryd.f120)] (envOf [vU x] Tryd.f120.ntmps) qn18 80 (vN (hexI x)) (Sx.look ([])) 120) := by
  refine bcase (fun gg0 => (bcase (fun gg1 => (bcase (fun gg2 => (bcase (fun gg3 => (bcase (fun gg4 => (bcase (fun gg5 => (bcase (fun gg6 => (bcase (fun gg7 => (bcase (fun gg8 => (bcase (fun gg9 => (bcase (fun gg10 => (bcase (fun gg11 => (bcase (fun gg12 => (bcase (fun gg13 => (bcase (fun gg14 => (bcase (fun gg15 => (bcase (fun gg16 => (bcase (fun gg17 => (bcase (fun gg18 => (bcase (fun gg19 => (bcase (fun gg20 => (bcase (fun gg21 => (rEn baseO 900 (99) 900 80 (hI 126 4614652200062122478760324421881515940639566598995339544906808835809121980415) ([]) [(qn1 x), (qn1 x), (qn2 x), (qn2 x), (qn3 x), (qn3 x), (qn4 x), (qn4 x), (qn5 x), (qn5 x), (qn6 x), (qn6 x), (qn7 x), (qn7 x), (qn8 x), (qn8 x), (qn10 x), (qn10 x), (qn12 x), (qn12 x), (qn13 x), (qn13 x), (qn14 x), (qn14 x), (qn16 x), (qn16 x), (qn17 x), (qn17 x), (qn19 x), (qn19 x), (qn20 x), (qn20 x), (qn23 x), (qn23 x), (qn27 x), (qn27 x), (qn31 x), (qn31 x), (qn34 x), (qn34 x), (qn36 == x, false), (qn36 == x, false), (qn40 == x, false), (qn40 == x, false)] (hexI x = (-1 : Int) ∧ True) (oc8 gg0 gg0 gg1 gg1 gg2 gg2 gg3 gg3 (oc9 gg4 gg4 gg5 gg5 gg6 gg6 gg7 gg7 gg8 (oc9 gg8 gg9 gg9 gg10 gg10 gg11 gg11 gg12 gg12 (oc9 gg13 gg13 gg14 gg14 gg15 gg15 gg16 gg16 gg17 (oc9 gg17 gg18 gg18 gg19 gg19 gg20 gg20 gg21 gg21 okn))))) ?_)) fun gg21 => (rEn baseO 900 (99) 900 80 (hI 125 861869034472834162725400530303557013021990802031524877856517264263597576191) ([]) [(qn1 x), (qn1 x), (qn2 x), (qn2 x), (qn3 x), (qn3 x), (qn4 x), (qn4 x), (qn5 x), (qn5 x), (qn6 x), (qn6 x), (qn7 x), (qn7 x), (qn8 x), (qn8 x), (qn10 x), (qn10 x), (qn12 x), (qn12 x), (qn13 x), (qn13 x), (qn14 x), (qn14 x), (qn16 x), (qn16 x), (qn17 x), (qn17 x), (qn19 x), (qn19 x), (qn20 x), (qn20 x), (qn23 x), (qn23 x), (qn27 x), (qn27 x), (qn31 x), (qn31 x), (qn34 x), (qn34 x), (qn36 == x, false), (qn36 == x, false), (qn40 == x, true), (qn40 == x, true)] (qn43 x) (oc8 gg0 gg0 gg1 gg1 gg2 gg2 gg3 gg3 (oc9 gg4 gg4 gg5 gg5 gg6 gg6 gg7 gg7 gg8 (oc9 gg8 gg9 gg9 gg10 gg10 gg11 gg11 gg12 gg12 (oc9 gg13 gg13 gg14 gg14 gg15 gg15 gg16 gg16 gg17 (oc9 gg17 gg18 gg18 gg19 gg19 gg20 gg20 gg21 gg21 okn))))) ?_))) fun gg20 => (rEn baseO 900 (99) 900 80 (hI 120 841668978977377423977562705186702701452702208408303167216554723516403711) ([]) [(qn1 x), (qn1 x), (qn2 x), (qn2 x), (qn3 x), (qn3 x), (qn4 x), (qn4 x), (qn5 x), (qn5 x), (qn6 x), (qn6 x), (qn7 x), (qn7 x), (qn8 x), (qn8 x), (qn10 x), (qn10 x), (qn12 x), (qn12 x), (qn13 x), (qn13 x), (qn14 x), (qn14 x), (qn16 x), (qn16 x), (qn17 x), (qn17 x), (qn19 x), (qn19 x), (qn20 x), (qn20 x), (qn23 x), (qn23 x), (qn27 x), (qn27 x), (qn31 x), (qn31 x), (qn34 x), (qn34 x), (qn36 == x, true), (qn36 == x, true)] (qn42 x) (oc6 gg0 gg0 gg1 gg1 gg2 gg2 (oc9 gg3 gg3 gg4 gg4 gg5 gg5 gg6 gg6 gg7 (oc9 gg7 gg8 gg8 gg9 gg9 gg10 gg10 gg11 gg11 (oc9 gg12 gg12 gg13 gg13 gg14 gg14 gg15 gg15 gg16 (oc9 gg16 gg17 gg17 gg18 gg18 gg19 gg19 gg20 gg20 okn))))) ?_))) fun gg19 => (rEn baseO 900 (99) 900 80 (hI 115 821942362282907081641838391419195280301720299790887246534499356168191) ([]) [(qn1 x), (qn1 x), (qn2 x), (qn2 x), (qn3 x), (qn3 x), (qn4 x), (qn4 x), (qn5 x), (qn5 x), (qn6 x), (qn6 x), (qn7 x), (qn7 x), (qn8 x), (qn8 x), (qn10 x), (qn10 x), (qn12 x), (qn12 x), (qn13 x), (qn13 x), (qn14 x), (qn14 x), (qn16 x), (qn16 x), (qn17 x), (qn17 x), (qn19 x), (qn19 x), (qn20 x), (qn20 x), (qn23 x), (qn23 x), (qn27 x), (qn27 x), (qn31 x), (qn31 x), ((↑(68 : Nat) : Int) == x, true), ((↑(68 : Nat) : Int) == x, true)] (qn38 x) (oc4 gg0 gg0 gg1 gg1 (oc9 gg2 gg2 gg3 gg3 gg4 gg4 gg5 gg5 gg6 (oc9 gg6 gg7 gg7 gg8 gg8 gg9 gg9 gg10 gg10 (oc9 gg11 gg11 gg12 gg12 gg13 gg13 gg14 gg14 gg15 (oc9 gg15 gg16 gg16 gg17 gg17 gg18 gg18 gg19 gg19 okn))))) ?_))) fun gg18 => (rEn baseO 900 (99) 900 80 (hI 110 802678088478842485665669939426231305235448122418223126276481011711) ([]) [(qn1 x), (qn1 x), (qn2 x), (qn2 x), (qn3 x), (qn3 x), (qn4 x), (qn4 x), (qn5 x), (qn5 x), (qn6 x), (qn6 x), (qn7 x), (qn7 x), (qn8 x), (qn8 x), (qn10 x), (qn10 x), (qn12 x), (qn12 x), (qn13 x), (qn13 x), (qn14 x), (qn14 x), (qn16 x), (qn16 x), (qn17 x), (qn17 x), (qn19 x), (qn19 x), (qn20 x), (qn20 x), (qn23 x), (qn23 x), (qn27 x), (qn27 x), ((↑(67 : Nat) : Int) == x, true), ((↑(67 : Nat) : Int) == x, true)] (qn41 x) (oc2 gg0 gg0 (oc9 gg1 gg1 gg2 gg2 gg3 gg3 gg4 gg4 gg5 (oc9 gg5 gg6 gg6 gg7 gg7 gg8 gg8 gg9 gg9 (oc9 gg10 gg10 gg11 gg11 gg12 gg12 gg13 gg13 gg14 (oc9 gg14 gg15 gg15 gg16 gg16 gg17 gg17 gg18 gg18 okn))))) ?_))) fun gg17 => (rEn baseO 900 (99) 900 80 (hI 105 783865632721158364720016106144343324818384460733845604388360191) ([]) [(qn1 x), (qn1 x), (qn2 x), (qn2 x), (qn3 x), (qn3 x), (qn4 x), (qn4 x), (qn5 x), (qn5 x), (qn6 x), (qn6 x), (qn7 x), (qn7 x), (qn8 x), (qn8 x), (qn10 x), (qn10 x), (qn12 x), (qn12 x), (qn13 x), (qn13 x), (qn14 x), (qn14 x), (qn16 x), (qn16 x), (qn17 x), (qn17 x), (qn19 x), (qn19 x), (qn20 x), (qn20 x), (qn23 x), (qn23 x), ((↑(66 : Nat) : Int) == x, true), ((↑(66 : Nat) : Int) == x, true)] (qn39 x) (oc9 gg0 gg0 gg1 gg1 gg2 gg2 gg3 gg3 gg4 (oc9 gg4 gg5 gg5 gg6 gg6 gg7 gg7 gg8 gg8 (oc9 gg9 gg9 gg10 gg10 gg11 gg11 gg12 gg12 gg13 (oc9 gg13 gg14 gg14 gg15 gg15 gg16 gg16 gg17 gg17 okn)))) ?_))) fun gg16 => (rEn baseO 900 (99) 900 80 (hI 100 765805722993006027682196652070901077535107259734978732019711) ([]) [(qn1 x), (qn1 x), (qn2 x), (qn2 x), (qn3 x), (qn3 x), (qn4 x), (qn4 x), (qn5 x), (qn5 x), (qn6 x), (qn6 x), (qn7 x), (qn7 x), (qn8 x), (qn8 x), (qn10 x), (qn10 x), (qn12 x), (qn12 x), (qn13 x), (qn13 x), (qn14 x), (qn14 x), (qn16 x), (qn16 x), (qn17 x), (qn17 x), (qn19 x), (qn19 x), (qn20 x), (qn20 x), ((↑(65 : Nat) : Int) == x, true), ((↑(65 : Nat) : Int) == x, true)] (hexI x = IntKind.i64.wrap ((10 : Int) + 0) ∧ True) (oc7 gg0 gg0 gg1 gg1 gg2 gg2 gg3 (oc9 gg3 gg4 gg4 gg5 gg5 gg6 gg6 gg7 gg7 (oc9 gg8 gg8 gg9 gg9 gg10 gg10 gg11 gg11 gg12 (oc9 gg12 gg13 gg13 gg14 gg14 gg15 gg15 gg16 gg16 okn)))) ?_))) fun gg15 => (rEn baseO 900 (99) 900 80 (hI 90 730031468416742899994503024503767793792546194480484351) ([]) [(qn1 x), (qn1 x), (qn2 x), (qn2 x), (qn3 x), (qn3 x), (qn4 x), (qn4 x), (qn5 x), (qn5 x), (qn6 x), (qn6 x), (qn7 x), (qn7 x), (qn8 x), (qn8 x), (qn10 x), (qn10 x), (qn12 x), (qn12 x), (qn13 x), (qn13 x), (qn14 x), (qn14 x), (qn16 x), (qn16 x), (qn17 x), (qn17 x), (qn19 x), (qn19 x), ((↑(102 : Nat) : Int) == x, true), ((↑(102 : Nat) : Int) == x, true)] (qn43 x) (oc5 gg0 gg0 gg1 gg1 gg2 (oc9 gg2 gg3 gg3 gg4 gg4 gg5 gg5 gg6 gg6 (oc9 gg7 gg7 gg8 gg8 gg9 gg9 gg10 gg10 gg11 (oc9 gg11 gg12 gg12 gg13 gg13 gg14 gg14 gg15 gg15 okn)))) ?_))) fun gg14 => (rEn baseO 900 (99) 900 80 (hI 85 712921355875725752500219281688241323842736884600831) ([]) [(qn1 x), (qn1 x), (qn2 x), (qn2 x), (qn3 x), (qn3 x), (qn4 x), (qn4 x), (qn5 x), (qn5 x), (qn6 x), (qn6 x), (qn7 x), (qn7 x), (qn8 x), (qn8 x), (qn10 x), (qn10 x), (qn12 x), (qn12 x), (qn13 x), (qn13 x), (qn14 x), (qn14 x), (qn16 x), (qn16 x), (qn17 x), (qn17 x), ((↑(101 : Nat) : Int) == x, true), ((↑(101 : Nat) : Int) == x, true)] (qn42 x) (oc3 gg0 gg0 gg1 (oc9 gg1 gg2 gg2 gg3 gg3 gg4 gg4 gg5 gg5 (oc9 gg6 gg6 gg7 gg7 gg8 gg8 gg9 gg9 gg10 (oc9 gg10 gg11 gg11 gg12 gg12 gg13 gg13 gg14 gg14 okn)))) ?_))) fun gg13 => (rEn baseO 900 (99) 900 80 (hI 80 696212261597652654513417213554260885018664292351) ([]) [(qn1 x), (qn1 x), (qn2 x), (qn2 x), (qn3 x), (qn3 x), (qn4 x), (qn4 x), (qn5 x), (qn5 x), (qn6 x), (qn6 x), (qn7 x), (qn7 x), (qn8 x), (qn8 x), (qn10 x), (qn10 x), (qn12 x), (qn12 x), (qn13 x), (qn13 x), (qn14 x), (qn14 x), (qn16 x), (qn16 x), ((↑(100 : Nat) : Int) == x, true), ((↑(100 : Nat) : Int) == x, true)] (qn38 x) (oc1 gg0 (oc9 gg0 gg1 gg1 gg2 gg2 gg3 gg3 gg4 gg4 (oc9 gg5 gg5 gg6 gg6 gg7 gg7 gg8 gg8 gg9 (oc9 gg9 gg10 gg10 gg11 gg11 gg12 gg12 gg13 gg13 okn)))) ?_))) fun gg12 => (rEn baseO 900 (99) 900 80 (hI 75 679894786980682007845080278199300099017592831) ([]) [(qn1 x), (qn1 x), (qn2 x), (qn2 x), (qn3 x), (qn3 x), (qn4 x), (qn4 x), (qn5 x), (qn5 x), (qn6 x), (qn6 x), (qn7 x), (qn7 x), (qn8 x), (qn8 x), (qn10 x), (qn10 x), (qn12 x), (qn12 x), (qn13 x), (qn13 x), (qn14 x), (qn14 x), ((↑(99 : Nat) : Int) == x, true), ((↑(99 : Nat) : Int) == x, true)] (qn41 x) (oc8 gg0 gg0 gg1 gg1 gg2 gg2 gg3 gg3 (oc9 gg4 gg4 gg5 gg5 gg6 gg6 gg7 gg7 gg8 (oc9 gg8 gg9 gg9 gg10 gg10 gg11 gg11 gg12 gg12 okn))) ?_))) fun gg11 => (rEn baseO 900 (99) 900 80 (hI 70 663960017135159695107491796896207494500351) ([]) [(qn1 x), (qn1 x), (qn2 x), (qn2 x), (qn3 x), (qn3 x), (qn4 x), (qn4 x), (qn5 x), (qn5 x), (qn6 x), (qn6 x), (qn7 x), (qn7 x), (qn8 x), (qn8 x), (qn10 x), (qn10 x), (qn12 x), (qn12 x), (qn13 x), (qn13 x), ((↑(98 : Nat) : Int) == x, true), ((↑(98 : Nat) : Int) == x, true)] (qn39 x) (oc6 gg0 gg0 gg1 gg1 gg2 gg2 (oc9 gg3 gg3 gg4 gg4 gg5 gg5 gg6 gg6 gg7 (oc9 gg7 gg8 gg8 gg9 gg9 gg10 gg10 gg11 gg11 okn))) ?_))) fun gg10 => (rEn baseO 900 (99) 900 80 (hI 65 648662678570976211033997675109944184831) ([]) [(qn1 x), (qn1 x), (qn2 x), (qn2 x), (qn3 x), (qn3 x), (qn4 x), (qn4 x), (qn5 x), (qn5 x), (qn6 x), (qn6 x), (qn7 x), (qn7 x), (qn8 x), (qn8 x), (qn10 x), (qn10 x), (qn12 x), (qn12 x), ((↑(97 : Nat) : Int) == x, true), ((↑(97 : Nat) : Int) == x, true)] (hexI x = IntKind.i64.wrap ((10 : Int) + 0) ∧ True) (oc4 gg0 gg0 gg1 gg1 (oc9 gg2 gg2 gg3 gg3 gg4 gg4 gg5 gg5 gg6 (oc9 gg6 gg7 gg7 gg8 gg8 gg9 gg9 gg10 gg10 okn))) ?_))) fun gg9 => (rEn baseO 900 (99) 900 80 (hI 53 70735646982823311001991990005759) ([]) [(qn1 x), (qn1 x), (qn2 x), (qn2 x), (qn3 x), (qn3 x), (qn4 x), (qn4 x), (qn5 x), (qn5 x), (qn6 x), (qn6 x), (qn7 x), (qn7 x), (qn8 x), (qn8 x), (qn10 x), (qn10 x), ((↑(57 : Nat) : Int) == x, true)] (hexI x = IntKind.i64.wrap (IntKind.i64.wrap (IntKind.i64.wrap qn33 + 1) + 1) ∧ True) (oc1 gg0 (oc9 gg0 gg1 gg1 gg2 gg2 gg3 gg3 gg4 gg4 (oc9 gg5 gg5 gg6 gg6 gg7 gg7 gg8 gg8 gg9 okn))) ?_))) fun gg8 => (rEn baseO 900 (99) 900 80 (hI 48 69077780256663389650382802943) ([]) [(qn1 x), (qn1 x), (qn2 x), (qn2 x), (qn3 x), (qn3 x), (qn4 x), (qn4 x), (qn5 x), (qn5 x), (qn6 x), (qn6 x), (qn7 x), (qn7 x), (qn8 x), (qn8 x), ((↑(56 : Nat) : Int) == x, true)] (hexI x = IntKind.i64.wrap (IntKind.i64.wrap qn33 + 1) ∧ True) (oc8 gg0 gg0 gg1 gg1 gg2 gg2 gg3 gg3 (oc9 gg4 gg4 gg5 gg5 gg6 gg6 gg7 gg7 gg8 okn)) ?_))) fun gg7 => (rEn baseO 900 (99) 900 80 (hI 43 67458769781897841455452159) ([]) [(qn1 x), (qn1 x), (qn2 x), (qn2 x), (qn3 x), (qn3 x), (qn4 x), (qn4 x), (qn5 x), (qn5 x), (qn6 x), (qn6 x), (qn7 x), (qn7 x), ((↑(55 : Nat) : Int) == x, true)] (hexI x = IntKind.i64.wrap qn33 ∧ True) (oc6 gg0 gg0 gg1 gg1 gg2 gg2 (oc9 gg3 gg3 gg4 gg4 gg5 gg5 gg6 gg6 gg7 okn)) ?_))) fun gg6 => (rEn baseO 900 (99) 900 80 (hI 38 65877704865134610796543) ([]) [(qn1 x), (qn1 x), (qn2 x), (qn2 x), (qn3 x), (qn3 x), (qn4 x), (qn4 x), (qn5 x), (qn5 x), (qn6 x), (qn6 x), ((↑(54 : Nat) : Int) == x, true)] (hexI x = IntKind.i64.wrap (IntKind.i64.wrap qn37 + 1) ∧ True) (oc4 gg0 gg0 gg1 gg1 (oc9 gg2 gg2 gg3 gg3 gg4 gg4 gg5 gg5 gg6 okn)) ?_))) fun gg5 => (rEn baseO 900 (99) 900 80 (hI 33 64333696157358018559) ([]) [(qn1 x), (qn1 x), (qn2 x), (qn2 x), (qn3 x), (qn3 x), (qn4 x), (qn4 x), (qn5 x), (qn5 x), ((↑(53 : Nat) : Int) == x, true)] (hexI x = IntKind.i64.wrap qn37 ∧ True) (oc2 gg0 gg0 (oc9 gg1 gg1 gg2 gg2 gg3 gg3 gg4 gg4 gg5 okn)) ?_))) fun gg4 => (rEn baseO 900 (99) 900 80 (hI 28 62825875153670143) ([]) [(qn1 x), (qn1 x), (qn2 x), (qn2 x), (qn3 x), (qn3 x), (qn4 x), (qn4 x), ((↑(52 : Nat) : Int) == x, true)] (hexI x = IntKind.i64.wrap qn9 ∧ True) (oc9 gg0 gg0 gg1 gg1 gg2 gg2 gg3 gg3 gg4 okn) ?_))) fun gg3 => (rEn baseO 900 (99) 900 80 (hI 23 61353393704959) ([]) [(qn1 x), (qn1 x), (qn2 x), (qn2 x), (qn3 x), (qn3 x), ((↑(51 : Nat) : Int) == x, true)] (hexI x = IntKind.i64.wrap qn45 ∧ True) (oc7 gg0 gg0 gg1 gg1 gg2 gg2 gg3 okn) ?_))) fun gg2 => (rEn baseO 900 (99) 900 80 (hI 18 59915423743) ([]) [(qn1 x), (qn1 x), (qn2 x), (qn2 x), ((↑(50 : Nat) : Int) == x, true)] (hexI x = IntKind.i64.wrap qn28 ∧ True) (oc5 gg0 gg0 gg1 gg1 gg2 okn) ?_))) fun gg1 => (rEn baseO 900 (99) 900 80 (hI 13 58511359) ([]) [(qn1 x), (qn1 x), ((↑(49 : Nat) : Int) == x, true)] (hexI x = IntKind.i64.wrap ((0 : Int) + 1) ∧ True) (oc3 gg0 gg0 gg1 okn) ?_))) fun gg0 => (rEn baseO 900 (99) 900 80 (hI 8 57343) ([]) [((↑(48 : Nat) : Int) == x, true)] (hexI x = (0 : Int) ∧ True) (oc1 gg0 okn) ?_)
  all_goals try dsimp only [qn1, qn2, qn3, qn4, qn5, qn6, qn7, qn8, qn10, qn12, qn13, qn14, qn16, qn17, qn19, qn20, qn23, qn27, qn31, qn34, qn36, qn40, qn43, qn37, qn9, qn45, qn28, qn42, qn38, qn41, qn39, qn33] at *
  all_goals exact sc34

def rdP : PC := { args := [.v (.vi .u8 0)], heap := [], gs := [], G := 23, tp := 213, n := 80, n' := 120, cond := fun e => decide (0 ≤ eI e 0 [] ∧ eI e 0 [] < 256), v := fun e => vN (hexI (eI e 0 [])), post := fun e => [] }
theorem rdP_pc : PC.Runs Tryd.prog 120 Tryd.f120 (bodyOf Tryd.f120) rdP := ⟨Tryd.func120, by kernel_rfl, (fun g hg => by first | (cases hg; done) | (revert g; show ∀ g ∈ ([] : List Nat), g < 23; decide)), fun e H hc => by
  have hc : (decide (0 ≤ eI e 0 [] ∧ eI e 0 [] < 256)) = true := hc
  try simp only [Bool.and_eq_true, decide_eq_true_eq, Nat.beq_eq] at hc
  exact rdT (eI e 0 []) hc⟩
end Go.Proofs.YtaleenklamognaaDoor

set_option linter.unusedSimpArgs false
set_option linter.unusedVariables false
set_option maxRecDepth 100000
namespace Go.Proofs.YtaleenklamognaaDoor
open Go.Sx

open WordR
def erN : O1 → Nat | .err e => e | _ => 0
def sumsR1 : List (FuncId × Summ) := [(54, rsP.summ 46), (55, frP.summ 46), (120, rdP.summ 46)]
theorem baseR1 : Base0 Tryd.prog sumsR1 := (((baseO.cons Tryd.func120 (by kernel_rfl) (PC.summ_ok rdP_pc gtopG)).cons Tryd.func55 (by kernel_rfl) (PC.summ_ok frP_pc gtopG)).cons Tryd.func54 (by kernel_rfl) (PC.summ_ok rsP_pc gtopG))

variable (a : Nat) (s : List UInt8)
abbrev qo24 := (a : Int) + 1
abbrev qo30 := IntKind.i64.wrap (qo24 a)
abbrev qo1 := (↑(s.getD (qo30 a).toNat (0 : UInt8)).toNat : Int)
abbrev qo18 := (↑s.length : Int)
abbrev qo2 := (decide (0 ≤ (a : Int) ∧ (a : Int) < (qo18 s)), true)
abbrev qo3 := (↑(s.getD (a : Int).toNat (0 : UInt8)).toNat : Int)
abbrev qo4 := (decide (0 ≤ IntKind.i64.wrap (qo24 a) ∧ IntKind.i64.wrap (qo24 a) < (qo18 s)), true)
abbrev qo5 := (↑(s.getD (IntKind.i64.wrap ((a : Int) + 2)).toNat (0 : UInt8)).toNat : Int)
abbrev qo6 := (IntKind.i64.wrap (qo24 a) == (qo18 s), false)
abbrev qo12 := (a : Int) + IntKind.i64.wrap ((2 : Int) + 1)
abbrev qo7 := (↑(s.getD (IntKind.i64.wrap (qo12 a)).toNat (0 : UInt8)).toNat : Int)
abbrev qo8 := (↑(spanR (pfI true) (List.drop (qo30 a).toNat s)) : Int)
abbrev qo9 := (decide (0 ≤ IntKind.i64.wrap ((a : Int) + 2) ∧ IntKind.i64.wrap ((a : Int) + 2) < (qo18 s)), true)
abbrev qo25 := ([] : List UInt8)
abbrev qo10 := ((0 : Int) = (0 : Int) ∧ qo25 = [] ∧ (0 : Int) = (0 : Int) ∧ (5 : Int) = (5 : Int) ∧ True) ∧ True
abbrev qo11 := ((0 : Int) = (0 : Int) ∧ qo25 = [] ∧ (0 : Int) = (0 : Int) ∧ (3 : Int) = (3 : Int) ∧ True) ∧ True
abbrev qo13 := Sx.look ([] ++ ([]))
abbrev qo14 := ((↑(s.getD (a + (1 : Nat)) (0 : UInt8)).toNat : Int) = (qo1 a s) ∧ qo25 = [] ∧ (2 : Int) = (2 : Int) ∧ (0 : Int) = (0 : Int) ∧ True) ∧ True
abbrev qo15 := (decide (0 ≤ IntKind.i64.wrap (qo24 a)) && (decide ((qo30 a).toNat ≤ s.length) && decide (s.length ≤ (100000 : Nat))), true)
abbrev qo16 := ((qo3 a s) != (92 : Int), false)
abbrev qo17 := (decide (0 ≤ (qo5 a s) ∧ (qo5 a s) < 256), true)
abbrev qo19 := Sx.look ([])
abbrev qo20 := ((qo3 a s) == 36, false)
abbrev qo21 := ((qo3 a s) == 10, false)
abbrev qo22 := ((qo1 a s) == 110, false)
abbrev qo23 := (decide (0 ≤ IntKind.i64.wrap (qo12 a) ∧ IntKind.i64.wrap (qo12 a) < (qo18 s)), true)
abbrev qo26 := ((qo1 a s) == 114, false)
abbrev qo27 := (IntKind.i64.wrap ((a : Int) + 2) == (qo18 s), false)
abbrev qo28 := ((qo1 a s) == 116, false)
abbrev qo29 := ((qo1 a s) == 92, false)
abbrev qo31 := IntKind.i64.wrap (qo24 a) + (qo8 a s)
abbrev qo32 := ((qo1 a s) == 34, false)
abbrev qo33 := (decide (0 ≤ (qo7 a s) ∧ (qo7 a s) < 256), true)
set_option maxHeartbeats 4000000 in
theorem o1a (s : List UInt8) (a n : Nat) (ha : a < s.length) (hs : s.length ≤ 10000) (h : (s.getD a 0).toNat = 36) (h1 : a + 1 = s.length)  :
    (RunsTo Tryd.prog 95 [.code (bodyOf Tryd.f95)] (envOf [vS s, vN a] Tryd.f95.ntmps) qo13 80 (.tup [(false, .vi .u8 fun _ => (0 : Int)), (false, .vs fun _ => []), (false, .vi .i64 fun _ => (0 : Int)), (false, .vi .i64 fun _ => (3 : Int))]) qo19 600) := by
  have hw1 : IntKind.i64.wrap ((a : Int) + 1) = ((a + 1 : Nat) : Int) := by rw [wr64 (by omega)]; omega
  have hw2 : IntKind.i64.wrap ((a : Int) + 2) = ((a + 2 : Nat) : Int) := by rw [wr64 (by omega)]; omega
  have hw3 : IntKind.i64.wrap ((a : Int) + 3) = ((a + 3 : Nat) : Int) := by rw [wr64 (by omega)]; omega
  have hv2 : IntKind.i64.wrap (((a + 1 : Nat) : Int) + 1) = ((a + 2 : Nat) : Int) := by rw [wr64 (by omega)]; omega
  have hb0 := u8nat (s.getD (a + 0) 0)
  have hb1 := u8nat (s.getD (a + 1) 0)
  have hb2 := u8nat (s.getD (a + 2) 0)
  have hb3 := u8nat (s.getD (a + 3) 0)
  have hpt := pf_t (s.drop (a + 1))
  have E' := (⟨hw1, hw2, hw3, hv2, hpt⟩ : _ ∧ _ ∧ _ ∧ _ ∧ _)
  refine rEn baseR1 400 (99) 900 80 (hI 3 21) ([]) [(qo2 a s), ((qo3 a s) == 36, true), (IntKind.i64.wrap (qo24 a) == (qo18 s), true)] qo11 (oc3 ?_ ?_ ?_ okn) ?_
  all_goals try dsimp only [qo2, qo18, qo3, qo24, qo11, qo25]
  all_goals exact sc35

set_option maxHeartbeats 4000000 in
theorem o1b (s : List UInt8) (a n : Nat) (ha : a < s.length) (hs : s.length ≤ 10000) (h : (s.getD a 0).toNat = 36) (h1 : a + 1 < s.length) (h2 : figI ((s.getD (a + 1) 0).toNat : Int) = true)  :
    (RunsTo Tryd.prog 95 [.code (bodyOf Tryd.f95)] (envOf [vS s, vN a] Tryd.f95.ntmps) qo13 80 (.tup [(false, .vi .u8 fun _ => (0 : Int)), (false, .vs fun _ => txt s (a + 1) 1), (false, .vi .i64 fun _ => (2 : Int)), (false, .vi .i64 fun _ => (0 : Int))]) qo19 600) := by
  have hw1 : IntKind.i64.wrap ((a : Int) + 1) = ((a + 1 : Nat) : Int) := by rw [wr64 (by omega)]; omega
  have hw2 : IntKind.i64.wrap ((a : Int) + 2) = ((a + 2 : Nat) : Int) := by rw [wr64 (by omega)]; omega
  have hw3 : IntKind.i64.wrap ((a : Int) + 3) = ((a + 3 : Nat) : Int) := by rw [wr64 (by omega)]; omega
  have hv2 : IntKind.i64.wrap (((a + 1 : Nat) : Int) + 1) = ((a + 2 : Nat) : Int) := by rw [wr64 (by omega)]; omega
  have hb0 := u8nat (s.getD (a + 0) 0)
  have hb1 := u8nat (s.getD (a + 1) 0)
  have hb2 := u8nat (s.getD (a + 2) 0)
  have hb3 := u8nat (s.getD (a + 3) 0)
  have hpt := pf_t (s.drop (a + 1))
  have E' := (⟨hw1, hw2, hw3, hv2, hpt⟩ : _ ∧ _ ∧ _ ∧ _ ∧ _)
  refine rEn baseR1 400 (99) 900 80 (hI 8 22341) ([]) [(qo2 a s), ((qo3 a s) == 36, true), (qo6 a s), (qo4 a s), (figI (qo1 a s), true), (decide (0 ≤ IntKind.i64.wrap ((a : Int) + 2) ∧ IntKind.i64.wrap ((a : Int) + 2) ≤ (qo18 s)), true), (decide (0 ≤ IntKind.i64.wrap (qo24 a) ∧ IntKind.i64.wrap (qo24 a) ≤ IntKind.i64.wrap ((a : Int) + 2)), true)] (((0 : Int) = (0 : Int) ∧ txt s (a + (1 : Nat)) (1 : Nat) = List.drop (qo30 a).toNat (List.take (IntKind.i64.wrap ((a : Int) + 2)).toNat s) ∧ (2 : Int) = (2 : Int) ∧ (0 : Int) = (0 : Int) ∧ True) ∧ True) (oc7 ?_ ?_ ?_ ?_ ?_ ?_ ?_ okn) ?_
  all_goals try dsimp only [qo2, qo18, qo3, qo6, qo24, qo4, qo1, qo30]
  all_goals exact sc35

set_option maxHeartbeats 4000000 in
theorem o1c (s : List UInt8) (a n : Nat) (ha : a < s.length) (hs : s.length ≤ 10000) (h : (s.getD a 0).toNat = 36) (h1 : a + 1 < s.length) (h2 : figI ((s.getD (a + 1) 0).toNat : Int) = false) (hn : spanR goI (s.drop (a + 1)) = n) (h3 : n = 0)  :
    (RunsTo Tryd.prog 95 [.code (bodyOf Tryd.f95)] (envOf [vS s, vN a] Tryd.f95.ntmps) qo13 80 (.tup [(false, .vi .u8 fun _ => (0 : Int)), (false, .vs fun _ => []), (false, .vi .i64 fun _ => (0 : Int)), (false, .vi .i64 fun _ => (5 : Int))]) qo19 600) := by
  have hw1 : IntKind.i64.wrap ((a : Int) + 1) = ((a + 1 : Nat) : Int) := by rw [wr64 (by omega)]; omega
  have hw2 : IntKind.i64.wrap ((a : Int) + 2) = ((a + 2 : Nat) : Int) := by rw [wr64 (by omega)]; omega
  have hw3 : IntKind.i64.wrap ((a : Int) + 3) = ((a + 3 : Nat) : Int) := by rw [wr64 (by omega)]; omega
  have hv2 : IntKind.i64.wrap (((a + 1 : Nat) : Int) + 1) = ((a + 2 : Nat) : Int) := by rw [wr64 (by omega)]; omega
  have hb0 := u8nat (s.getD (a + 0) 0)
  have hb1 := u8nat (s.getD (a + 1) 0)
  have hb2 := u8nat (s.getD (a + 2) 0)
  have hb3 := u8nat (s.getD (a + 3) 0)
  have hpt := pf_t (s.drop (a + 1))
  have hwn : IntKind.i64.wrap (((a + 1 : Nat) : Int) + (n : Int)) = ((a + 1 + n : Nat) : Int) := by rw [wr64 (by have := span_le' goI s (a := a + 1) (by omega); omega)]; rfl
  have hwm : IntKind.i64.wrap ((n : Int) + 1) = ((n + 1 : Nat) : Int) := by rw [wr64 (by have := span_le' goI s (a := a + 1) (by omega); omega)]; rfl
  have hln := span_le' goI s (a := a + 1) (by omega)
  rw [hn] at hln
  have E' := (⟨hw1, hw2, hw3, hv2, hpt, hn, hwn, hwm⟩ : _ ∧ _ ∧ _ ∧ _ ∧ _ ∧ _ ∧ _ ∧ _)
  refine rEn baseR1 400 (99) 900 80 (hI 8 21317) ([]) [(qo2 a s), ((qo3 a s) == 36, true), (qo6 a s), (qo4 a s), (figI (qo1 a s), false), (qo15 a s), ((qo8 a s) == 0, true)] qo10 (oc7 ?_ ?_ ?_ ?_ ?_ ?_ ?_ okn) ?_
  all_goals try dsimp only [qo2, qo18, qo3, qo6, qo24, qo4, qo1, qo30, qo15, qo8, qo10, qo25]
  all_goals exact sc35

set_option maxHeartbeats 4000000 in
theorem o1d (s : List UInt8) (a n : Nat) (ha : a < s.length) (hs : s.length ≤ 10000) (h : (s.getD a 0).toNat = 36) (h1 : a + 1 < s.length) (h2 : figI ((s.getD (a + 1) 0).toNat : Int) = false) (hn : spanR goI (s.drop (a + 1)) = n) (h3 : 24 < n)  :
    (RunsTo Tryd.prog 95 [.code (bodyOf Tryd.f95)] (envOf [vS s, vN a] Tryd.f95.ntmps) qo13 80 (.tup [(false, .vi .u8 fun _ => (0 : Int)), (false, .vs fun _ => []), (false, .vi .i64 fun _ => (0 : Int)), (false, .vi .i64 fun _ => (4 : Int))]) qo19 600) := by
  have hw1 : IntKind.i64.wrap ((a : Int) + 1) = ((a + 1 : Nat) : Int) := by rw [wr64 (by omega)]; omega
  have hw2 : IntKind.i64.wrap ((a : Int) + 2) = ((a + 2 : Nat) : Int) := by rw [wr64 (by omega)]; omega
  have hw3 : IntKind.i64.wrap ((a : Int) + 3) = ((a + 3 : Nat) : Int) := by rw [wr64 (by omega)]; omega
  have hv2 : IntKind.i64.wrap (((a + 1 : Nat) : Int) + 1) = ((a + 2 : Nat) : Int) := by rw [wr64 (by omega)]; omega
  have hb0 := u8nat (s.getD (a + 0) 0)
  have hb1 := u8nat (s.getD (a + 1) 0)
  have hb2 := u8nat (s.getD (a + 2) 0)
  have hb3 := u8nat (s.getD (a + 3) 0)
  have hpt := pf_t (s.drop (a + 1))
  have hwn : IntKind.i64.wrap (((a + 1 : Nat) : Int) + (n : Int)) = ((a + 1 + n : Nat) : Int) := by rw [wr64 (by have := span_le' goI s (a := a + 1) (by omega); omega)]; rfl
  have hwm : IntKind.i64.wrap ((n : Int) + 1) = ((n + 1 : Nat) : Int) := by rw [wr64 (by have := span_le' goI s (a := a + 1) (by omega); omega)]; rfl
  have hln := span_le' goI s (a := a + 1) (by omega)
  rw [hn] at hln
  have E' := (⟨hw1, hw2, hw3, hv2, hpt, hn, hwn, hwm⟩ : _ ∧ _ ∧ _ ∧ _ ∧ _ ∧ _ ∧ _ ∧ _)
  refine rEn baseR1 400 (99) 900 80 (hI 9 70469) ([]) [(qo2 a s), ((qo3 a s) == 36, true), (qo6 a s), (qo4 a s), (figI (qo1 a s), false), (qo15 a s), ((qo8 a s) == 0, false), (decide ((qo8 a s) > 24), true)] (((0 : Int) = (0 : Int) ∧ qo25 = [] ∧ (0 : Int) = (0 : Int) ∧ (4 : Int) = (4 : Int) ∧ True) ∧ True) (oc8 ?_ ?_ ?_ ?_ ?_ ?_ ?_ ?_ okn) ?_
  all_goals try dsimp only [qo2, qo18, qo3, qo6, qo24, qo4, qo1, qo30, qo15, qo8, qo25]
  all_goals exact sc35

set_option maxHeartbeats 4000000 in
theorem o1e (s : List UInt8) (a n : Nat) (ha : a < s.length) (hs : s.length ≤ 10000) (h : (s.getD a 0).toNat = 36) (h1 : a + 1 < s.length) (h2 : figI ((s.getD (a + 1) 0).toNat : Int) = false) (hn : spanR goI (s.drop (a + 1)) = n) (h3 : 0 < n) (h4 : n ≤ 24)  :
    (RunsTo Tryd.prog 95 [.code (bodyOf Tryd.f95)] (envOf [vS s, vN a] Tryd.f95.ntmps) qo13 80 (.tup [(false, .vi .u8 fun _ => (0 : Int)), (false, .vs fun _ => txt s (a + 1) n), (false, .vi .i64 fun _ => ((n + 1 : Nat) : Int)), (false, .vi .i64 fun _ => (0 : Int))]) qo19 600) := by
  have hw1 : IntKind.i64.wrap ((a : Int) + 1) = ((a + 1 : Nat) : Int) := by rw [wr64 (by omega)]; omega
  have hw2 : IntKind.i64.wrap ((a : Int) + 2) = ((a + 2 : Nat) : Int) := by rw [wr64 (by omega)]; omega
  have hw3 : IntKind.i64.wrap ((a : Int) + 3) = ((a + 3 : Nat) : Int) := by rw [wr64 (by omega)]; omega
  have hv2 : IntKind.i64.wrap (((a + 1 : Nat) : Int) + 1) = ((a + 2 : Nat) : Int) := by rw [wr64 (by omega)]; omega
  have hb0 := u8nat (s.getD (a + 0) 0)
  have hb1 := u8nat (s.getD (a + 1) 0)
  have hb2 := u8nat (s.getD (a + 2) 0)
  have hb3 := u8nat (s.getD (a + 3) 0)
  have hpt := pf_t (s.drop (a + 1))
  have hwn : IntKind.i64.wrap (((a + 1 : Nat) : Int) + (n : Int)) = ((a + 1 + n : Nat) : Int) := by rw [wr64 (by have := span_le' goI s (a := a + 1) (by omega); omega)]; rfl
  have hwm : IntKind.i64.wrap ((n : Int) + 1) = ((n + 1 : Nat) : Int) := by rw [wr64 (by have := span_le' goI s (a := a + 1) (by omega); omega)]; rfl
  have hln := span_le' goI s (a := a + 1) (by omega)
  rw [hn] at hln
  have E' := (⟨hw1, hw2, hw3, hv2, hpt, hn, hwn, hwm⟩ : _ ∧ _ ∧ _ ∧ _ ∧ _ ∧ _ ∧ _ ∧ _)
  refine rEn baseR1 400 (99) 900 80 (hI 11 1315653) ([]) [(qo2 a s), ((qo3 a s) == 36, true), (qo6 a s), (qo4 a s), (figI (qo1 a s), false), (qo15 a s), ((qo8 a s) == 0, false), (decide ((qo8 a s) > 24), false), (decide (0 ≤ IntKind.i64.wrap (qo31 a s) ∧ IntKind.i64.wrap (qo31 a s) ≤ (qo18 s)), true), (decide (0 ≤ IntKind.i64.wrap (qo24 a) ∧ IntKind.i64.wrap (qo24 a) ≤ IntKind.i64.wrap (qo31 a s)), true)] (((0 : Int) = (0 : Int) ∧ txt s (a + (1 : Nat)) n = List.drop (qo30 a).toNat (List.take (IntKind.i64.wrap (qo31 a s)).toNat s) ∧ (↑(n + (1 : Nat)) : Int) = IntKind.i64.wrap ((qo8 a s) + 1) ∧ (0 : Int) = (0 : Int) ∧ True) ∧ True) (oc1 ?_ (oc9 ?_ ?_ ?_ ?_ ?_ ?_ ?_ ?_ ?_ okn)) ?_
  all_goals try dsimp only [qo2, qo18, qo3, qo6, qo24, qo4, qo1, qo30, qo15, qo8, qo31]
  all_goals exact sc35

set_option maxHeartbeats 4000000 in
theorem o1f (s : List UInt8) (a n : Nat) (ha : a < s.length) (hs : s.length ≤ 10000) (h : (s.getD a 0).toNat = 10)  :
    (RunsTo Tryd.prog 95 [.code (bodyOf Tryd.f95)] (envOf [vS s, vN a] Tryd.f95.ntmps) qo13 80 (.tup [(false, .vi .u8 fun _ => (0 : Int)), (false, .vs fun _ => []), (false, .vi .i64 fun _ => (0 : Int)), (false, .vi .i64 fun _ => (5 : Int))]) qo19 600) := by
  have hw1 : IntKind.i64.wrap ((a : Int) + 1) = ((a + 1 : Nat) : Int) := by rw [wr64 (by omega)]; omega
  have hw2 : IntKind.i64.wrap ((a : Int) + 2) = ((a + 2 : Nat) : Int) := by rw [wr64 (by omega)]; omega
  have hw3 : IntKind.i64.wrap ((a : Int) + 3) = ((a + 3 : Nat) : Int) := by rw [wr64 (by omega)]; omega
  have hv2 : IntKind.i64.wrap (((a + 1 : Nat) : Int) + 1) = ((a + 2 : Nat) : Int) := by rw [wr64 (by omega)]; omega
  have hb0 := u8nat (s.getD (a + 0) 0)
  have hb1 := u8nat (s.getD (a + 1) 0)
  have hb2 := u8nat (s.getD (a + 2) 0)
  have hb3 := u8nat (s.getD (a + 3) 0)
  have hpt := pf_t (s.drop (a + 1))
  have E' := (⟨hw1, hw2, hw3, hv2, hpt⟩ : _ ∧ _ ∧ _ ∧ _ ∧ _)
  refine rEn baseR1 400 (99) 900 80 (hI 4 81) ([]) [(qo2 a s), (qo20 a s), (qo2 a s), ((qo3 a s) == 10, true)] qo10 (oc4 ?_ ?_ ?_ ?_ okn) ?_
  all_goals try dsimp only [qo2, qo18, qo20, qo3, qo10, qo25]
  all_goals exact sc35

set_option maxHeartbeats 4000000 in
theorem o1g (s : List UInt8) (a n : Nat) (ha : a < s.length) (hs : s.length ≤ 10000) (n1 : (s.getD a 0).toNat ≠ 36) (n2 : (s.getD a 0).toNat ≠ 10) (n3 : (s.getD a 0).toNat ≠ 92)  :
    (RunsTo Tryd.prog 95 [.code (bodyOf Tryd.f95)] (envOf [vS s, vN a] Tryd.f95.ntmps) qo13 80 (.tup [(false, .vi .u8 fun _ => (((s.getD a 0).toNat : Nat) : Int)), (false, .vs fun _ => []), (false, .vi .i64 fun _ => (1 : Int)), (false, .vi .i64 fun _ => (0 : Int))]) qo19 600) := by
  have hw1 : IntKind.i64.wrap ((a : Int) + 1) = ((a + 1 : Nat) : Int) := by rw [wr64 (by omega)]; omega
  have hw2 : IntKind.i64.wrap ((a : Int) + 2) = ((a + 2 : Nat) : Int) := by rw [wr64 (by omega)]; omega
  have hw3 : IntKind.i64.wrap ((a : Int) + 3) = ((a + 3 : Nat) : Int) := by rw [wr64 (by omega)]; omega
  have hv2 : IntKind.i64.wrap (((a + 1 : Nat) : Int) + 1) = ((a + 2 : Nat) : Int) := by rw [wr64 (by omega)]; omega
  have hb0 := u8nat (s.getD (a + 0) 0)
  have hb1 := u8nat (s.getD (a + 1) 0)
  have hb2 := u8nat (s.getD (a + 2) 0)
  have hb3 := u8nat (s.getD (a + 3) 0)
  have hpt := pf_t (s.drop (a + 1))
  have E' := (⟨hw1, hw2, hw3, hv2, hpt⟩ : _ ∧ _ ∧ _ ∧ _ ∧ _)
  refine rEn baseR1 400 (99) 900 80 (hI 7 5393) ([]) [(qo2 a s), (qo20 a s), (qo2 a s), (qo21 a s), (qo2 a s), ((qo3 a s) != (92 : Int), true), (qo2 a s)] (((↑(s.getD a (0 : UInt8)).toNat : Int) = (qo3 a s) ∧ qo25 = [] ∧ (1 : Int) = (1 : Int) ∧ (0 : Int) = (0 : Int) ∧ True) ∧ True) (oc7 ?_ ?_ ?_ ?_ ?_ ?_ ?_ okn) ?_
  all_goals try dsimp only [qo2, qo18, qo20, qo3, qo21, qo25]
  all_goals exact sc35

set_option maxHeartbeats 4000000 in
theorem o1h (s : List UInt8) (a n : Nat) (ha : a < s.length) (hs : s.length ≤ 10000) (h : (s.getD a 0).toNat = 92) (h1 : a + 1 = s.length)  :
    (RunsTo Tryd.prog 95 [.code (bodyOf Tryd.f95)] (envOf [vS s, vN a] Tryd.f95.ntmps) qo13 80 (.tup [(false, .vi .u8 fun _ => (0 : Int)), (false, .vs fun _ => []), (false, .vi .i64 fun _ => (0 : Int)), (false, .vi .i64 fun _ => (3 : Int))]) qo19 600) := by
  have hw1 : IntKind.i64.wrap ((a : Int) + 1) = ((a + 1 : Nat) : Int) := by rw [wr64 (by omega)]; omega
  have hw2 : IntKind.i64.wrap ((a : Int) + 2) = ((a + 2 : Nat) : Int) := by rw [wr64 (by omega)]; omega
  have hw3 : IntKind.i64.wrap ((a : Int) + 3) = ((a + 3 : Nat) : Int) := by rw [wr64 (by omega)]; omega
  have hv2 : IntKind.i64.wrap (((a + 1 : Nat) : Int) + 1) = ((a + 2 : Nat) : Int) := by rw [wr64 (by omega)]; omega
  have hb0 := u8nat (s.getD (a + 0) 0)
  have hb1 := u8nat (s.getD (a + 1) 0)
  have hb2 := u8nat (s.getD (a + 2) 0)
  have hb3 := u8nat (s.getD (a + 3) 0)
  have hpt := pf_t (s.drop (a + 1))
  have E' := (⟨hw1, hw2, hw3, hv2, hpt⟩ : _ ∧ _ ∧ _ ∧ _ ∧ _)
  refine rEn baseR1 400 (99) 900 80 (hI 7 4369) ([]) [(qo2 a s), (qo20 a s), (qo2 a s), (qo21 a s), (qo2 a s), (qo16 a s), (IntKind.i64.wrap (qo24 a) == (qo18 s), true)] qo11 (oc7 ?_ ?_ ?_ ?_ ?_ ?_ ?_ okn) ?_
  all_goals try dsimp only [qo2, qo18, qo20, qo3, qo21, qo16, qo24, qo11, qo25]
  all_goals exact sc35

set_option maxHeartbeats 4000000 in
theorem o1i (s : List UInt8) (a n : Nat) (ha : a < s.length) (hs : s.length ≤ 10000) (h : (s.getD a 0).toNat = 92) (h1 : a + 1 < s.length) (h2 : (s.getD (a + 1) 0).toNat = 110)  :
    (RunsTo Tryd.prog 95 [.code (bodyOf Tryd.f95)] (envOf [vS s, vN a] Tryd.f95.ntmps) qo13 80 (.tup [(false, .vi .u8 fun _ => (10 : Int)), (false, .vs fun _ => []), (false, .vi .i64 fun _ => (2 : Int)), (false, .vi .i64 fun _ => (0 : Int))]) qo19 600) := by
  have hw1 : IntKind.i64.wrap ((a : Int) + 1) = ((a + 1 : Nat) : Int) := by rw [wr64 (by omega)]; omega
  have hw2 : IntKind.i64.wrap ((a : Int) + 2) = ((a + 2 : Nat) : Int) := by rw [wr64 (by omega)]; omega
  have hw3 : IntKind.i64.wrap ((a : Int) + 3) = ((a + 3 : Nat) : Int) := by rw [wr64 (by omega)]; omega
  have hv2 : IntKind.i64.wrap (((a + 1 : Nat) : Int) + 1) = ((a + 2 : Nat) : Int) := by rw [wr64 (by omega)]; omega
  have hb0 := u8nat (s.getD (a + 0) 0)
  have hb1 := u8nat (s.getD (a + 1) 0)
  have hb2 := u8nat (s.getD (a + 2) 0)
  have hb3 := u8nat (s.getD (a + 3) 0)
  have hpt := pf_t (s.drop (a + 1))
  have E' := (⟨hw1, hw2, hw3, hv2, hpt⟩ : _ ∧ _ ∧ _ ∧ _ ∧ _)
  refine rEn baseR1 400 (99) 900 80 (hI 9 82193) ([]) [(qo2 a s), (qo20 a s), (qo2 a s), (qo21 a s), (qo2 a s), (qo16 a s), (qo6 a s), (qo4 a s), ((qo1 a s) == 110, true)] (((10 : Int) = (10 : Int) ∧ qo25 = [] ∧ (2 : Int) = (2 : Int) ∧ (0 : Int) = (0 : Int) ∧ True) ∧ True) (oc9 ?_ ?_ ?_ ?_ ?_ ?_ ?_ ?_ ?_ okn) ?_
  all_goals try dsimp only [qo2, qo18, qo20, qo3, qo21, qo16, qo6, qo24, qo4, qo1, qo30, qo25]
  all_goals exact sc35

set_option maxHeartbeats 4000000 in
theorem o1j (s : List UInt8) (a n : Nat) (ha : a < s.length) (hs : s.length ≤ 10000) (h : (s.getD a 0).toNat = 92) (h1 : a + 1 < s.length) (h2 : (s.getD (a + 1) 0).toNat = 114)  :
    (RunsTo Tryd.prog 95 [.code (bodyOf Tryd.f95)] (envOf [vS s, vN a] Tryd.f95.ntmps) qo13 80 (.tup [(false, .vi .u8 fun _ => (13 : Int)), (false, .vs fun _ => []), (false, .vi .i64 fun _ => (2 : Int)), (false, .vi .i64 fun _ => (0 : Int))]) qo19 600) := by
  have hw1 : IntKind.i64.wrap ((a : Int) + 1) = ((a + 1 : Nat) : Int) := by rw [wr64 (by omega)]; omega
  have hw2 : IntKind.i64.wrap ((a : Int) + 2) = ((a + 2 : Nat) : Int) := by rw [wr64 (by omega)]; omega
  have hw3 : IntKind.i64.wrap ((a : Int) + 3) = ((a + 3 : Nat) : Int) := by rw [wr64 (by omega)]; omega
  have hv2 : IntKind.i64.wrap (((a + 1 : Nat) : Int) + 1) = ((a + 2 : Nat) : Int) := by rw [wr64 (by omega)]; omega
  have hb0 := u8nat (s.getD (a + 0) 0)
  have hb1 := u8nat (s.getD (a + 1) 0)
  have hb2 := u8nat (s.getD (a + 2) 0)
  have hb3 := u8nat (s.getD (a + 3) 0)
  have hpt := pf_t (s.drop (a + 1))
  have E' := (⟨hw1, hw2, hw3, hv2, hpt⟩ : _ ∧ _ ∧ _ ∧ _ ∧ _)
  refine rEn baseR1 400 (99) 900 80 (hI 10 278801) ([]) [(qo2 a s), (qo20 a s), (qo2 a s), (qo21 a s), (qo2 a s), (qo16 a s), (qo6 a s), (qo4 a s), (qo22 a s), ((qo1 a s) == 114, true)] (((13 : Int) = (13 : Int) ∧ qo25 = [] ∧ (2 : Int) = (2 : Int) ∧ (0 : Int) = (0 : Int) ∧ True) ∧ True) (oc1 ?_ (oc9 ?_ ?_ ?_ ?_ ?_ ?_ ?_ ?_ ?_ okn)) ?_
  all_goals try dsimp only [qo2, qo18, qo20, qo3, qo21, qo16, qo6, qo24, qo4, qo22, qo1, qo30, qo25]
  all_goals exact sc35

set_option maxHeartbeats 4000000 in
theorem o1k (s : List UInt8) (a n : Nat) (ha : a < s.length) (hs : s.length ≤ 10000) (h : (s.getD a 0).toNat = 92) (h1 : a + 1 < s.length) (h2 : (s.getD (a + 1) 0).toNat = 116)  :
    (RunsTo Tryd.prog 95 [.code (bodyOf Tryd.f95)] (envOf [vS s, vN a] Tryd.f95.ntmps) qo13 80 (.tup [(false, .vi .u8 fun _ => (9 : Int)), (false, .vs fun _ => []), (false, .vi .i64 fun _ => (2 : Int)), (false, .vi .i64 fun _ => (0 : Int))]) qo19 600) := by
  have hw1 : IntKind.i64.wrap ((a : Int) + 1) = ((a + 1 : Nat) : Int) := by rw [wr64 (by omega)]; omega
  have hw2 : IntKind.i64.wrap ((a : Int) + 2) = ((a + 2 : Nat) : Int) := by rw [wr64 (by omega)]; omega
  have hw3 : IntKind.i64.wrap ((a : Int) + 3) = ((a + 3 : Nat) : Int) := by rw [wr64 (by omega)]; omega
  have hv2 : IntKind.i64.wrap (((a + 1 : Nat) : Int) + 1) = ((a + 2 : Nat) : Int) := by rw [wr64 (by omega)]; omega
  have hb0 := u8nat (s.getD (a + 0) 0)
  have hb1 := u8nat (s.getD (a + 1) 0)
  have hb2 := u8nat (s.getD (a + 2) 0)
  have hb3 := u8nat (s.getD (a + 3) 0)
  have hpt := pf_t (s.drop (a + 1))
  have E' := (⟨hw1, hw2, hw3, hv2, hpt⟩ : _ ∧ _ ∧ _ ∧ _ ∧ _)
  refine rEn baseR1 400 (99) 900 80 (hI 11 1065233) ([]) [(qo2 a s), (qo20 a s), (qo2 a s), (qo21 a s), (qo2 a s), (qo16 a s), (qo6 a s), (qo4 a s), (qo22 a s), (qo26 a s), ((qo1 a s) == 116, true)] (((9 : Int) = (9 : Int) ∧ qo25 = [] ∧ (2 : Int) = (2 : Int) ∧ (0 : Int) = (0 : Int) ∧ True) ∧ True) (oc2 ?_ ?_ (oc9 ?_ ?_ ?_ ?_ ?_ ?_ ?_ ?_ ?_ okn)) ?_
  all_goals try dsimp only [qo2, qo18, qo20, qo3, qo21, qo16, qo6, qo24, qo4, qo22, qo1, qo30, qo26, qo25]
  all_goals exact sc35

set_option maxHeartbeats 4000000 in
theorem o1l (s : List UInt8) (a n : Nat) (ha : a < s.length) (hs : s.length ≤ 10000) (h : (s.getD a 0).toNat = 92) (h1 : a + 1 < s.length) (h2 : (s.getD (a + 1) 0).toNat = 92 ∨ (s.getD (a + 1) 0).toNat = 34 ∨ (s.getD (a + 1) 0).toNat = 36)  :
    (RunsTo Tryd.prog 95 [.code (bodyOf Tryd.f95)] (envOf [vS s, vN a] Tryd.f95.ntmps) qo13 80 (.tup [(false, .vi .u8 fun _ => (((s.getD (a + 1) 0).toNat : Nat) : Int)), (false, .vs fun _ => []), (false, .vi .i64 fun _ => (2 : Int)), (false, .vi .i64 fun _ => (0 : Int))]) qo19 600) := by
  have hw1 : IntKind.i64.wrap ((a : Int) + 1) = ((a + 1 : Nat) : Int) := by rw [wr64 (by omega)]; omega
  have hw2 : IntKind.i64.wrap ((a : Int) + 2) = ((a + 2 : Nat) : Int) := by rw [wr64 (by omega)]; omega
  have hw3 : IntKind.i64.wrap ((a : Int) + 3) = ((a + 3 : Nat) : Int) := by rw [wr64 (by omega)]; omega
  have hv2 : IntKind.i64.wrap (((a + 1 : Nat) : Int) + 1) = ((a + 2 : Nat) : Int) := by rw [wr64 (by omega)]; omega
  have hb0 := u8nat (s.getD (a + 0) 0)
  have hb1 := u8nat (s.getD (a + 1) 0)
  have hb2 := u8nat (s.getD (a + 2) 0)
  have hb3 := u8nat (s.getD (a + 3) 0)
  have hpt := pf_t (s.drop (a + 1))
  have E' := (⟨hw1, hw2, hw3, hv2, hpt⟩ : _ ∧ _ ∧ _ ∧ _ ∧ _)
  refine bcase (fun gg0 => (bcase (fun gg1 => (rEn baseR1 400 (99) 900 80 (hI 15 335560977) ([]) [(qo2 a s), (qo20 a s), (qo2 a s), (qo21 a s), (qo2 a s), (qo16 a s), (qo6 a s), (qo4 a s), (qo22 a s), (qo26 a s), (qo28 a s), (qo29 a s), (qo32 a s), ((qo1 a s) == 36, true), (qo4 a s)] (qo14 a s) (oc6 ?_ ?_ ?_ ?_ ?_ ?_ (oc9 ?_ ?_ ?_ ?_ ?_ gg0 gg1 ?_ ?_ okn)) ?_)) fun gg1 => (rEn baseR1 400 (99) 900 80 (hI 15 352338193) ([]) [(qo2 a s), (qo20 a s), (qo2 a s), (qo21 a s), (qo2 a s), (qo16 a s), (qo6 a s), (qo4 a s), (qo22 a s), (qo26 a s), (qo28 a s), (qo29 a s), ((qo1 a s) == 34, true), ((qo1 a s) == 34, true), (qo4 a s)] (qo14 a s) (oc6 ?_ ?_ ?_ ?_ ?_ ?_ (oc9 ?_ ?_ ?_ ?_ ?_ gg0 gg1 gg1 ?_ okn)) ?_))) fun gg0 => (rEn baseR1 400 (99) 900 80 (hI 14 88097041) ([]) [(qo2 a s), (qo20 a s), (qo2 a s), (qo21 a s), (qo2 a s), (qo16 a s), (qo6 a s), (qo4 a s), (qo22 a s), (qo26 a s), (qo28 a s), ((qo1 a s) == 92, true), ((qo1 a s) == 92, true), (qo4 a s)] (qo14 a s) (oc5 ?_ ?_ ?_ ?_ ?_ (oc9 ?_ ?_ ?_ ?_ ?_ ?_ gg0 gg0 ?_ okn)) ?_)
  all_goals try dsimp only [qo2, qo18, qo20, qo3, qo21, qo16, qo6, qo24, qo4, qo22, qo1, qo30, qo26, qo28, qo29, qo32, qo14, qo25] at *
  all_goals exact sc35

set_option maxHeartbeats 4000000 in
theorem o1m (s : List UInt8) (a n : Nat) (ha : a < s.length) (hs : s.length ≤ 10000) (h : (s.getD a 0).toNat = 92) (h1 : a + 1 < s.length) (h2 : (s.getD (a + 1) 0).toNat = 120) (h3 : a + 2 = s.length)  :
    (RunsTo Tryd.prog 95 [.code (bodyOf Tryd.f95)] (envOf [vS s, vN a] Tryd.f95.ntmps) qo13 80 (.tup [(false, .vi .u8 fun _ => (0 : Int)), (false, .vs fun _ => []), (false, .vi .i64 fun _ => (0 : Int)), (false, .vi .i64 fun _ => (3 : Int))]) qo19 600) := by
  have hw1 : IntKind.i64.wrap ((a : Int) + 1) = ((a + 1 : Nat) : Int) := by rw [wr64 (by omega)]; omega
  have hw2 : IntKind.i64.wrap ((a : Int) + 2) = ((a + 2 : Nat) : Int) := by rw [wr64 (by omega)]; omega
  have hw3 : IntKind.i64.wrap ((a : Int) + 3) = ((a + 3 : Nat) : Int) := by rw [wr64 (by omega)]; omega
  have hv2 : IntKind.i64.wrap (((a + 1 : Nat) : Int) + 1) = ((a + 2 : Nat) : Int) := by rw [wr64 (by omega)]; omega
  have hb0 := u8nat (s.getD (a + 0) 0)
  have hb1 := u8nat (s.getD (a + 1) 0)
  have hb2 := u8nat (s.getD (a + 2) 0)
  have hb3 := u8nat (s.getD (a + 3) 0)
  have hpt := pf_t (s.drop (a + 1))
  have E' := (⟨hw1, hw2, hw3, hv2, hpt⟩ : _ ∧ _ ∧ _ ∧ _ ∧ _)
  refine rEn baseR1 400 (99) 900 80 (hI 17 7784644881) ([]) [(qo2 a s), (qo20 a s), (qo2 a s), (qo21 a s), (qo2 a s), (qo16 a s), (qo6 a s), (qo4 a s), (qo22 a s), (qo26 a s), (qo28 a s), (qo29 a s), (qo32 a s), ((qo1 a s) == 36, false), ((qo1 a s) == 120, true), (IntKind.i64.wrap ((a : Int) + 2) == (qo18 s), true)] qo11 (oc7 ?_ ?_ ?_ ?_ ?_ ?_ ?_ (oc9 ?_ ?_ ?_ ?_ ?_ ?_ ?_ ?_ ?_ okn)) ?_
  all_goals try dsimp only [qo2, qo18, qo20, qo3, qo21, qo16, qo6, qo24, qo4, qo22, qo1, qo30, qo26, qo28, qo29, qo32, qo11, qo25]
  all_goals exact sc35

set_option maxHeartbeats 4000000 in
theorem o1n (s : List UInt8) (a n : Nat) (ha : a < s.length) (hs : s.length ≤ 10000) (h : (s.getD a 0).toNat = 92) (h1 : a + 1 < s.length) (h2 : (s.getD (a + 1) 0).toNat = 120) (h3 : a + 2 < s.length) (x1 : hexI ((s.getD (a + 2) 0).toNat : Int) < 0)  :
    (RunsTo Tryd.prog 95 [.code (bodyOf Tryd.f95)] (envOf [vS s, vN a] Tryd.f95.ntmps) qo13 80 (.tup [(false, .vi .u8 fun _ => (0 : Int)), (false, .vs fun _ => []), (false, .vi .i64 fun _ => (0 : Int)), (false, .vi .i64 fun _ => (5 : Int))]) qo19 600) := by
  have hw1 : IntKind.i64.wrap ((a : Int) + 1) = ((a + 1 : Nat) : Int) := by rw [wr64 (by omega)]; omega
  have hw2 : IntKind.i64.wrap ((a : Int) + 2) = ((a + 2 : Nat) : Int) := by rw [wr64 (by omega)]; omega
  have hw3 : IntKind.i64.wrap ((a : Int) + 3) = ((a + 3 : Nat) : Int) := by rw [wr64 (by omega)]; omega
  have hv2 : IntKind.i64.wrap (((a + 1 : Nat) : Int) + 1) = ((a + 2 : Nat) : Int) := by rw [wr64 (by omega)]; omega
  have hb0 := u8nat (s.getD (a + 0) 0)
  have hb1 := u8nat (s.getD (a + 1) 0)
  have hb2 := u8nat (s.getD (a + 2) 0)
  have hb3 := u8nat (s.getD (a + 3) 0)
  have hpt := pf_t (s.drop (a + 1))
  have E' := (⟨hw1, hw2, hw3, hv2, hpt⟩ : _ ∧ _ ∧ _ ∧ _ ∧ _)
  refine rEn baseR1 400 (99) 900 80 (hI 20 364266930449) ([]) [(qo2 a s), (qo20 a s), (qo2 a s), (qo21 a s), (qo2 a s), (qo16 a s), (qo6 a s), (qo4 a s), (qo22 a s), (qo26 a s), (qo28 a s), (qo29 a s), (qo32 a s), ((qo1 a s) == 36, false), ((qo1 a s) == 120, true), (qo27 a s), (qo9 a s), (qo17 a s), (decide (hexI (qo5 a s) < 0), true)] qo10 (oc1 ?_ (oc9 ?_ ?_ ?_ ?_ ?_ ?_ ?_ ?_ ?_ (oc9 ?_ ?_ ?_ ?_ ?_ ?_ ?_ ?_ ?_ okn))) ?_
  all_goals try dsimp only [qo2, qo18, qo20, qo3, qo21, qo16, qo6, qo24, qo4, qo22, qo1, qo30, qo26, qo28, qo29, qo32, qo27, qo9, qo17, qo5, qo10, qo25]
  all_goals exact sc35

set_option maxHeartbeats 4000000 in
theorem o1o (s : List UInt8) (a n : Nat) (ha : a < s.length) (hs : s.length ≤ 10000) (h : (s.getD a 0).toNat = 92) (h1 : a + 1 < s.length) (h2 : (s.getD (a + 1) 0).toNat = 120) (h3 : a + 3 = s.length) (x1 : 0 ≤ hexI ((s.getD (a + 2) 0).toNat : Int))  :
    (RunsTo Tryd.prog 95 [.code (bodyOf Tryd.f95)] (envOf [vS s, vN a] Tryd.f95.ntmps) qo13 80 (.tup [(false, .vi .u8 fun _ => (0 : Int)), (false, .vs fun _ => []), (false, .vi .i64 fun _ => (0 : Int)), (false, .vi .i64 fun _ => (3 : Int))]) qo19 600) := by
  have hw1 : IntKind.i64.wrap ((a : Int) + 1) = ((a + 1 : Nat) : Int) := by rw [wr64 (by omega)]; omega
  have hw2 : IntKind.i64.wrap ((a : Int) + 2) = ((a + 2 : Nat) : Int) := by rw [wr64 (by omega)]; omega
  have hw3 : IntKind.i64.wrap ((a : Int) + 3) = ((a + 3 : Nat) : Int) := by rw [wr64 (by omega)]; omega
  have hv2 : IntKind.i64.wrap (((a + 1 : Nat) : Int) + 1) = ((a + 2 : Nat) : Int) := by rw [wr64 (by omega)]; omega
  have hb0 := u8nat (s.getD (a + 0) 0)
  have hb1 := u8nat (s.getD (a + 1) 0)
  have hb2 := u8nat (s.getD (a + 2) 0)
  have hb3 := u8nat (s.getD (a + 3) 0)
  have hpt := pf_t (s.drop (a + 1))
  have E' := (⟨hw1, hw2, hw3, hv2, hpt⟩ : _ ∧ _ ∧ _ ∧ _ ∧ _)
  refine rEn baseR1 400 (99) 900 80 (hI 24 128732249473297) ([]) [(qo2 a s), (qo20 a s), (qo2 a s), (qo21 a s), (qo2 a s), (qo16 a s), (qo6 a s), (qo4 a s), (qo22 a s), (qo26 a s), (qo28 a s), (qo29 a s), (qo32 a s), ((qo1 a s) == 36, false), ((qo1 a s) == 120, true), (qo27 a s), (qo9 a s), (qo17 a s), (decide (hexI (qo5 a s) < 0), false), (qo9 a s), (qo17 a s), (IntKind.i64.wrap (qo12 a) == (qo18 s), true)] qo11 (oc4 ?_ ?_ ?_ ?_ (oc9 ?_ ?_ ?_ ?_ ?_ ?_ ?_ ?_ ?_ (oc9 ?_ ?_ ?_ ?_ ?_ ?_ ?_ ?_ ?_ okn))) ?_
  all_goals try dsimp only [qo2, qo18, qo20, qo3, qo21, qo16, qo6, qo24, qo4, qo22, qo1, qo30, qo26, qo28, qo29, qo32, qo27, qo9, qo17, qo5, qo12, qo11, qo25]
  all_goals exact sc35

set_option maxHeartbeats 4000000 in
theorem o1p (s : List UInt8) (a n : Nat) (ha : a < s.length) (hs : s.length ≤ 10000) (h : (s.getD a 0).toNat = 92) (h1 : a + 1 < s.length) (h2 : (s.getD (a + 1) 0).toNat = 120) (h3 : a + 3 < s.length) (x1 : 0 ≤ hexI ((s.getD (a + 2) 0).toNat : Int)) (x2 : hexI ((s.getD (a + 3) 0).toNat : Int) < 0)  :
    (RunsTo Tryd.prog 95 [.code (bodyOf Tryd.f95)] (envOf [vS s, vN a] Tryd.f95.ntmps) qo13 80 (.tup [(false, .vi .u8 fun _ => (0 : Int)), (false, .vs fun _ => []), (false, .vi .i64 fun _ => (0 : Int)), (false, .vi .i64 fun _ => (5 : Int))]) qo19 600) := by
  have hw1 : IntKind.i64.wrap ((a : Int) + 1) = ((a + 1 : Nat) : Int) := by rw [wr64 (by omega)]; omega
  have hw2 : IntKind.i64.wrap ((a : Int) + 2) = ((a + 2 : Nat) : Int) := by rw [wr64 (by omega)]; omega
  have hw3 : IntKind.i64.wrap ((a : Int) + 3) = ((a + 3 : Nat) : Int) := by rw [wr64 (by omega)]; omega
  have hv2 : IntKind.i64.wrap (((a + 1 : Nat) : Int) + 1) = ((a + 2 : Nat) : Int) := by rw [wr64 (by omega)]; omega
  have hb0 := u8nat (s.getD (a + 0) 0)
  have hb1 := u8nat (s.getD (a + 1) 0)
  have hb2 := u8nat (s.getD (a + 2) 0)
  have hb3 := u8nat (s.getD (a + 3) 0)
  have hpt := pf_t (s.drop (a + 1))
  have E' := (⟨hw1, hw2, hw3, hv2, hpt⟩ : _ ∧ _ ∧ _ ∧ _ ∧ _)
  refine rEn baseR1 400 (99) 900 80 (hI 27 5969338016219409) ([]) [(qo2 a s), (qo20 a s), (qo2 a s), (qo21 a s), (qo2 a s), (qo16 a s), (qo6 a s), (qo4 a s), (qo22 a s), (qo26 a s), (qo28 a s), (qo29 a s), (qo32 a s), ((qo1 a s) == 36, false), ((qo1 a s) == 120, true), (qo27 a s), (qo9 a s), (qo17 a s), (decide (hexI (qo5 a s) < 0), false), (qo9 a s), (qo17 a s), (IntKind.i64.wrap (qo12 a) == (qo18 s), false), (qo23 a s), (qo33 a s), (decide (hexI (qo7 a s) < 0), true)] qo10 (oc7 ?_ ?_ ?_ ?_ ?_ ?_ ?_ (oc9 ?_ ?_ ?_ ?_ ?_ ?_ ?_ ?_ ?_ (oc9 ?_ ?_ ?_ ?_ ?_ ?_ ?_ ?_ ?_ okn))) ?_
  all_goals try dsimp only [qo2, qo18, qo20, qo3, qo21, qo16, qo6, qo24, qo4, qo22, qo1, qo30, qo26, qo28, qo29, qo32, qo27, qo9, qo17, qo5, qo12, qo23, qo33, qo7, qo10, qo25]
  all_goals exact sc35

set_option maxHeartbeats 4000000 in
theorem o1q (s : List UInt8) (a n : Nat) (ha : a < s.length) (hs : s.length ≤ 10000) (h : (s.getD a 0).toNat = 92) (h1 : a + 1 < s.length) (h2 : (s.getD (a + 1) 0).toNat = 120) (h3 : a + 3 < s.length) (x1 : 0 ≤ hexI ((s.getD (a + 2) 0).toNat : Int)) (x2 : 0 ≤ hexI ((s.getD (a + 3) 0).toNat : Int))  :
    (RunsTo Tryd.prog 95 [.code (bodyOf Tryd.f95)] (envOf [vS s, vN a] Tryd.f95.ntmps) qo13 80 (.tup [(false, .vi .u8 fun _ => (16 * hexI ((s.getD (a + 2) 0).toNat : Int) + hexI ((s.getD (a + 3) 0).toNat : Int) : Int)), (false, .vs fun _ => []), (false, .vi .i64 fun _ => (4 : Int)), (false, .vi .i64 fun _ => (0 : Int))]) qo19 600) := by
  have hw1 : IntKind.i64.wrap ((a : Int) + 1) = ((a + 1 : Nat) : Int) := by rw [wr64 (by omega)]; omega
  have hw2 : IntKind.i64.wrap ((a : Int) + 2) = ((a + 2 : Nat) : Int) := by rw [wr64 (by omega)]; omega
  have hw3 : IntKind.i64.wrap ((a : Int) + 3) = ((a + 3 : Nat) : Int) := by rw [wr64 (by omega)]; omega
  have hv2 : IntKind.i64.wrap (((a + 1 : Nat) : Int) + 1) = ((a + 2 : Nat) : Int) := by rw [wr64 (by omega)]; omega
  have hb0 := u8nat (s.getD (a + 0) 0)
  have hb1 := u8nat (s.getD (a + 1) 0)
  have hb2 := u8nat (s.getD (a + 2) 0)
  have hb3 := u8nat (s.getD (a + 3) 0)
  have hpt := pf_t (s.drop (a + 1))
  have l1 := hexI_lt ((s.getD (a + 2) 0).toNat : Int)
  have l2 := hexI_lt ((s.getD (a + 3) 0).toNat : Int)
  have hx0 : IntKind.i64.wrap (0 + hexI ((s.getD (a + 2) 0).toNat : Int)) = hexI ((s.getD (a + 2) 0).toNat : Int) := by rw [wr64 (by omega)]; omega
  have hx1 : IntKind.i64.wrap (16 * hexI ((s.getD (a + 2) 0).toNat : Int)) = 16 * hexI ((s.getD (a + 2) 0).toNat : Int) := wr64 (by omega)
  have hx2 : IntKind.i64.wrap (16 * hexI ((s.getD (a + 2) 0).toNat : Int) + hexI ((s.getD (a + 3) 0).toNat : Int)) = 16 * hexI ((s.getD (a + 2) 0).toNat : Int) + hexI ((s.getD (a + 3) 0).toNat : Int) := wr64 (by omega)
  have hx3 : IntKind.u8.wrap (16 * hexI ((s.getD (a + 2) 0).toNat : Int) + hexI ((s.getD (a + 3) 0).toNat : Int)) = 16 * hexI ((s.getD (a + 2) 0).toNat : Int) + hexI ((s.getD (a + 3) 0).toNat : Int) := u8id (by omega)
  have hx4 : IntKind.i64.wrap (16 * 0) = 0 := rfl
  have hw21 : IntKind.i64.wrap (2 + 1) = 3 := rfl
  have hn3 : ((a : Int) + (2 + 1)).toNat = a + 3 := by omega
  have E' := (⟨hw1, hw2, hw3, hv2, hpt, hx0, hx1, hx2, hx3, hx4, hw21, hn3⟩ : _ ∧ _ ∧ _ ∧ _ ∧ _ ∧ _ ∧ _ ∧ _ ∧ _ ∧ _ ∧ _ ∧ _)
  refine rEn baseR1 400 (99) 900 80 (hI 30 667998483239682321) ([]) [(qo2 a s), (qo20 a s), (qo2 a s), (qo21 a s), (qo2 a s), (qo16 a s), (qo6 a s), (qo4 a s), (qo22 a s), (qo26 a s), (qo28 a s), (qo29 a s), (qo32 a s), ((qo1 a s) == 36, false), ((qo1 a s) == 120, true), (qo27 a s), (qo9 a s), (qo17 a s), (decide (hexI (qo5 a s) < 0), false), (qo9 a s), (qo17 a s), (IntKind.i64.wrap (qo12 a) == (qo18 s), false), (qo23 a s), (qo33 a s), (decide (hexI (qo7 a s) < 0), false), (qo23 a s), (qo33 a s)] (((16 : Int) * hexI (↑(s.getD (a + (2 : Nat)) (0 : UInt8)).toNat : Int) + hexI (↑(s.getD (a + (3 : Nat)) (0 : UInt8)).toNat : Int) = IntKind.u8.wrap (IntKind.i64.wrap (IntKind.i64.wrap ((16 : Int) * IntKind.i64.wrap (IntKind.i64.wrap ((16 : Int) * (0 : Int)) + hexI (qo5 a s))) + hexI (qo7 a s))) ∧ qo25 = [] ∧ (4 : Int) = (4 : Int) ∧ (0 : Int) = (0 : Int) ∧ True) ∧ True) (oc9 ?_ ?_ ?_ ?_ ?_ ?_ ?_ ?_ ?_ (oc9 ?_ ?_ ?_ ?_ ?_ ?_ ?_ ?_ ?_ (oc9 ?_ ?_ ?_ ?_ ?_ ?_ ?_ ?_ ?_ okn))) ?_
  all_goals try dsimp only [qo2, qo18, qo20, qo3, qo21, qo16, qo6, qo24, qo4, qo22, qo1, qo30, qo26, qo28, qo29, qo32, qo27, qo9, qo17, qo5, qo12, qo23, qo33, qo7, qo25]
  all_goals exact sc35

set_option maxHeartbeats 4000000 in
theorem o1r (s : List UInt8) (a n : Nat) (ha : a < s.length) (hs : s.length ≤ 10000) (h : (s.getD a 0).toNat = 92) (h1 : a + 1 < s.length) (m110 : (s.getD (a + 1) 0).toNat ≠ 110) (m114 : (s.getD (a + 1) 0).toNat ≠ 114) (m116 : (s.getD (a + 1) 0).toNat ≠ 116) (m120 : (s.getD (a + 1) 0).toNat ≠ 120) (m92 : (s.getD (a + 1) 0).toNat ≠ 92) (m34 : (s.getD (a + 1) 0).toNat ≠ 34) (m36 : (s.getD (a + 1) 0).toNat ≠ 36)  :
    (RunsTo Tryd.prog 95 [.code (bodyOf Tryd.f95)] (envOf [vS s, vN a] Tryd.f95.ntmps) qo13 80 (.tup [(false, .vi .u8 fun _ => (0 : Int)), (false, .vs fun _ => []), (false, .vi .i64 fun _ => (0 : Int)), (false, .vi .i64 fun _ => (5 : Int))]) qo19 600) := by
  have hw1 : IntKind.i64.wrap ((a : Int) + 1) = ((a + 1 : Nat) : Int) := by rw [wr64 (by omega)]; omega
  have hw2 : IntKind.i64.wrap ((a : Int) + 2) = ((a + 2 : Nat) : Int) := by rw [wr64 (by omega)]; omega
  have hw3 : IntKind.i64.wrap ((a : Int) + 3) = ((a + 3 : Nat) : Int) := by rw [wr64 (by omega)]; omega
  have hv2 : IntKind.i64.wrap (((a + 1 : Nat) : Int) + 1) = ((a + 2 : Nat) : Int) := by rw [wr64 (by omega)]; omega
  have hb0 := u8nat (s.getD (a + 0) 0)
  have hb1 := u8nat (s.getD (a + 1) 0)
  have hb2 := u8nat (s.getD (a + 2) 0)
  have hb3 := u8nat (s.getD (a + 3) 0)
  have hpt := pf_t (s.drop (a + 1))
  have E' := (⟨hw1, hw2, hw3, hv2, hpt⟩ : _ ∧ _ ∧ _ ∧ _ ∧ _)
  refine rEn baseR1 400 (99) 900 80 (hI 15 16657) ([]) [(qo2 a s), (qo20 a s), (qo2 a s), (qo21 a s), (qo2 a s), (qo16 a s), (qo6 a s), (qo4 a s), (qo22 a s), (qo26 a s), (qo28 a s), (qo29 a s), (qo32 a s), ((qo1 a s) == 36, false), ((qo1 a s) == 120, false)] qo10 (oc6 ?_ ?_ ?_ ?_ ?_ ?_ (oc9 ?_ ?_ ?_ ?_ ?_ ?_ ?_ ?_ ?_ okn)) ?_
  all_goals try dsimp only [qo2, qo18, qo20, qo3, qo21, qo16, qo6, qo24, qo4, qo22, qo1, qo30, qo26, qo28, qo29, qo32, qo10, qo25]
  all_goals exact sc35

end Go.Proofs.YtaleenklamognaaDoor

set_option linter.unusedSimpArgs false
set_option linter.unusedVariables false
set_option maxRecDepth 100000
namespace Go.Proofs.YtaleenklamognaaDoor
open Go.Sx

open WordR
theorem o1T (s : List UInt8) (a : Nat) (ha : a < s.length) (hs : s.length ≤ 10000) : RunsTo Tryd.prog 95 [.code (bodyOf Tryd.f95)] (envOf [vS s, vN a] Tryd.f95.ntmps) (Sx.look ([] ++ ([]))) 80 (.tup [(false, .vi .u8 fun _ => ((byC (oneR (s.drop a))).toNat : Int)), (false, .vs fun _ => vaX (oneR (s.drop a))), (false, .vi .i64 fun _ => (o1N (oneR (s.drop a)) : Int)), (false, .vi .i64 fun _ => (erN (oneR (s.drop a)) : Int))]) (Sx.look []) 600 := by
  have ho : oneR (s.drop a) = if s.getD a 0 = 36 then varR (s.drop (a + 1)) else if s.getD a 0 = 10 then .err 5 else if s.getD a 0 = 92 then escR (s.drop (a + 1)) else .byte (s.getD a 0) 1 := by rw [drop_at s ha]; rfl
  rw [ho]
  by_cases h36 : s.getD a 0 = 36
  · rw [if_pos h36]
    have h36 : (s.getD a 0).toNat = 36 := by rw [h36]; rfl
    by_cases h1 : s.length ≤ a + 1
    · rw [List.drop_eq_nil_of_le h1]; exact o1a s a 0 ha hs h36 (by omega)
    have h1 : a + 1 < s.length := by omega
    have hd := drop_at s h1
    have hv : varR (s.drop (a + 1)) = if figI (nat (s.getD (a + 1) 0)) = true then .var [s.getD (a + 1) 0] 2 else if ltrI (nat (s.getD (a + 1) 0)) = false then .err 5 else if 24 < spanR goI (s.drop (a + 1)) then .err 4 else .var ((s.drop (a + 1)).take (spanR goI (s.drop (a + 1)))) (spanR goI (s.drop (a + 1)) + 1) := by
      rw [hd]; rfl
    rw [hv]
    unfold nat
    cases hf : figI ((s.getD (a + 1) 0).toNat : Int) with
    | true =>
      have q := o1b s a 0 ha hs h36 h1 hf
      have e : txt s (a + 1) 1 = [s.getD (a + 1) 0] := by unfold txt; rw [take_drop, hd]; rfl
      rw [e] at q
      exact q
    | false =>
      rw [if_neg (by decide)]
      cases hr : ltrI ((s.getD (a + 1) 0).toNat : Int) with
      | false =>
        refine o1c s a 0 ha hs h36 h1 hf (span_n h1 ?_) rfl
        unfold goI; rw [hr, hf]; rfl
      | true =>
        rw [if_neg (by decide)]
        have hp : 0 < spanR goI (s.drop (a + 1)) := by
          rw [span_y h1 (by unfold goI; rw [hr]; rfl)]; omega
        by_cases h24 : 24 < spanR goI (s.drop (a + 1))
        · rw [if_pos h24]; exact o1d s a _ ha hs h36 h1 hf rfl h24
        · rw [if_neg h24]
          have q := o1e s a _ ha hs h36 h1 hf rfl hp (by omega)
          unfold txt at q
          rw [take_drop] at q
          exact q
  rw [if_neg h36]
  by_cases h10 : s.getD a 0 = 10
  · rw [if_pos h10]; exact o1f s a 0 ha hs (by rw [h10]; rfl)
  rw [if_neg h10]
  by_cases h92 : s.getD a 0 = 92
  · rw [if_pos h92]
    have h92 : (s.getD a 0).toNat = 92 := by rw [h92]; rfl
    by_cases h1 : s.length ≤ a + 1
    · rw [List.drop_eq_nil_of_le h1]; exact o1h s a 0 ha hs h92 (by omega)
    have h1 : a + 1 < s.length := by omega
    rw [drop_at s h1, escR]
    by_cases e1 : s.getD (a + 1) 0 = 110
    · rw [if_pos e1]; exact o1i s a 0 ha hs h92 h1 (by rw [e1]; rfl)
    rw [if_neg e1]
    by_cases e2 : s.getD (a + 1) 0 = 114
    · rw [if_pos e2]; exact o1j s a 0 ha hs h92 h1 (by rw [e2]; rfl)
    rw [if_neg e2]
    by_cases e3 : s.getD (a + 1) 0 = 116
    · rw [if_pos e3]; exact o1k s a 0 ha hs h92 h1 (by rw [e3]; rfl)
    rw [if_neg e3]
    by_cases e4 : s.getD (a + 1) 0 = 120
    · rw [if_pos e4]
      have e4 : (s.getD (a + 1) 0).toNat = 120 := by rw [e4]; rfl
      by_cases h2 : s.length ≤ a + 1 + 1
      · rw [List.drop_eq_nil_of_le h2]; exact o1m s a 0 ha hs h92 h1 e4 (by omega)
      have h2 : a + 1 + 1 < s.length := by omega
      rw [drop_at s h2]
      by_cases h3 : s.length ≤ a + 1 + 1 + 1
      · rw [List.drop_eq_nil_of_le h3, hexR]
        by_cases x1 : hexI (nat (s.getD (a + 2) 0)) < 0
        · rw [if_pos x1]; exact o1n s a 0 ha hs h92 h1 e4 (by omega) x1
        · rw [if_neg x1]; exact o1o s a 0 ha hs h92 h1 e4 (by omega) (by unfold nat at x1; omega)
      have h3 : a + 1 + 1 + 1 < s.length := by omega
      rw [drop_at s h3, hexR]
      by_cases x1 : hexI (nat (s.getD (a + 2) 0)) < 0
      · rw [if_pos x1]; exact o1n s a 0 ha hs h92 h1 e4 (by omega) x1
      rw [if_neg x1]
      by_cases x2 : hexI (nat (s.getD (a + 3) 0)) < 0
      · rw [if_pos x2]; exact o1p s a 0 ha hs h92 h1 e4 (by omega) (by unfold nat at x1; omega) x2
      rw [if_neg x2]
      unfold nat at x1 x2
      have q := o1q s a 0 ha hs h92 h1 e4 (by omega) (by omega) (by omega)
      have l1 := hexI_lt ((s.getD (a + 2) 0).toNat : Int)
      have l2 := hexI_lt ((s.getD (a + 3) 0).toNat : Int)
      have e : (((UInt8.ofNat (16 * hexI (nat (s.getD (a + 2) 0)) + hexI (nat (s.getD (a + 3) 0))).toNat).toNat : Nat) : Int) = 16 * hexI ((s.getD (a + 2) 0).toNat : Int) + hexI ((s.getD (a + 3) 0).toNat : Int) := u8of (by unfold nat; omega)
      show RunsTo Tryd.prog 95 [.code (bodyOf Tryd.f95)] (envOf [vS s, vN a] Tryd.f95.ntmps) (Sx.look ([] ++ ([]))) 80 (.tup [(false, .vi .u8 fun _ => ((byC (.byte (UInt8.ofNat (16 * hexI (nat (s.getD (a + 2) 0)) + hexI (nat (s.getD (a + 3) 0))).toNat) 4)).toNat : Int)), (false, .vs fun _ => []), (false, .vi .i64 fun _ => (4 : Int)), (false, .vi .i64 fun _ => (0 : Int))]) (Sx.look []) 600
      simp only [byC, e]
      exact q
    rw [if_neg e4]
    by_cases e5 : s.getD (a + 1) 0 = 92 ∨ s.getD (a + 1) 0 = 34 ∨ s.getD (a + 1) 0 = 36
    · rw [if_pos e5]
      exact o1l s a 0 ha hs h92 h1 (by rcases e5 with e | e | e <;> rw [e] <;> decide)
    rw [if_neg e5]
    exact o1r s a 0 ha hs h92 h1 (nat_ne e1) (nat_ne e2) (nat_ne e3) (nat_ne e4) (nat_ne fun e => e5 (.inl e)) (nat_ne fun e => e5 (.inr (.inl e))) (nat_ne fun e => e5 (.inr (.inr e)))
  rw [if_neg h92]
  exact o1g s a 0 ha hs (nat_ne h36) (nat_ne h10) (nat_ne h92)
def o1P : PC := { args := [.v (.vs 0), .v (.vi .i64 1)], heap := [], gs := [], G := 23, tp := 213, n := 80, n' := 600, cond := fun e => decide (0 ≤ eI e 1 []) && (decide ((eI e 1 []).toNat < (eS e 0 []).length) && decide ((eS e 0 []).length ≤ 10000)), v := fun e => .tup [(false, .vi .u8 fun _ => ((byC (oneR ((eS e 0 []).drop (eI e 1 []).toNat))).toNat : Int)), (false, .vs fun _ => vaX (oneR ((eS e 0 []).drop (eI e 1 []).toNat))), (false, .vi .i64 fun _ => (o1N (oneR ((eS e 0 []).drop (eI e 1 []).toNat)) : Int)), (false, .vi .i64 fun _ => (erN (oneR ((eS e 0 []).drop (eI e 1 []).toNat)) : Int))], post := fun e => [] }
theorem o1P_pc : PC.Runs Tryd.prog 95 Tryd.f95 (bodyOf Tryd.f95) o1P := ⟨Tryd.func95, by kernel_rfl, (fun g hg => by first | (cases hg; done) | (revert g; show ∀ g ∈ ([] : List Nat), g < 23; decide)), fun e H hc => by
  have hc : (decide (0 ≤ eI e 1 []) && (decide ((eI e 1 []).toNat < (eS e 0 []).length) && decide ((eS e 0 []).length ≤ 10000))) = true := hc
  try simp only [Bool.and_eq_true, decide_eq_true_eq, Nat.beq_eq] at hc
  exact by obtain ⟨h1, h2, h3⟩ := hc; have hj : ((eI e 1 []).toNat : Int) = eI e 1 [] := Int.toNat_of_nonneg h1; have q := o1T (eS e 0 []) (eI e 1 []).toNat h2 h3; rw [hj] at q; exact q⟩
def sumsXT : List (FuncId × Summ) := [(95, o1P.summ 46)]
theorem baseXT : Base0 Tryd.prog sumsXT := (baseO.cons Tryd.func95 (by kernel_rfl) (PC.summ_ok o1P_pc gtopG))

variable (L' : HF) (P Q : List Pc) (a fr n : Nat) (s : List UInt8) (v : SV)
abbrev qq24 := (↑P.length : Int)
abbrev qq7 := IntKind.i64.wrap ((qq24 P) - 1)
abbrev qq1 := ((0 + (qq7 P).toNat).blt P.length, true)
abbrev qq2 := (decide (0 ≤ IntKind.i64.wrap ((qq24 P) - 1) ∧ IntKind.i64.wrap ((qq24 P) - 1) < (qq24 P)), true)
abbrev qq3 := oneR (List.drop (a : Int).toNat s)
abbrev qq4 := (decide (0 ≤ (a : Int)) && (decide ((a : Int).toNat < s.length) && decide (s.length ≤ (10000 : Nat))), true)
abbrev qq5 := (↑(P.length + (1 : Nat)) : Int)
abbrev qq6 := (decide (0 ≤ (a : Int) ∧ (a : Int) < (↑s.length : Int)), true)
abbrev qq8 := (decide (((2 : Nat) * (P.length + (1 : Nat)) + (192 : Nat)) * (32 : Nat) ≤ (281474976710656 : Nat)), true)
abbrev qq9 := [(0, vS s), (1, vN fr), (7, vL 121 2 (P).length), (8, vN (a : Nat))]
abbrev qq10 := ((↑(s.getD (a : Int).toNat (0 : UInt8)).toNat : Int) == 34, false)
abbrev qq27 := s = s ∧ (fr : Int) = (fr : Int) ∧ (0 = 0 ∧ Q.length = P.length + (1 : Nat)) ∧ (↑(a + n) : Int) = IntKind.i64.wrap ((a : Int) + (↑(o1N (qq3 a s)) : Int))
abbrev qq11 := ((qq27 P Q a fr n s) ∧ Q.length = P.length + (1 : Nat) ∧ (∀ (i : Nat), i < Q.length → prV Q [i] = appF P.length (0 : Nat) (prV P) (fun js => []) [i]) ∧ ∀ (i : Nat), i < Q.length → prL Q [i] = appF P.length (0 : Nat) (prL P) (fun js => bytesOf (fun is => (↑(byC (qq3 a s)).toNat : Int)) [] (0 : Nat) (1 : Nat)) [i])
abbrev qq12 := ((0 + (IntKind.i64.wrap ((qq5 P) - 1)).toNat).blt (P.length + (1 : Nat)), true)
abbrev qq13 := (decide ((a : Int) < (↑s.length : Int)), true)
abbrev qq14 := RunsTo Tryd.prog 57 (headOf Tryd.f57 0) (envAt Tryd.f57.ntmps ([(0, vS s), (1, vN fr), (7, vL 121 2 (Q).length), (8, vN (a + n : Nat))])) (Sx.look ([] ++ (prE 121 (Q)))) 80 (v) (L') 3000
abbrev qq15 := ((↑(erN (qq3 a s)) : Int) != (0 : Int), false)
abbrev qq16 := Sx.look ([] ++ (prE 121 (P)))
abbrev qq17 := (decide (0 ≤ IntKind.i64.wrap ((qq5 P) - 1) ∧ IntKind.i64.wrap ((qq5 P) - 1) < (qq5 P)), true)
abbrev qq18 := (True ∧ (0 : Int) = (0 : Int) ∧ (4 : Int) = (4 : Int) ∧ True) ∧ True
abbrev qq19 := (decide ((↑(vaX (qq3 a s)).length : Int) > 0), false)
abbrev qq20 := (decide ((↑(appF P.length (0 : Nat) (prL P) (fun js => bytesOf (fun is => (↑(byC (qq3 a s)).toNat : Int)) [] (0 : Nat) (1 : Nat)) [0 + (IntKind.i64.wrap ((qq5 P) - 1)).toNat]).length : Int) > 400), false)
abbrev qq21 := prL P [0 + (qq7 P).toNat] ++ bytesOf (fun is => (↑(byC (qq3 a s)).toNat : Int)) [] (0 : Nat) (1 : Nat)
abbrev qq22 := (decide ((prL P [0 + (qq7 P).toNat]).length + (bytesOf (fun is => (↑(byC (qq3 a s)).toNat : Int)) [] (0 : Nat) (1 : Nat)).length ≤ (9223372036854775807 : Nat)), true)
abbrev qq23 := (↑(prL P [0 + (qq7 P).toNat]).length : Int)
abbrev qq25 := ((0 + P.length).ble P.length, true)
abbrev qq26 := RunsTo Tryd.prog 57 (headOf Tryd.f57 0) (envAt Tryd.f57.ntmps (qq9 P a fr s)) (qq16 P) 80 (v) (L') 3000
abbrev qq28 := (decide ((qq24 P) > 0), true)
set_option maxHeartbeats 4000000 in
theorem xt0 (s : List UInt8) (fr : Nat) (hf : fr < s.length) (hs : s.length ≤ 10000)  (v : SV) (L' : HF) (next : (RunsTo Tryd.prog 57 (headOf Tryd.f57 0) (envAt Tryd.f57.ntmps ([(0, vS s), (1, vN fr), (7, vL 121 2 (([] : List Pc)).length), (8, vN (fr + 1 : Nat))])) (Sx.look ([] ++ (prE 121 (([] : List Pc))))) 80 (v) (L') 3000)) :
    (RunsTo Tryd.prog 57 [.code (bodyOf Tryd.f57)] (envOf [vS s, vN fr] Tryd.f57.ntmps) (Sx.look ([] ++ ([]))) 80 (v) (L') 3000) := by
  have hw1 : IntKind.i64.wrap ((fr : Int) + 1) = ((fr + 1 : Nat) : Int) := by rw [wr64 (by omega)]; rfl
  have E' := hw1
  refine rMo baseXT 400 (behind Tryd.f57 0) 900 80 (hI 0 0) ([((121 : Nat), Rn.to (80 : Nat))]) [] ((s = s ∧ (fr : Int) = (fr : Int) ∧ (0 = 0 ∧ 0 = 0) ∧ (↑(fr + (1 : Nat)) : Int) = IntKind.i64.wrap ((fr : Int) + 1)) ∧ 0 = 0 ∧ (∀ (i : Nat), i < (0 : Nat) → prV [] [i] = []) ∧ ∀ (i : Nat), i < (0 : Nat) → prL [] [i] = []) next okn ?_
  all_goals clear next; exact sc7

set_option maxHeartbeats 4000000 in
theorem xtE (s : List UInt8) (fr : Nat) (P Q : List Pc) (a n e : Nat) (x : List UInt8) (c : UInt8) (hs : s.length ≤ 10000) (hfr : fr < a) (hP : P.length ≤ 40) (ha : a = s.length)  :
    (RunsTo Tryd.prog 57 (headOf Tryd.f57 0) (envAt Tryd.f57.ntmps (qq9 P a fr s)) (qq16 P) 80 (.tup [(false, .vl0), (false, .vi .i64 fun _ => (0 : Int)), (false, .vi .i64 fun _ => (3 : Int))]) (Sx.look ([])) 3000) := by
  have hw1 : IntKind.i64.wrap ((a : Int) + 1) = ((a + 1 : Nat) : Int) := by rw [wr64 (by omega)]; rfl
  have hwf : IntKind.i64.wrap (((a + 1 : Nat) : Int) - (fr : Int)) = ((a + 1 - fr : Nat) : Int) := by rw [wr64 (by omega)]; omega
  have hb0 := u8nat (s.getD a 0)
  have hpl : IntKind.i64.wrap ((P.length : Int) - 1) = (P.length : Int) - 1 := wr64 (by omega)
  have hpl2 : IntKind.i64.wrap (((P.length + 1 : Nat) : Int) - 1) = (P.length : Int) := by rw [wr64 (by omega)]; omega
  have hpn : ((P.length : Int) - 1).toNat = P.length - 1 := by omega
  have E' := (⟨hw1, hwf, hpl, hpl2, hpn⟩ : _ ∧ _ ∧ _ ∧ _ ∧ _)
  refine rEn baseXT 400 (99) 900 160 (hI 1 0) ([]) [(decide ((a : Int) < (↑s.length : Int)), false)] ((True ∧ (0 : Int) = (0 : Int) ∧ (3 : Int) = (3 : Int) ∧ True) ∧ True) (oc1 ?_ okn) ?_
  all_goals exact sc35

set_option maxHeartbeats 4000000 in
theorem xtQ (s : List UInt8) (fr : Nat) (P Q : List Pc) (a n e : Nat) (x : List UInt8) (c : UInt8) (ha : a < s.length) (hs : s.length ≤ 10000) (hfr : fr < a) (hP : P.length ≤ 40) (hA : ((List.range P.length).all fun i => decide ((prL P [i]).length ≤ 1000)) = true) (h : (s.getD a 0).toNat = 34)  :
    (RunsTo Tryd.prog 57 (headOf Tryd.f57 0) (envAt Tryd.f57.ntmps (qq9 P a fr s)) (qq16 P) 80 (.tup [(false, (.vl 141 (fun _ => 0) 2 [] (fun _ => (P).length))), (false, .vi .i64 fun _ => ((a + 1 - fr : Nat) : Int)), (false, .vi .i64 fun _ => (0 : Int))]) (Sx.look (prE 141 P)) 3000) := by
  have hw1 : IntKind.i64.wrap ((a : Int) + 1) = ((a + 1 : Nat) : Int) := by rw [wr64 (by omega)]; rfl
  have hwf : IntKind.i64.wrap (((a + 1 : Nat) : Int) - (fr : Int)) = ((a + 1 - fr : Nat) : Int) := by rw [wr64 (by omega)]; omega
  have hb0 := u8nat (s.getD a 0)
  have hpl : IntKind.i64.wrap ((P.length : Int) - 1) = (P.length : Int) - 1 := wr64 (by omega)
  have hpl2 : IntKind.i64.wrap (((P.length + 1 : Nat) : Int) - 1) = (P.length : Int) := by rw [wr64 (by omega)]; omega
  have hpn : ((P.length : Int) - 1).toNat = P.length - 1 := by omega
  have E' := (⟨hw1, hwf, hpl, hpl2, hpn⟩ : _ ∧ _ ∧ _ ∧ _ ∧ _)
  refine rEn baseXT 400 (99) 900 160 (hI 3 21) ([((141 : Nat), Rn.to (121 : Nat))]) [(qq13 a s), (qq6 a s), ((↑(s.getD (a : Int).toNat (0 : UInt8)).toNat : Int) == 34, true)] (((0 = 0 ∧ P.length = P.length) ∧ (↑(a + (1 : Nat) - fr) : Int) = IntKind.i64.wrap (IntKind.i64.wrap ((a : Int) + 1) - (fr : Int)) ∧ (0 : Int) = (0 : Int) ∧ True) ∧ P.length = P.length ∧ (∀ (i : Nat), i < P.length → prV P [i] = prV P [i]) ∧ ∀ (i : Nat), i < P.length → prL P [i] = prL P [i]) (oc3 ?_ ?_ ?_ okn) ?_
  all_goals try dsimp only [qq13, qq6]
  all_goals exact sc35

set_option maxHeartbeats 4000000 in
theorem xtB (s : List UInt8) (fr : Nat) (P Q : List Pc) (a n e : Nat) (x : List UInt8) (c : UInt8) (ha : a < s.length) (hs : s.length ≤ 10000) (hfr : fr < a) (hP : P.length ≤ 40) (hA : ((List.range P.length).all fun i => decide ((prL P [i]).length ≤ 1000)) = true) (h : (s.getD a 0).toNat ≠ 34) (v1 : erN (oneR (s.drop a)) = e) (he : e ≠ 0)  :
    (RunsTo Tryd.prog 57 (headOf Tryd.f57 0) (envAt Tryd.f57.ntmps (qq9 P a fr s)) (qq16 P) 80 (.tup [(false, .vl0), (false, .vi .i64 fun _ => (0 : Int)), (false, .vi .i64 fun _ => (e : Int))]) (Sx.look ([])) 3000) := by
  have hw1 : IntKind.i64.wrap ((a : Int) + 1) = ((a + 1 : Nat) : Int) := by rw [wr64 (by omega)]; rfl
  have hwf : IntKind.i64.wrap (((a + 1 : Nat) : Int) - (fr : Int)) = ((a + 1 - fr : Nat) : Int) := by rw [wr64 (by omega)]; omega
  have hb0 := u8nat (s.getD a 0)
  have hpl : IntKind.i64.wrap ((P.length : Int) - 1) = (P.length : Int) - 1 := wr64 (by omega)
  have hpl2 : IntKind.i64.wrap (((P.length + 1 : Nat) : Int) - 1) = (P.length : Int) := by rw [wr64 (by omega)]; omega
  have hpn : ((P.length : Int) - 1).toNat = P.length - 1 := by omega
  have E' := (⟨hw1, hwf, hpl, hpl2, hpn, v1⟩ : _ ∧ _ ∧ _ ∧ _ ∧ _ ∧ _)
  refine rEn baseXT 400 (99) 900 160 (hI 5 325) ([]) [(qq13 a s), (qq6 a s), (qq10 a s), (qq4 a s), ((↑(erN (qq3 a s)) : Int) != (0 : Int), true)] ((True ∧ (0 : Int) = (0 : Int) ∧ (e : Int) = (↑(erN (qq3 a s)) : Int) ∧ True) ∧ True) (oc5 ?_ ?_ ?_ ?_ ?_ okn) ?_
  all_goals try dsimp only [qq13, qq6, qq10, qq4, qq3]
  all_goals exact sc35

set_option maxHeartbeats 4000000 in
theorem xtV (s : List UInt8) (fr : Nat) (P Q : List Pc) (a n e : Nat) (x : List UInt8) (c : UInt8) (ha : a < s.length) (hs : s.length ≤ 10000) (hfr : fr < a) (hP : P.length ≤ 40) (hA : ((List.range P.length).all fun i => decide ((prL P [i]).length ≤ 1000)) = true) (h : (s.getD a 0).toNat ≠ 34) (v1 : erN (oneR (s.drop a)) = 0) (v2 : vaX (oneR (s.drop a)) = x) (v3 : o1N (oneR (s.drop a)) = n) (v4 : byC (oneR (s.drop a)) = c) (hn : n ≤ 100) (hx : x ≠ []) (hQ : P ++ [⟨x, []⟩] = Q) (hq : P.length + 1 ≤ 40)  (v : SV) (L' : HF) (next : (qq14 L' Q a fr n s v)) :
    (qq26 L' P a fr s v) := by
  have hw1 : IntKind.i64.wrap ((a : Int) + 1) = ((a + 1 : Nat) : Int) := by rw [wr64 (by omega)]; rfl
  have hwf : IntKind.i64.wrap (((a + 1 : Nat) : Int) - (fr : Int)) = ((a + 1 - fr : Nat) : Int) := by rw [wr64 (by omega)]; omega
  have hb0 := u8nat (s.getD a 0)
  have hpl : IntKind.i64.wrap ((P.length : Int) - 1) = (P.length : Int) - 1 := wr64 (by omega)
  have hpl2 : IntKind.i64.wrap (((P.length + 1 : Nat) : Int) - 1) = (P.length : Int) := by rw [wr64 (by omega)]; omega
  have hpn : ((P.length : Int) - 1).toNat = P.length - 1 := by omega
  have hal : appF P.length 0 (prL P) (fun js => ([] : List UInt8)) [P.length] = [] := by simp [appF]
  have hnp : (P.length : Int).toNat = P.length := Int.toNat_natCast _
  have hap := pr_app P P.length (prV P) (prL P) (fun js => x) (fun js => []) (pcsOf_pr P).symm ⟨x, []⟩ rfl rfl
  rw [hQ] at hap
  have hlq : Q.length = P.length + 1 := by rw [← hQ]; simp
  have hwn : IntKind.i64.wrap ((a : Int) + (n : Int)) = ((a + n : Nat) : Int) := by rw [wr64 (by omega)]; rfl
  have hxl : 0 < x.length := List.length_pos_iff.2 hx
  have E' := (⟨hw1, hwf, hpl, hpl2, hpn, v1, v2, v3, v4, hlq, hwn, hal, hnp⟩ : _ ∧ _ ∧ _ ∧ _ ∧ _ ∧ _ ∧ _ ∧ _ ∧ _ ∧ _ ∧ _ ∧ _ ∧ _)
  refine rMo baseXT 400 (behind Tryd.f57 0) 900 160 (hI 14 22115397) ([((121 : Nat), Rn.to (681 : Nat))]) [(qq13 a s), (qq6 a s), (qq10 a s), (qq4 a s), (qq15 a s), (decide ((↑(vaX (qq3 a s)).length : Int) > 0), true), (qq25 P), (qq8 P), (decide ((qq5 P) > 40), false), (qq17 P), (qq12 P), (qq12 P), (decide ((↑(appF P.length (0 : Nat) (prL P) (fun js => []) [0 + (IntKind.i64.wrap ((qq5 P) - 1)).toNat]).length : Int) > 400), false)] ((qq27 P Q a fr n s) ∧ Q.length = P.length + (1 : Nat) ∧ (∀ (i : Nat), i < Q.length → prV Q [i] = appF P.length (0 : Nat) (prV P) (fun js => vaX (qq3 a s)) [i]) ∧ ∀ (i : Nat), i < Q.length → prL Q [i] = appF P.length (0 : Nat) (prL P) (fun js => []) [i]) next (oc4 ?_ ?_ ?_ ?_ (oc9 ?_ ?_ ?_ ?_ ?_ ?_ ?_ ?_ ?_ okn)) ?_
  all_goals clear next; try dsimp only [qq13, qq6, qq10, qq4, qq15, qq3, qq25, qq8, qq5, qq17, qq12, qq27]
  all_goals exact sc36

set_option maxHeartbeats 4000000 in
theorem xtVL (s : List UInt8) (fr : Nat) (P Q : List Pc) (a n e : Nat) (x : List UInt8) (c : UInt8) (ha : a < s.length) (hs : s.length ≤ 10000) (hfr : fr < a) (hP : P.length ≤ 40) (hA : ((List.range P.length).all fun i => decide ((prL P [i]).length ≤ 1000)) = true) (h : (s.getD a 0).toNat ≠ 34) (v1 : erN (oneR (s.drop a)) = 0) (v2 : vaX (oneR (s.drop a)) = x) (v3 : o1N (oneR (s.drop a)) = n) (v4 : byC (oneR (s.drop a)) = c) (hn : n ≤ 100) (hx : x ≠ []) (hQ : P ++ [⟨x, []⟩] = Q) (hq : 40 < P.length + 1)  :
    (RunsTo Tryd.prog 57 (headOf Tryd.f57 0) (envAt Tryd.f57.ntmps (qq9 P a fr s)) (qq16 P) 80 (.tup [(false, .vl0), (false, .vi .i64 fun _ => (0 : Int)), (false, .vi .i64 fun _ => (4 : Int))]) (Sx.look ([])) 3000) := by
  have hw1 : IntKind.i64.wrap ((a : Int) + 1) = ((a + 1 : Nat) : Int) := by rw [wr64 (by omega)]; rfl
  have hwf : IntKind.i64.wrap (((a + 1 : Nat) : Int) - (fr : Int)) = ((a + 1 - fr : Nat) : Int) := by rw [wr64 (by omega)]; omega
  have hb0 := u8nat (s.getD a 0)
  have hpl : IntKind.i64.wrap ((P.length : Int) - 1) = (P.length : Int) - 1 := wr64 (by omega)
  have hpl2 : IntKind.i64.wrap (((P.length + 1 : Nat) : Int) - 1) = (P.length : Int) := by rw [wr64 (by omega)]; omega
  have hpn : ((P.length : Int) - 1).toNat = P.length - 1 := by omega
  have hal : appF P.length 0 (prL P) (fun js => ([] : List UInt8)) [P.length] = [] := by simp [appF]
  have hnp : (P.length : Int).toNat = P.length := Int.toNat_natCast _
  have hap := pr_app P P.length (prV P) (prL P) (fun js => x) (fun js => []) (pcsOf_pr P).symm ⟨x, []⟩ rfl rfl
  rw [hQ] at hap
  have hlq : Q.length = P.length + 1 := by rw [← hQ]; simp
  have hwn : IntKind.i64.wrap ((a : Int) + (n : Int)) = ((a + n : Nat) : Int) := by rw [wr64 (by omega)]; rfl
  have hxl : 0 < x.length := List.length_pos_iff.2 hx
  have E' := (⟨hw1, hwf, hpl, hpl2, hpn, v1, v2, v3, v4, hlq, hwn, hal, hnp⟩ : _ ∧ _ ∧ _ ∧ _ ∧ _ ∧ _ ∧ _ ∧ _ ∧ _ ∧ _ ∧ _ ∧ _ ∧ _)
  refine rEn baseXT 400 (99) 900 160 (hI 10 357445) ([]) [(qq13 a s), (qq6 a s), (qq10 a s), (qq4 a s), (qq15 a s), (decide ((↑(vaX (qq3 a s)).length : Int) > 0), true), (qq25 P), (qq8 P), (decide ((qq5 P) > 40), true)] qq18 (oc9 ?_ ?_ ?_ ?_ ?_ ?_ ?_ ?_ ?_ okn) ?_
  all_goals try dsimp only [qq13, qq6, qq10, qq4, qq15, qq3, qq25, qq8, qq5, qq18]
  all_goals exact sc37

set_option maxHeartbeats 4000000 in
theorem xtL (s : List UInt8) (fr : Nat) (P Q : List Pc) (a n e : Nat) (x : List UInt8) (c : UInt8) (ha : a < s.length) (hs : s.length ≤ 10000) (hfr : fr < a) (hP : P.length ≤ 40) (hA : ((List.range P.length).all fun i => decide ((prL P [i]).length ≤ 1000)) = true) (h : (s.getD a 0).toNat ≠ 34) (v1 : erN (oneR (s.drop a)) = 0) (v2 : vaX (oneR (s.drop a)) = x) (v3 : o1N (oneR (s.drop a)) = n) (v4 : byC (oneR (s.drop a)) = c) (hn : n ≤ 100) (hx : x = []) (hp : 0 < P.length) (hl : prL P [P.length - 1] ≠ []) (hv : prV P [P.length - 1] = []) (hQ : litP P c = Q) (hq : (prL P [P.length - 1]).length + 1 ≤ 400)  (v : SV) (L' : HF) (next : (qq14 L' Q a fr n s v)) :
    (qq26 L' P a fr s v) := by
  have hw1 : IntKind.i64.wrap ((a : Int) + 1) = ((a + 1 : Nat) : Int) := by rw [wr64 (by omega)]; rfl
  have hwf : IntKind.i64.wrap (((a + 1 : Nat) : Int) - (fr : Int)) = ((a + 1 - fr : Nat) : Int) := by rw [wr64 (by omega)]; omega
  have hb0 := u8nat (s.getD a 0)
  have hpl : IntKind.i64.wrap ((P.length : Int) - 1) = (P.length : Int) - 1 := wr64 (by omega)
  have hpl2 : IntKind.i64.wrap (((P.length + 1 : Nat) : Int) - 1) = (P.length : Int) := by rw [wr64 (by omega)]; omega
  have hpn : ((P.length : Int) - 1).toNat = P.length - 1 := by omega
  have hset := pr_set P P.length (prV P) (prL P) (pcsOf_pr P).symm hp hv c
  rw [hQ] at hset
  have hlq : Q.length = P.length := by rw [← hQ, litP_len, if_pos ⟨List.length_pos_iff.1 hp, hv⟩]
  have hwn : IntKind.i64.wrap ((a : Int) + (n : Int)) = ((a + n : Nat) : Int) := by rw [wr64 (by omega)]; rfl
  have hb1 : bytesOf (fun is => (c.toNat : Int)) [] 0 1 = [c] := by simp [bytesOf]
  have hll : 0 < (prL P [P.length - 1]).length := List.length_pos_iff.2 hl
  have hxl : x.length = 0 := by rw [hx]; rfl
  have hup : ∀ y : List UInt8, upd (prL P) [P.length - 1] y [P.length - 1] = y := fun y => by simp [upd]
  have E' := (⟨hw1, hwf, hpl, hpl2, hpn, v1, v2, v3, v4, hlq, hwn, hb1, hxl, hup⟩ : _ ∧ _ ∧ _ ∧ _ ∧ _ ∧ _ ∧ _ ∧ _ ∧ _ ∧ _ ∧ _ ∧ _ ∧ _ ∧ _)
  refine rMo baseXT 400 (behind Tryd.f57 0) 900 160 (hI 24 23181907021893) ([]) [(qq13 a s), (qq6 a s), (qq10 a s), (qq4 a s), (qq15 a s), (qq19 a s), (qq28 P), (qq2 P), (qq1 P), (qq1 P), (decide ((qq23 P) > 0), true), (qq2 P), (qq1 P), (qq1 P), (qq22 P a s), (qq2 P), (qq1 P), (qq1 P), (decide ((qq24 P) > 40), false), (qq2 P), (qq1 P), (qq1 P), (decide ((↑(upd (prL P) [0 + (qq7 P).toNat] (qq21 P a s) [0 + (qq7 P).toNat]).length : Int) > 400), false)] ((s = s ∧ (fr : Int) = (fr : Int) ∧ (0 = 0 ∧ Q.length = P.length) ∧ (↑(a + n) : Int) = IntKind.i64.wrap ((a : Int) + (↑(o1N (qq3 a s)) : Int))) ∧ Q.length = P.length ∧ (∀ (i : Nat), i < Q.length → prV Q [i] = prV P [i]) ∧ ∀ (i : Nat), i < Q.length → prL Q [i] = upd (prL P) [0 + (qq7 P).toNat] (qq21 P a s) [i]) next (oc5 ?_ ?_ ?_ ?_ ?_ (oc9 ?_ ?_ ?_ ?_ ?_ ?_ ?_ ?_ ?_ (oc9 ?_ ?_ ?_ ?_ ?_ ?_ ?_ ?_ ?_ okn))) ?_
  all_goals clear next; try dsimp only [qq13, qq6, qq10, qq4, qq15, qq3, qq19, qq28, qq24, qq2, qq1, qq7, qq23, qq22, qq21]
  all_goals exact sc38

set_option maxHeartbeats 4000000 in
theorem xtLL (s : List UInt8) (fr : Nat) (P Q : List Pc) (a n e : Nat) (x : List UInt8) (c : UInt8) (ha : a < s.length) (hs : s.length ≤ 10000) (hfr : fr < a) (hP : P.length ≤ 40) (hA : ((List.range P.length).all fun i => decide ((prL P [i]).length ≤ 1000)) = true) (h : (s.getD a 0).toNat ≠ 34) (v1 : erN (oneR (s.drop a)) = 0) (v2 : vaX (oneR (s.drop a)) = x) (v3 : o1N (oneR (s.drop a)) = n) (v4 : byC (oneR (s.drop a)) = c) (hn : n ≤ 100) (hx : x = []) (hp : 0 < P.length) (hl : prL P [P.length - 1] ≠ []) (hv : prV P [P.length - 1] = []) (hQ : litP P c = Q) (hq : 400 < (prL P [P.length - 1]).length + 1) (hq2 : (prL P [P.length - 1]).length ≤ 1000)  :
    (RunsTo Tryd.prog 57 (headOf Tryd.f57 0) (envAt Tryd.f57.ntmps (qq9 P a fr s)) (qq16 P) 80 (.tup [(false, .vl0), (false, .vi .i64 fun _ => (0 : Int)), (false, .vi .i64 fun _ => (4 : Int))]) (Sx.look ([])) 3000) := by
  have hw1 : IntKind.i64.wrap ((a : Int) + 1) = ((a + 1 : Nat) : Int) := by rw [wr64 (by omega)]; rfl
  have hwf : IntKind.i64.wrap (((a + 1 : Nat) : Int) - (fr : Int)) = ((a + 1 - fr : Nat) : Int) := by rw [wr64 (by omega)]; omega
  have hb0 := u8nat (s.getD a 0)
  have hpl : IntKind.i64.wrap ((P.length : Int) - 1) = (P.length : Int) - 1 := wr64 (by omega)
  have hpl2 : IntKind.i64.wrap (((P.length + 1 : Nat) : Int) - 1) = (P.length : Int) := by rw [wr64 (by omega)]; omega
  have hpn : ((P.length : Int) - 1).toNat = P.length - 1 := by omega
  have hset := pr_set P P.length (prV P) (prL P) (pcsOf_pr P).symm hp hv c
  rw [hQ] at hset
  have hlq : Q.length = P.length := by rw [← hQ, litP_len, if_pos ⟨List.length_pos_iff.1 hp, hv⟩]
  have hwn : IntKind.i64.wrap ((a : Int) + (n : Int)) = ((a + n : Nat) : Int) := by rw [wr64 (by omega)]; rfl
  have hb1 : bytesOf (fun is => (c.toNat : Int)) [] 0 1 = [c] := by simp [bytesOf]
  have hll : 0 < (prL P [P.length - 1]).length := List.length_pos_iff.2 hl
  have hxl : x.length = 0 := by rw [hx]; rfl
  have hup : ∀ y : List UInt8, upd (prL P) [P.length - 1] y [P.length - 1] = y := fun y => by simp [upd]
  have E' := (⟨hw1, hwf, hpl, hpl2, hpn, v1, v2, v3, v4, hlq, hwn, hb1, hxl, hup⟩ : _ ∧ _ ∧ _ ∧ _ ∧ _ ∧ _ ∧ _ ∧ _ ∧ _ ∧ _ ∧ _ ∧ _ ∧ _ ∧ _)
  refine rEn baseXT 400 (99) 900 160 (hI 24 93550651199557) ([]) [(qq13 a s), (qq6 a s), (qq10 a s), (qq4 a s), (qq15 a s), (qq19 a s), (qq28 P), (qq2 P), (qq1 P), (qq1 P), (decide ((qq23 P) > 0), true), (qq2 P), (qq1 P), (qq1 P), (qq22 P a s), (qq2 P), (qq1 P), (qq1 P), (decide ((qq24 P) > 40), false), (qq2 P), (qq1 P), (qq1 P), (decide ((↑(upd (prL P) [0 + (qq7 P).toNat] (qq21 P a s) [0 + (qq7 P).toNat]).length : Int) > 400), true)] qq18 (oc5 ?_ ?_ ?_ ?_ ?_ (oc9 ?_ ?_ ?_ ?_ ?_ ?_ ?_ ?_ ?_ (oc9 ?_ ?_ ?_ ?_ ?_ ?_ ?_ ?_ ?_ okn))) ?_
  all_goals try dsimp only [qq13, qq6, qq10, qq4, qq15, qq3, qq19, qq28, qq24, qq2, qq1, qq7, qq23, qq22, qq21, qq18]
  all_goals exact sc39

set_option maxHeartbeats 4000000 in
theorem xtN (s : List UInt8) (fr : Nat) (P Q : List Pc) (a n e : Nat) (x : List UInt8) (c : UInt8) (ha : a < s.length) (hs : s.length ≤ 10000) (hfr : fr < a) (hP : P.length ≤ 40) (hA : ((List.range P.length).all fun i => decide ((prL P [i]).length ≤ 1000)) = true) (h : (s.getD a 0).toNat ≠ 34) (v1 : erN (oneR (s.drop a)) = 0) (v2 : vaX (oneR (s.drop a)) = x) (v3 : o1N (oneR (s.drop a)) = n) (v4 : byC (oneR (s.drop a)) = c) (hn : n ≤ 100) (hx : x = []) (hl : 0 < P.length → prL P [P.length - 1] = []) (hQ : P ++ [⟨[], [c]⟩] = Q) (hq : P.length + 1 ≤ 40)  (v : SV) (L' : HF) (next : (qq14 L' Q a fr n s v)) :
    (qq26 L' P a fr s v) := by
  have hw1 : IntKind.i64.wrap ((a : Int) + 1) = ((a + 1 : Nat) : Int) := by rw [wr64 (by omega)]; rfl
  have hwf : IntKind.i64.wrap (((a + 1 : Nat) : Int) - (fr : Int)) = ((a + 1 - fr : Nat) : Int) := by rw [wr64 (by omega)]; omega
  have hb0 := u8nat (s.getD a 0)
  have hpl : IntKind.i64.wrap ((P.length : Int) - 1) = (P.length : Int) - 1 := wr64 (by omega)
  have hpl2 : IntKind.i64.wrap (((P.length + 1 : Nat) : Int) - 1) = (P.length : Int) := by rw [wr64 (by omega)]; omega
  have hpn : ((P.length : Int) - 1).toNat = P.length - 1 := by omega
  have hal : appF P.length 0 (prL P) (fun js => bytesOf (fun is => (c.toNat : Int)) [] 0 1) [P.length] = bytesOf (fun is => (c.toNat : Int)) [] 0 1 := by simp [appF]
  have hnp : (P.length : Int).toNat = P.length := Int.toNat_natCast _
  have hb1 : bytesOf (fun is => (c.toNat : Int)) [] 0 1 = [c] := by simp [bytesOf]
  have hap := pr_app P P.length (prV P) (prL P) (fun js => []) (fun js => bytesOf (fun is => (c.toNat : Int)) [] 0 1) (pcsOf_pr P).symm ⟨[], [c]⟩ rfl hb1
  rw [hQ] at hap
  have hlq : Q.length = P.length + 1 := by rw [← hQ]; simp
  have hwn : IntKind.i64.wrap ((a : Int) + (n : Int)) = ((a + n : Nat) : Int) := by rw [wr64 (by omega)]; rfl
  have hxl : x.length = 0 := by rw [hx]; rfl
  have hbl : (bytesOf (fun is => (c.toNat : Int)) [] 0 1).length = 1 := by rw [hb1]; rfl
  have E' := (⟨hw1, hwf, hpl, hpl2, hpn, v1, v2, v3, v4, hlq, hwn, hxl, hal, hbl, hnp⟩ : _ ∧ _ ∧ _ ∧ _ ∧ _ ∧ _ ∧ _ ∧ _ ∧ _ ∧ _ ∧ _ ∧ _ ∧ _ ∧ _ ∧ _)
  refine bcase (fun gg0 => (rMo baseXT 400 (behind Tryd.f57 0) 900 160 (hI 16 353878085) ([((121 : Nat), Rn.to (682 : Nat))]) [(qq13 a s), (qq6 a s), (qq10 a s), (qq4 a s), (qq15 a s), (qq19 a s), (decide ((qq24 P) > 0), false), (qq25 P), (qq8 P), (decide ((qq5 P) > 40), false), (qq17 P), (qq12 P), (qq12 P), (qq20 P a s)] (qq11 P Q a fr n s) next (oc5 ?_ ?_ ?_ ?_ ?_ (oc9 ?_ gg0 ?_ ?_ ?_ ?_ ?_ ?_ ?_ okn)) ?_)) fun gg0 => (rMo baseXT 400 (behind Tryd.f57 0) 900 160 (hI 20 90593120325) ([((121 : Nat), Rn.to (682 : Nat))]) [(qq13 a s), (qq6 a s), (qq10 a s), (qq4 a s), (qq15 a s), (qq19 a s), (qq28 P), (qq2 P), (qq1 P), (qq1 P), (decide ((qq23 P) > 0), false), (qq25 P), (qq8 P), (decide ((qq5 P) > 40), false), (qq17 P), (qq12 P), (qq12 P), (qq20 P a s)] (qq11 P Q a fr n s) next (oc9 ?_ ?_ ?_ ?_ ?_ ?_ gg0 ?_ ?_ (oc9 ?_ ?_ ?_ ?_ ?_ ?_ ?_ ?_ ?_ okn)) ?_)
  all_goals clear next; try dsimp only [qq13, qq6, qq10, qq4, qq15, qq3, qq19, qq24, qq25, qq8, qq5, qq17, qq12, qq20, qq11, qq27, qq28, qq2, qq1, qq7, qq23] at *
  all_goals exact sc40

set_option maxHeartbeats 4000000 in
theorem xtNL (s : List UInt8) (fr : Nat) (P Q : List Pc) (a n e : Nat) (x : List UInt8) (c : UInt8) (ha : a < s.length) (hs : s.length ≤ 10000) (hfr : fr < a) (hP : P.length ≤ 40) (hA : ((List.range P.length).all fun i => decide ((prL P [i]).length ≤ 1000)) = true) (h : (s.getD a 0).toNat ≠ 34) (v1 : erN (oneR (s.drop a)) = 0) (v2 : vaX (oneR (s.drop a)) = x) (v3 : o1N (oneR (s.drop a)) = n) (v4 : byC (oneR (s.drop a)) = c) (hn : n ≤ 100) (hx : x = []) (hl : 0 < P.length → prL P [P.length - 1] = []) (hQ : P ++ [⟨[], [c]⟩] = Q) (hq : 40 < P.length + 1)  :
    (RunsTo Tryd.prog 57 (headOf Tryd.f57 0) (envAt Tryd.f57.ntmps (qq9 P a fr s)) (qq16 P) 80 (.tup [(false, .vl0), (false, .vi .i64 fun _ => (0 : Int)), (false, .vi .i64 fun _ => (4 : Int))]) (Sx.look ([])) 3000) := by
  have hw1 : IntKind.i64.wrap ((a : Int) + 1) = ((a + 1 : Nat) : Int) := by rw [wr64 (by omega)]; rfl
  have hwf : IntKind.i64.wrap (((a + 1 : Nat) : Int) - (fr : Int)) = ((a + 1 - fr : Nat) : Int) := by rw [wr64 (by omega)]; omega
  have hb0 := u8nat (s.getD a 0)
  have hpl : IntKind.i64.wrap ((P.length : Int) - 1) = (P.length : Int) - 1 := wr64 (by omega)
  have hpl2 : IntKind.i64.wrap (((P.length + 1 : Nat) : Int) - 1) = (P.length : Int) := by rw [wr64 (by omega)]; omega
  have hpn : ((P.length : Int) - 1).toNat = P.length - 1 := by omega
  have hal : appF P.length 0 (prL P) (fun js => bytesOf (fun is => (c.toNat : Int)) [] 0 1) [P.length] = bytesOf (fun is => (c.toNat : Int)) [] 0 1 := by simp [appF]
  have hnp : (P.length : Int).toNat = P.length := Int.toNat_natCast _
  have hb1 : bytesOf (fun is => (c.toNat : Int)) [] 0 1 = [c] := by simp [bytesOf]
  have hap := pr_app P P.length (prV P) (prL P) (fun js => []) (fun js => bytesOf (fun is => (c.toNat : Int)) [] 0 1) (pcsOf_pr P).symm ⟨[], [c]⟩ rfl hb1
  rw [hQ] at hap
  have hlq : Q.length = P.length + 1 := by rw [← hQ]; simp
  have hwn : IntKind.i64.wrap ((a : Int) + (n : Int)) = ((a + n : Nat) : Int) := by rw [wr64 (by omega)]; rfl
  have hxl : x.length = 0 := by rw [hx]; rfl
  have hbl : (bytesOf (fun is => (c.toNat : Int)) [] 0 1).length = 1 := by rw [hb1]; rfl
  have E' := (⟨hw1, hwf, hpl, hpl2, hpn, v1, v2, v3, v4, hlq, hwn, hxl, hal, hbl, hnp⟩ : _ ∧ _ ∧ _ ∧ _ ∧ _ ∧ _ ∧ _ ∧ _ ∧ _ ∧ _ ∧ _ ∧ _ ∧ _ ∧ _ ∧ _)
  refine rEn baseXT 400 (99) 900 160 (hI 16 1472548933) ([]) [(qq13 a s), (qq6 a s), (qq10 a s), (qq4 a s), (qq15 a s), (qq19 a s), (qq28 P), (qq2 P), (qq1 P), (qq1 P), (decide ((qq23 P) > 0), false), (qq25 P), (qq8 P), (decide ((qq5 P) > 40), true)] qq18 (oc5 ?_ ?_ ?_ ?_ ?_ (oc9 ?_ ?_ ?_ ?_ ?_ ?_ ?_ ?_ ?_ okn)) ?_
  all_goals try dsimp only [qq13, qq6, qq10, qq4, qq15, qq3, qq19, qq28, qq24, qq2, qq1, qq7, qq23, qq25, qq8, qq5, qq18]
  all_goals exact sc41

end Go.Proofs.YtaleenklamognaaDoor

set_option linter.unusedSimpArgs false
set_option linter.unusedVariables false
set_option maxRecDepth 100000
namespace Go.Proofs.YtaleenklamognaaDoor
open Go.Sx

open WordR
def decL (n : Nat) : List UInt8 := if h : n = 0 then [] else decL (n / 10) ++ [UInt8.ofNat (48 + n % 10)]
termination_by n
decreasing_by exact Nat.div_lt_self (Nat.pos_of_ne_zero h) (by decide)
def erR : TR → Nat | .ok _ _ => 0 | .err e => e
def figS (n : Int) : List UInt8 := if n = 0 then [48] else (if n < 0 then [45] else []) ++ decL n.natAbs
def XTR (X : SV → HF → Prop) : TR → Prop
  | .ok t n => X (.tup [(false, (.vl 141 (fun _ => 0) 2 [] (fun _ => (t.ps).length))), (false, .vi .i64 fun _ => (n : Int)), (false, .vi .i64 fun _ => (0 : Int))]) (Sx.look (prE 141 t.ps))
  | .err e => X (.tup [(false, .vl0), (false, .vi .i64 fun _ => (0 : Int)), (false, .vi .i64 fun _ => (e : Int))]) (Sx.look [])
theorem XTR.step {X Y : SV → HF → Prop} (h : ∀ v L', X v L' → Y v L') : ∀ {r : TR}, XTR X r → XTR Y r
  | .ok t m, q => h _ _ q
  | .err e, q => h _ _ q
def okP (P : List Pc) : Prop := ∀ p ∈ P, (p.var = [] ∧ p.lit ≠ []) ∨ (p.var ≠ [] ∧ p.lit = [])
theorem litP_snoc : ∀ (P : List Pc) (p : Pc) (c : UInt8), litP (P ++ [p]) c = if p.var = [] then P ++ [⟨[], p.lit ++ [c]⟩] else P ++ [p, ⟨[], [c]⟩]
  | [], p, c => by simp only [List.nil_append, litP]
  | q :: P, p, c => by
    have ih := litP_snoc P p c
    have e : litP (q :: P ++ [p]) c = q :: litP (P ++ [p]) c := by
      cases h : P ++ [p] with
      | nil => simp at h
      | cons a b => rw [List.cons_append, h]; rfl
    rw [e, ih]
    split <;> rfl
theorem fits_snoc (A : List Pc) (p : Pc) : fitsP (A ++ [p]) = (decide (A.length + 1 ≤ 40) && ((A.all fun q => decide (q.lit.length ≤ 400)) && decide (p.lit.length ≤ 400))) := by
  unfold fitsP; simp [List.all_append]
theorem fits_all {P : List Pc} (h : fitsP P = true) : P.length ≤ 40 ∧ (P.all fun q => decide (q.lit.length ≤ 400)) = true := by
  unfold fitsP at h; simpa using h
theorem snoc_or {α : Type} (l : List α) : l = [] ∨ ∃ a b, l = a ++ [b] := by
  rcases List.eq_nil_or_concat l with h | ⟨a, b, h⟩
  · exact .inl h
  · exact .inr ⟨a, b, by rw [h]; simp⟩
theorem prL_snoc (A : List Pc) (p : Pc) : prL (A ++ [p]) [(A ++ [p]).length - 1] = p.lit ∧ prV (A ++ [p]) [(A ++ [p]).length - 1] = p.var := by
  simp [prL, prV]
theorem xtLoop (s : List UInt8) (fr : Nat) (hs : s.length ≤ 10000) : ∀ (f a n : Nat) (P : List Pc), a = fr + n → 1 ≤ n → a ≤ s.length → s.length - a < f → fitsP P = true → okP P → XTR (fun v L' => RunsTo Tryd.prog 57 (headOf Tryd.f57 0) (envAt Tryd.f57.ntmps ([(0, vS s), (1, vN fr), (7, vL 121 2 (P).length), (8, vN (a : Nat))])) (Sx.look ([] ++ (prE 121 (P)))) 80 (v) (L') 3000) (textR f (s.drop a) P n) := by
  intro f
  induction f with
  | zero => intro a n P _ _ _ h; omega
  | succ f ih =>
    intro a n P han hn1 ha hfu hf hok
    have hfl := fits_len hf
    have hP := hfl.1
    have hA := hfl.2
    by_cases hae : s.length ≤ a
    · rw [List.drop_eq_nil_of_le hae]
      exact xtE s fr P P a 0 0 [] 0 hs (by omega) hP (by omega)
    have hlt : a < s.length := by omega
    have hd := drop_at s hlt
    rw [hd, textR]
    by_cases h34 : s.getD a 0 = 34
    · rw [if_pos h34]
      have q := xtQ s fr P P a 0 0 [] 0 hlt hs (by omega) hP hA (by rw [h34]; rfl)
      rw [show a + 1 - fr = n + 1 by omega] at q
      exact q
    rw [if_neg h34]
    have h34 := nat_ne h34
    rw [← hd]
    cases hz : oneR (s.drop a) with
    | err e =>
      simp only
      have he : e ≠ 0 := by
        intro e0
        subst e0
        have hh : ∀ q, ¬ (varR q = .err 0 ∨ escR q = .err 0) := fun q h => by have := esc_e h; omega
        rw [hd, oneR] at hz
        split at hz
        · exact hh _ (.inl hz)
        · split at hz
          · cases hz
          · split at hz
            · exact hh _ (.inr hz)
            · cases hz
      exact xtB s fr P P a 0 e [] 0 hlt hs (by omega) hP hA h34 (by rw [hz]; rfl) he
    | var x k =>
      simp only
      have hk : 2 ≤ k ∧ k ≤ 25 ∧ k ≤ s.length - a ∧ x ≠ [] := by
        rw [hd, oneR] at hz
        split at hz
        · have := varR_ok _ hz
          rw [List.length_drop] at this
          exact ⟨this.1, this.2.1, by omega, this.2.2.2⟩
        · split at hz
          · cases hz
          · split at hz
            · exact absurd hz (escR_nv _)
            · cases hz
      have hfa := fits_all hf
      have hfs : fitsP (P ++ [⟨x, []⟩]) = decide (P.length + 1 ≤ 40) := by rw [fits_snoc, hfa.2]; simp
      rw [hfs]
      by_cases hq : P.length + 1 ≤ 40
      · rw [if_pos (decide_eq_true hq)]
        have st := xtV s fr P _ a k 0 x 0 hlt hs (by omega) hP hA h34 (by rw [hz]; rfl) (by rw [hz]; rfl) (by rw [hz]; rfl) (by rw [hz]; rfl) (by omega) hk.2.2.2 rfl hq
        refine XTR.step st ?_
        rw [List.drop_drop]
        refine ih (a + k) (n + k) _ (by omega) (by omega) (by omega) (by omega) (by rw [hfs]; exact decide_eq_true hq) ?_
        intro p hp
        rcases List.mem_append.1 hp with h | h
        · exact hok p h
        · rw [List.mem_singleton.1 h]; exact .inr ⟨hk.2.2.2, rfl⟩
      · rw [if_neg (by simpa using hq)]
        exact xtVL s fr P _ a k 0 x 0 hlt hs (by omega) hP hA h34 (by rw [hz]; rfl) (by rw [hz]; rfl) (by rw [hz]; rfl) (by rw [hz]; rfl) (by omega) hk.2.2.2 rfl (by omega)
    | byte c k =>
      simp only
      have hk : 1 ≤ k ∧ k ≤ 4 ∧ k ≤ s.length - a := by
        rw [hd, oneR] at hz
        split at hz
        · exact absurd hz (varR_nb _)
        · split at hz
          · cases hz
          · split at hz
            · have := escR_ok _ hz
              rw [List.length_drop] at this
              omega
            · injection hz with h1 h2; omega
      have hfa := fits_all hf
      have new : (P = [] ∨ (P.getD (P.length - 1) zP).var ≠ []) → (0 < P.length → prL P [P.length - 1] = []) → XTR (fun v L' => RunsTo Tryd.prog 57 (headOf Tryd.f57 0) (envAt Tryd.f57.ntmps ([(0, vS s), (1, vN fr), (7, vL 121 2 (P).length), (8, vN (a : Nat))])) (Sx.look ([] ++ (prE 121 (P)))) 80 (v) (L') 3000) (if fitsP (litP P c) = true then textR f ((s.drop a).drop k) (litP P c) (n + k) else .err 4) := by
        intro hnew hl
        rw [litP_new P c hnew]
        have hfs : fitsP (P ++ [⟨[], [c]⟩]) = decide (P.length + 1 ≤ 40) := by rw [fits_snoc, hfa.2]; simp
        rw [hfs]
        by_cases hq : P.length + 1 ≤ 40
        · rw [if_pos (decide_eq_true hq)]
          have st := xtN s fr P _ a k 0 [] c hlt hs (by omega) hP hA h34 (by rw [hz]; rfl) (by rw [hz]; rfl) (by rw [hz]; rfl) (by rw [hz]; rfl) (by omega) rfl hl rfl hq
          refine XTR.step st ?_
          rw [List.drop_drop]
          refine ih (a + k) (n + k) _ (by omega) (by omega) (by omega) (by omega) (by rw [hfs]; exact decide_eq_true hq) ?_
          intro p hp
          rcases List.mem_append.1 hp with h | h
          · exact hok p h
          · rw [List.mem_singleton.1 h]; exact .inl ⟨rfl, by simp⟩
        · rw [if_neg (by simpa using hq)]
          exact xtNL s fr P _ a k 0 [] c hlt hs (by omega) hP hA h34 (by rw [hz]; rfl) (by rw [hz]; rfl) (by rw [hz]; rfl) (by rw [hz]; rfl) (by omega) rfl hl rfl (by omega)
      rcases snoc_or P with hP0 | ⟨A, p, rfl⟩
      · exact new (.inl hP0) (fun h => by rw [hP0] at h; simp at h)
      · obtain ⟨hpl, hpv⟩ := prL_snoc A p
        have hgd : (A ++ [p]).getD ((A ++ [p]).length - 1) zP = p := by simp
        rcases hok p (by simp) with ⟨hv, hlne⟩ | ⟨hv, hl0⟩
        · have hQ := litP_snoc A p c
          rw [if_pos hv] at hQ
          have hfs : fitsP (litP (A ++ [p]) c) = decide (p.lit.length + 1 ≤ 400) := by
            rw [hQ, fits_snoc]
            have h40 : A.length + 1 ≤ 40 := by simpa using hP
            have hal : (A.all fun q => decide (q.lit.length ≤ 400)) = true := by
              have := hfa.2
              rw [List.all_append, Bool.and_eq_true] at this
              exact this.1
            rw [hal]
            simp [h40]
          rw [hfs]
          have hpos : 0 < (A ++ [p]).length := by simp
          have h400 : p.lit.length ≤ 400 := by
            have := hfa.2
            rw [List.all_append, Bool.and_eq_true] at this
            simpa using this.2
          by_cases hq : p.lit.length + 1 ≤ 400
          · rw [if_pos (decide_eq_true hq)]
            have st := xtL s fr (A ++ [p]) _ a k 0 [] c hlt hs (by omega) hP hA h34 (by rw [hz]; rfl) (by rw [hz]; rfl) (by rw [hz]; rfl) (by rw [hz]; rfl) (by omega) rfl hpos (by rw [hpl]; exact hlne) (by rw [hpv]; exact hv) rfl (by rw [hpl]; exact hq)
            refine XTR.step st ?_
            rw [List.drop_drop]
            refine ih (a + k) (n + k) _ (by omega) (by omega) (by omega) (by omega) (by rw [hfs]; exact decide_eq_true hq) ?_
            rw [hQ]
            intro r hr
            rcases List.mem_append.1 hr with h | h
            · exact hok r (by simp [h])
            · rw [List.mem_singleton.1 h]; exact .inl ⟨rfl, by simp⟩
          · rw [if_neg (by simpa using hq)]
            exact xtLL s fr (A ++ [p]) _ a k 0 [] c hlt hs (by omega) hP hA h34 (by rw [hz]; rfl) (by rw [hz]; rfl) (by rw [hz]; rfl) (by rw [hz]; rfl) (by omega) rfl hpos (by rw [hpl]; exact hlne) (by rw [hpv]; exact hv) rfl (by rw [hpl]; omega) (by rw [hpl]; omega)
        · exact new (.inr (by rw [hgd]; exact hv)) (fun _ => by rw [hpl]; exact hl0)
theorem xtT (s : List UInt8) (a : Nat) (ha : a < s.length) (hs : s.length ≤ 10000) : XTR (fun v L' => RunsTo Tryd.prog 57 [.code (bodyOf Tryd.f57)] (envOf [vS s, vN a] Tryd.f57.ntmps) (Sx.look ([] ++ ([]))) 80 (v) (L') 3000) (txR s a) :=
  XTR.step (xt0 s a ha hs) (xtLoop s a hs _ (a + 1) 1 [] rfl (Nat.le_refl _) (by omega) (by rw [List.length_drop]; omega) rfl (fun p hp => by simp at hp))
theorem xtOkT (s : List UInt8) (a : Nat) (ha : a < s.length) (hs : s.length ≤ 10000) (h : isOkR (txR s a) = true) : RunsTo Tryd.prog 57 [.code (bodyOf Tryd.f57)] (envOf [vS s, vN a] Tryd.f57.ntmps) (Sx.look ([] ++ ([]))) 80 (.tup [(false, (.vl 141 (fun _ => 0) 2 [] (fun _ => ((okT (txR s a)).ps).length))), (false, .vi .i64 fun _ => (okN (txR s a) : Int)), (false, .vi .i64 fun _ => (0 : Int))]) (Sx.look (prE 141 (okT (txR s a)).ps)) 3000 := by
  have q := xtT s a ha hs
  cases hz : txR s a with
  | ok t m => rw [hz] at q; exact q
  | err e => rw [hz] at h; cases h
theorem xtErT (s : List UInt8) (a : Nat) (ha : a < s.length) (hs : s.length ≤ 10000) (h : isOkR (txR s a) = false) : RunsTo Tryd.prog 57 [.code (bodyOf Tryd.f57)] (envOf [vS s, vN a] Tryd.f57.ntmps) (Sx.look ([] ++ ([]))) 80 (.tup [(false, .vl0), (false, .vi .i64 fun _ => (0 : Int)), (false, .vi .i64 fun _ => (erR (txR s a) : Int))]) (Sx.look []) 3000 := by
  have q := xtT s a ha hs
  cases hz : txR s a with
  | ok t m => rw [hz] at h; cases h
  | err e => rw [hz] at q; exact q
def xtOkP : PC := { args := [.v (.vs 0), .v (.vi .i64 1)], heap := [], gs := [], G := 23, tp := 213, n := 80, n' := 3000, cond := fun e => decide (0 ≤ eI e 1 []) && (decide ((eI e 1 []).toNat < (eS e 0 []).length) && (decide ((eS e 0 []).length ≤ 10000) && isOkR (txR (eS e 0 []) (eI e 1 []).toNat))), v := fun e => .tup [(false, (.vl 141 (fun _ => 0) 2 [] (fun _ => ((okT (txR (eS e 0 []) (eI e 1 []).toNat)).ps).length))), (false, .vi .i64 fun _ => (okN (txR (eS e 0 []) (eI e 1 []).toNat) : Int)), (false, .vi .i64 fun _ => (0 : Int))], post := fun e => prE 141 (okT (txR (eS e 0 []) (eI e 1 []).toNat)).ps }
theorem xtOkP_pc : PC.Runs Tryd.prog 57 Tryd.f57 (bodyOf Tryd.f57) xtOkP := ⟨Tryd.func57, by kernel_rfl, (fun g hg => by first | (cases hg; done) | (revert g; show ∀ g ∈ ([] : List Nat), g < 23; decide)), fun e H hc => by
  have hc : (decide (0 ≤ eI e 1 []) && (decide ((eI e 1 []).toNat < (eS e 0 []).length) && (decide ((eS e 0 []).length ≤ 10000) && isOkR (txR (eS e 0 []) (eI e 1 []).toNat)))) = true := hc
  try simp only [Bool.and_eq_true, decide_eq_true_eq, Nat.beq_eq] at hc
  exact by obtain ⟨h1, h2, h3, h4⟩ := hc; have hj : ((eI e 1 []).toNat : Int) = eI e 1 [] := Int.toNat_of_nonneg h1; have q := xtOkT (eS e 0 []) (eI e 1 []).toNat h2 h3 h4; rw [hj] at q; exact q⟩
def xtErP : PC := { args := [.v (.vs 0), .v (.vi .i64 1)], heap := [], gs := [], G := 23, tp := 213, n := 80, n' := 3000, cond := fun e => decide (0 ≤ eI e 1 []) && (decide ((eI e 1 []).toNat < (eS e 0 []).length) && (decide ((eS e 0 []).length ≤ 10000) && (!isOkR (txR (eS e 0 []) (eI e 1 []).toNat)))), v := fun e => .tup [(false, .vl0), (false, .vi .i64 fun _ => (0 : Int)), (false, .vi .i64 fun _ => (erR (txR (eS e 0 []) (eI e 1 []).toNat) : Int))], post := fun e => [] }
theorem xtErP_pc : PC.Runs Tryd.prog 57 Tryd.f57 (bodyOf Tryd.f57) xtErP := ⟨Tryd.func57, by kernel_rfl, (fun g hg => by first | (cases hg; done) | (revert g; show ∀ g ∈ ([] : List Nat), g < 23; decide)), fun e H hc => by
  have hc : (decide (0 ≤ eI e 1 []) && (decide ((eI e 1 []).toNat < (eS e 0 []).length) && (decide ((eS e 0 []).length ≤ 10000) && (!isOkR (txR (eS e 0 []) (eI e 1 []).toNat))))) = true := hc
  try simp only [Bool.and_eq_true, decide_eq_true_eq, Nat.beq_eq] at hc
  exact by obtain ⟨h1, h2, h3, h4⟩ := hc; have hj : ((eI e 1 []).toNat : Int) = eI e 1 [] := Int.toNat_of_nonneg h1; have q := xtErT (eS e 0 []) (eI e 1 []).toNat h2 h3 (by simpa using h4); rw [hj] at q; exact q⟩

variable (L' : HF) (N : Nat) (v : SV) (z : Int)
abbrev qr1 := (0 : Int) - (-(N : Int)).tmod (10 : Int)
abbrev qr2 := Sx.look ([] ++ ([]))
abbrev qr7 := (-(N : Int)).tmod (10 : Int) + 1
abbrev qr3 := List.take (IntKind.i64.wrap (qr7 N)).toNat [(48 : UInt8), (49 : UInt8), (50 : UInt8), (51 : UInt8), (52 : UInt8), (53 : UInt8), (54 : UInt8), (55 : UInt8), (56 : UInt8), (57 : UInt8)]
abbrev qr8 := (N : Int).tmod (10 : Int) + 1
abbrev qr4 := List.take (IntKind.i64.wrap (qr8 N)).toNat [(48 : UInt8), (49 : UInt8), (50 : UInt8), (51 : UInt8), (52 : UInt8), (53 : UInt8), (54 : UInt8), (55 : UInt8), (56 : UInt8), (57 : UInt8)]
abbrev qr9 := IntKind.i64.wrap (qr1 N) + 1
abbrev qr5 := List.take (IntKind.i64.wrap (qr9 N)).toNat [(48 : UInt8), (49 : UInt8), (50 : UInt8), (51 : UInt8), (52 : UInt8), (53 : UInt8), (54 : UInt8), (55 : UInt8), (56 : UInt8), (57 : UInt8)]
abbrev qr6 := ([] : List UInt8)
abbrev qr10 := RunsTo Tryd.prog 56 [.code (bodyOf Tryd.f56)] (envOf [vN z] Tryd.f56.ntmps) qr2 80 (v) (L') 120
set_option maxHeartbeats 4000000 in
theorem fi0 (z : Int) (h : z = 0)  :
    (RunsTo Tryd.prog 56 [.code (bodyOf Tryd.f56)] (envOf [vN z] Tryd.f56.ntmps) qr2 80 (vS [48]) (Sx.look ([])) 120) := by
  refine rEn baseO 300 (99) 900 80 (hI 1 1) ([]) [(z == (0 : Int), true)] ([(48 : UInt8)] = [(48 : UInt8)] ∧ True) (oc1 ?_ okn) ?_
  all_goals exact sc6

set_option maxHeartbeats 4000000 in
theorem fi1 (z : Int) (h : 0 < z)  (v : SV) (L' : HF) (next : (RunsTo Tryd.prog 56 (headOf Tryd.f56 0) (envAt Tryd.f56.ntmps ([(0, vN z), (3, vS qr6), (4, vS qr6)])) qr2 80 (v) (L') 120)) :
    (qr10 L' v z) := by
  refine rMo baseO 300 (behind Tryd.f56 0) 900 80 (hI 2 0) ([]) [(z == (0 : Int), false), (decide (z < (0 : Int)), false)] ((z = z ∧ qr6 = [] ∧ qr6 = []) ∧ True) next (oc2 ?_ ?_ okn) ?_
  all_goals clear next; try dsimp only [qr6]
  all_goals exact sc6

set_option maxHeartbeats 4000000 in
theorem fi2 (z : Int) (h : z < 0)  (v : SV) (L' : HF) (next : (RunsTo Tryd.prog 56 (headOf Tryd.f56 0) (envAt Tryd.f56.ntmps ([(0, vN z), (3, vS qr6), (4, vS [45])])) qr2 80 (v) (L') 120)) :
    (qr10 L' v z) := by
  refine rMo baseO 300 (behind Tryd.f56 0) 900 80 (hI 2 4) ([]) [(z == (0 : Int), false), (decide (z < (0 : Int)), true)] ((z = z ∧ qr6 = [] ∧ [(45 : UInt8)] = [(45 : UInt8)]) ∧ True) next (oc2 ?_ ?_ okn) ?_
  all_goals clear next; try dsimp only [qr6]
  all_goals exact sc6

set_option maxHeartbeats 4000000 in
theorem fi3 (o g : List UInt8) (ho : o.length ≤ 100) (hg : g.length ≤ 1)  :
    (RunsTo Tryd.prog 56 (headOf Tryd.f56 0) (envAt Tryd.f56.ntmps ([(0, vN (0 : Int)), (3, vS o), (4, vS g)])) qr2 80 (vS (g ++ o)) (Sx.look ([])) 120) := by
  refine rEn baseO 300 (99) 900 100 (hI 2 6) ([]) [(decide (g.length + o.length ≤ (9223372036854775807 : Nat)), true)] (g ++ o = g ++ o ∧ True) (oc1 ?_ okn) ?_
  all_goals exact sc6

theorem ten_td {d : Nat} (h : d < 10) : (([48, 49, 50, 51, 52, 53, 54, 55, 56, 57] : List UInt8).take (d + 1)).drop d = [UInt8.ofNat (48 + d)] := by
  have : ∀ d, d < 10 → (([48, 49, 50, 51, 52, 53, 54, 55, 56, 57] : List UInt8).take (d + 1)).drop d = [UInt8.ofNat (48 + d)] := by decide
  exact this d h

set_option maxHeartbeats 4000000 in
theorem fiP (o g : List UInt8) (N : Nat) (hN : 0 < N) (hN2 : N ≤ 1000000000000) (ho : o.length ≤ 100)  (v : SV) (L' : HF) (next : (RunsTo Tryd.prog 56 (headOf Tryd.f56 0) (envAt Tryd.f56.ntmps ([(0, vN ((N / 10 : Nat) : Int)), (3, vS ([UInt8.ofNat (48 + N % 10)] ++ o)), (4, vS g)])) qr2 80 (v) (L') 120)) :
    (RunsTo Tryd.prog 56 (headOf Tryd.f56 0) (envAt Tryd.f56.ntmps ([(0, vN (N : Int)), (3, vS o), (4, vS g)])) qr2 80 (v) (L') 120) := by
  have hm : N % 10 < 10 := Nat.mod_lt _ (by decide)
  have ht := ten_td hm
  have hd1 : IntKind.i64.wrap (((N % 10 : Nat) : Int) + 1) = ((N % 10 + 1 : Nat) : Int) := by rw [wr64 (by omega)]; rfl
  have hnn : ((N % 10 : Nat) : Int).toNat = N % 10 := Int.toNat_natCast _
  have hnn1 : ((N % 10 + 1 : Nat) : Int).toNat = N % 10 + 1 := Int.toNat_natCast _
  have q1 : Int.tmod (N : Int) 10 = ((N % 10 : Nat) : Int) := rfl
  have q2 : Int.tdiv (N : Int) 10 = ((N / 10 : Nat) : Int) := rfl
  have q3 : IntKind.i64.wrap ((N / 10 : Nat) : Int) = ((N / 10 : Nat) : Int) := wr64 (by omega)
  have q4 : IntKind.i64.wrap ((N % 10 : Nat) : Int) = ((N % 10 : Nat) : Int) := wr64 (by omega)
  have E' := (⟨q1, q2, q3, q4, hd1, hnn, hnn1, ht⟩ : _ ∧ _ ∧ _ ∧ _ ∧ _ ∧ _ ∧ _ ∧ _)
  refine rMo baseO 300 (behind Tryd.f56 0) 900 100 (hI 7 13677) ([]) [((N : Int) != (0 : Int), true), (decide (0 ≤ IntKind.i64.wrap (qr8 N) ∧ IntKind.i64.wrap (qr8 N) ≤ (↑(10 : Nat) : Int)), true), (decide (0 ≤ (N : Int).tmod (10 : Int) ∧ (N : Int).tmod (10 : Int) ≤ IntKind.i64.wrap (qr8 N)), true), (decide ((List.drop ((N : Int).tmod (10 : Int)).toNat (qr4 N)).length + o.length ≤ (9223372036854775807 : Nat)), true)] (((↑(N / (10 : Nat)) : Int) = IntKind.i64.wrap ((N : Int).tdiv (10 : Int)) ∧ [UInt8.ofNat (48 + N % (10 : Nat))] ++ o = List.drop ((N : Int).tmod (10 : Int)).toNat (qr4 N) ++ o ∧ g = g) ∧ True) next (oc4 ?_ ?_ ?_ ?_ okn) ?_
  all_goals clear next; try dsimp only [qr8, qr4]
  all_goals exact sc42

set_option maxHeartbeats 4000000 in
theorem fiM (o g : List UInt8) (N : Nat) (hN : 0 < N) (hN2 : N ≤ 1000000000000) (ho : o.length ≤ 100) (hz : 0 < N % 10)  (v : SV) (L' : HF) (next : (RunsTo Tryd.prog 56 (headOf Tryd.f56 0) (envAt Tryd.f56.ntmps ([(0, vN (-((N / 10 : Nat) : Int))), (3, vS ([UInt8.ofNat (48 + N % 10)] ++ o)), (4, vS g)])) qr2 80 (v) (L') 120)) :
    (RunsTo Tryd.prog 56 (headOf Tryd.f56 0) (envAt Tryd.f56.ntmps ([(0, vN (-(N : Int))), (3, vS o), (4, vS g)])) qr2 80 (v) (L') 120) := by
  have hm : N % 10 < 10 := Nat.mod_lt _ (by decide)
  have ht := ten_td hm
  have hd1 : IntKind.i64.wrap (((N % 10 : Nat) : Int) + 1) = ((N % 10 + 1 : Nat) : Int) := by rw [wr64 (by omega)]; rfl
  have hnn : ((N % 10 : Nat) : Int).toNat = N % 10 := Int.toNat_natCast _
  have hnn1 : ((N % 10 + 1 : Nat) : Int).toNat = N % 10 + 1 := Int.toNat_natCast _
  have q1 : Int.tmod (-(N : Int)) 10 = -((N % 10 : Nat) : Int) := by rw [Int.neg_tmod]; rfl
  have q2 : Int.tdiv (-(N : Int)) 10 = -((N / 10 : Nat) : Int) := by rw [Int.neg_tdiv]; rfl
  have q3 : IntKind.i64.wrap (-((N / 10 : Nat) : Int)) = -((N / 10 : Nat) : Int) := wr64 (by omega)
  have q4 : IntKind.i64.wrap (-((N % 10 : Nat) : Int)) = -((N % 10 : Nat) : Int) := wr64 (by omega)
  have q5 : IntKind.i64.wrap (0 - -((N % 10 : Nat) : Int)) = ((N % 10 : Nat) : Int) := by rw [wr64 (by omega)]; omega
  have q6 : IntKind.i64.wrap (- -((N % 10 : Nat) : Int)) = ((N % 10 : Nat) : Int) := by rw [wr64 (by omega)]; omega
  have E' := (⟨q1, q2, q3, q4, q5, q6, hd1, hnn, hnn1, ht⟩ : _ ∧ _ ∧ _ ∧ _ ∧ _ ∧ _ ∧ _ ∧ _ ∧ _ ∧ _)
  refine rMo baseO 300 (behind Tryd.f56 0) 900 100 (hI 7 13661) ([]) [(-(N : Int) != (0 : Int), true), (decide ((-(N : Int)).tmod (10 : Int) < 0), true), (decide (0 ≤ IntKind.i64.wrap (qr9 N) ∧ IntKind.i64.wrap (qr9 N) ≤ (↑(10 : Nat) : Int)), true), (decide (0 ≤ IntKind.i64.wrap (qr1 N) ∧ IntKind.i64.wrap (qr1 N) ≤ IntKind.i64.wrap (qr9 N)), true), (decide ((List.drop (IntKind.i64.wrap (qr1 N)).toNat (qr5 N)).length + o.length ≤ (9223372036854775807 : Nat)), true)] ((-(↑(N / (10 : Nat)) : Int) = IntKind.i64.wrap ((-(N : Int)).tdiv (10 : Int)) ∧ [UInt8.ofNat (48 + N % (10 : Nat))] ++ o = List.drop (IntKind.i64.wrap (qr1 N)).toNat (qr5 N) ++ o ∧ g = g) ∧ True) next (oc5 ?_ ?_ ?_ ?_ ?_ okn) ?_
  all_goals clear next; try dsimp only [qr9, qr1, qr5]
  all_goals exact sc42

set_option maxHeartbeats 4000000 in
theorem fiZ (o g : List UInt8) (N : Nat) (hN : 0 < N) (hN2 : N ≤ 1000000000000) (ho : o.length ≤ 100) (hz : N % 10 = 0)  (v : SV) (L' : HF) (next : (RunsTo Tryd.prog 56 (headOf Tryd.f56 0) (envAt Tryd.f56.ntmps ([(0, vN (-((N / 10 : Nat) : Int))), (3, vS ([UInt8.ofNat (48 + 0)] ++ o)), (4, vS g)])) qr2 80 (v) (L') 120)) :
    (RunsTo Tryd.prog 56 (headOf Tryd.f56 0) (envAt Tryd.f56.ntmps ([(0, vN (-(N : Int))), (3, vS o), (4, vS g)])) qr2 80 (v) (L') 120) := by
  have hm : N % 10 < 10 := Nat.mod_lt _ (by decide)
  have ht := ten_td (d := 0) (by decide)
  have hd1 : IntKind.i64.wrap (((N % 10 : Nat) : Int) + 1) = ((N % 10 + 1 : Nat) : Int) := by rw [wr64 (by omega)]; rfl
  have hnn : ((N % 10 : Nat) : Int).toNat = N % 10 := Int.toNat_natCast _
  have hnn1 : ((N % 10 + 1 : Nat) : Int).toNat = N % 10 + 1 := Int.toNat_natCast _
  have q1 : Int.tmod (-(N : Int)) 10 = -((N % 10 : Nat) : Int) := by rw [Int.neg_tmod]; rfl
  have q2 : Int.tdiv (-(N : Int)) 10 = -((N / 10 : Nat) : Int) := by rw [Int.neg_tdiv]; rfl
  have q3 : IntKind.i64.wrap (-((N / 10 : Nat) : Int)) = -((N / 10 : Nat) : Int) := wr64 (by omega)
  have q4 : IntKind.i64.wrap (-((N % 10 : Nat) : Int)) = -((N % 10 : Nat) : Int) := wr64 (by omega)
  have q5 : IntKind.i64.wrap (0 - -((N % 10 : Nat) : Int)) = ((N % 10 : Nat) : Int) := by rw [wr64 (by omega)]; omega
  have q6 : IntKind.i64.wrap (- -((N % 10 : Nat) : Int)) = ((N % 10 : Nat) : Int) := by rw [wr64 (by omega)]; omega
  have q7 : ((N % 10 : Nat) : Int) = 0 := by omega
  have q8 : IntKind.i64.wrap ((0 : Int) + 1) = 1 := rfl
  have q9 : (-(0 : Int)) = 0 := rfl
  have E' := (⟨q1, q2, q3, q7, q8, q9, hnn, hnn1, ht⟩ : _ ∧ _ ∧ _ ∧ _ ∧ _ ∧ _ ∧ _ ∧ _ ∧ _)
  refine rMo baseO 300 (behind Tryd.f56 0) 900 100 (hI 7 13645) ([]) [(-(N : Int) != (0 : Int), true), (decide ((-(N : Int)).tmod (10 : Int) < 0), false), (decide (0 ≤ IntKind.i64.wrap (qr7 N) ∧ IntKind.i64.wrap (qr7 N) ≤ (↑(10 : Nat) : Int)), true), (decide (0 ≤ (-(N : Int)).tmod (10 : Int) ∧ (-(N : Int)).tmod (10 : Int) ≤ IntKind.i64.wrap (qr7 N)), true), (decide ((List.drop ((-(N : Int)).tmod (10 : Int)).toNat (qr3 N)).length + o.length ≤ (9223372036854775807 : Nat)), true)] ((-(↑(N / (10 : Nat)) : Int) = IntKind.i64.wrap ((-(N : Int)).tdiv (10 : Int)) ∧ [UInt8.ofNat (48 : Nat)] ++ o = List.drop ((-(N : Int)).tmod (10 : Int)).toNat (qr3 N) ++ o ∧ g = g) ∧ True) next (oc5 ?_ ?_ ?_ ?_ ?_ okn) ?_
  all_goals clear next; try dsimp only [qr7, qr3]
  all_goals exact sc42

end Go.Proofs.YtaleenklamognaaDoor

set_option linter.unusedSimpArgs false
set_option linter.unusedVariables false
set_option maxRecDepth 100000
namespace Go.Proofs.YtaleenklamognaaDoor
open Go.Sx

open WordR
def mkW (k : Nat) (x : List UInt8) (m : Int) (a : Nat) : Wt := ⟨k, x, m, [], a⟩
theorem decL_0 : decL 0 = [] := by rw [decL]; rfl
theorem decL_p {n : Nat} (h : 0 < n) : decL n = decL (n / 10) ++ [UInt8.ofNat (48 + n % 10)] := by
  rw [decL, dif_neg (by omega)]
theorem fiLoopP (g : List UInt8) (hg : g.length ≤ 1) : ∀ (k N : Nat) (o : List UInt8), N < 10 ^ k → k ≤ 12 → o.length + k ≤ 100 → RunsTo Tryd.prog 56 (headOf Tryd.f56 0) (envAt Tryd.f56.ntmps ([(0, vN (N : Int)), (3, vS o), (4, vS g)])) (Sx.look ([] ++ ([]))) 80 (vS (g ++ (decL N ++ o))) (Sx.look []) 120 := by
  intro k
  induction k with
  | zero =>
    intro N o hN _ ho
    obtain rfl : N = 0 := by simpa using hN
    rw [decL_0, List.nil_append]
    exact fi3 o g (by omega) hg
  | succ k ih =>
    intro N o hN hk ho
    have hp : 10 ^ (k + 1) ≤ 10 ^ 12 := Nat.pow_le_pow_right (by decide) hk
    by_cases h : N = 0
    · subst h
      rw [decL_0, List.nil_append]
      exact fi3 o g (by omega) hg
    have q := ih (N / 10) ([UInt8.ofNat (48 + N % 10)] ++ o) (by rw [Nat.pow_succ] at hN; omega) (by omega) (by simp; omega)
    rw [show decL (N / 10) ++ ([UInt8.ofNat (48 + N % 10)] ++ o) = decL N ++ o by rw [decL_p (n := N) (by omega), List.append_assoc]] at q
    exact fiP o g N (by omega) (by omega) (by omega) _ _ q
theorem fiLoopM (g : List UInt8) (hg : g.length ≤ 1) : ∀ (k N : Nat) (o : List UInt8), N < 10 ^ k → k ≤ 12 → o.length + k ≤ 100 → RunsTo Tryd.prog 56 (headOf Tryd.f56 0) (envAt Tryd.f56.ntmps ([(0, vN (-(N : Int))), (3, vS o), (4, vS g)])) (Sx.look ([] ++ ([]))) 80 (vS (g ++ (decL N ++ o))) (Sx.look []) 120 := by
  intro k
  induction k with
  | zero =>
    intro N o hN _ ho
    obtain rfl : N = 0 := by simpa using hN
    rw [decL_0, List.nil_append]
    exact fi3 o g (by omega) hg
  | succ k ih =>
    intro N o hN hk ho
    have hp : 10 ^ (k + 1) ≤ 10 ^ 12 := Nat.pow_le_pow_right (by decide) hk
    by_cases h : N = 0
    · subst h
      rw [decL_0, List.nil_append]
      exact fi3 o g (by omega) hg
    have q := ih (N / 10) ([UInt8.ofNat (48 + N % 10)] ++ o) (by rw [Nat.pow_succ] at hN; omega) (by omega) (by simp; omega)
    rw [show decL (N / 10) ++ ([UInt8.ofNat (48 + N % 10)] ++ o) = decL N ++ o by rw [decL_p (n := N) (by omega), List.append_assoc]] at q
    by_cases hz : N % 10 = 0
    · rw [hz] at q
      exact fiZ o g N (by omega) (by omega) (by omega) hz _ _ q
    · exact fiM o g N (by omega) (by omega) (by omega) (by omega) _ _ q
theorem fiT (z : Int) (h : -1000000000000 < z ∧ z < 1000000000000) : RunsTo Tryd.prog 56 [.code (bodyOf Tryd.f56)] (envOf [vN z] Tryd.f56.ntmps) (Sx.look ([] ++ ([]))) 80 (vS (figS z)) (Sx.look []) 120 := by
  unfold figS
  by_cases h0 : z = 0
  · rw [if_pos h0]; exact fi0 z h0
  rw [if_neg h0]
  have hab : z.natAbs < 10 ^ 12 := by omega
  by_cases h1 : z < 0
  · rw [if_pos h1]
    have q := fiLoopM [45] (by decide) 12 z.natAbs [] hab (Nat.le_refl _) (by decide)
    rw [show -((z.natAbs : Nat) : Int) = z by omega, List.append_nil (decL z.natAbs)] at q
    exact fi2 z h1 _ _ q
  · rw [if_neg h1]
    have q := fiLoopP [] (by decide) 12 z.natAbs [] hab (Nat.le_refl _) (by decide)
    rw [show ((z.natAbs : Nat) : Int) = z by omega, List.append_nil (decL z.natAbs)] at q
    exact fi1 z (by omega) _ _ q
def fgsP : PC := { args := [.v (.vi .i64 0)], heap := [], gs := [], G := 23, tp := 213, n := 80, n' := 120, cond := fun e => decide (-1000000000000 < eI e 0 [] ∧ eI e 0 [] < 1000000000000), v := fun e => vS (figS (eI e 0 [])), post := fun e => [] }
theorem fgsP_pc : PC.Runs Tryd.prog 56 Tryd.f56 (bodyOf Tryd.f56) fgsP := ⟨Tryd.func56, by kernel_rfl, (fun g hg => by first | (cases hg; done) | (revert g; show ∀ g ∈ ([] : List Nat), g < 23; decide)), fun e H hc => by
  have hc : (decide (-1000000000000 < eI e 0 [] ∧ eI e 0 [] < 1000000000000)) = true := hc
  try simp only [Bool.and_eq_true, decide_eq_true_eq, Nat.beq_eq] at hc
  exact fiT (eI e 0 []) hc⟩
def sumsRQo : List (FuncId × Summ) := [(52, rgP.summ 46), (54, rsP.summ 46), (53, lrP.summ 46), (55, frP.summ 46), (56, fgsP.summ 46), (57, xtOkP.summ 46)]
theorem baseRQo : Base0 Tryd.prog sumsRQo := ((((((baseO.cons Tryd.func57 (by kernel_rfl) (PC.summ_ok xtOkP_pc gtopG)).cons Tryd.func56 (by kernel_rfl) (PC.summ_ok fgsP_pc gtopG)).cons Tryd.func55 (by kernel_rfl) (PC.summ_ok frP_pc gtopG)).cons Tryd.func53 (by kernel_rfl) (PC.summ_ok lrP_pc gtopG)).cons Tryd.func54 (by kernel_rfl) (PC.summ_ok rsP_pc gtopG)).cons Tryd.func52 (by kernel_rfl) (PC.summ_ok rgP_pc gtopG))
def sumsRQe : List (FuncId × Summ) := [(52, rgP.summ 46), (54, rsP.summ 46), (53, lrP.summ 46), (55, frP.summ 46), (56, fgsP.summ 46), (57, xtErP.summ 46)]
theorem baseRQe : Base0 Tryd.prog sumsRQe := ((((((baseO.cons Tryd.func57 (by kernel_rfl) (PC.summ_ok xtErP_pc gtopG)).cons Tryd.func56 (by kernel_rfl) (PC.summ_ok fgsP_pc gtopG)).cons Tryd.func55 (by kernel_rfl) (PC.summ_ok frP_pc gtopG)).cons Tryd.func53 (by kernel_rfl) (PC.summ_ok lrP_pc gtopG)).cons Tryd.func54 (by kernel_rfl) (PC.summ_ok rsP_pc gtopG)).cons Tryd.func52 (by kernel_rfl) (PC.summ_ok rgP_pc gtopG))

variable (D : List UInt8) (L' : HF) (T : List Wt) (a b i k n : Nat) (num : Int) (s : List UInt8) (v : SV)
abbrev qs14 := T ++ [mkW (2 : Nat) [] ((0 : Int) - num) a]
abbrev qs7 := (a : Int) + (↑(k + (1 : Nat)) : Int)
abbrev qs39 := IntKind.i64.wrap (qs7 a k)
abbrev qs1 := ((s = s ∧ (0 = 0 ∧ (qs14 T a num).length = T.length + (1 : Nat)) ∧ (b : Int) = (↑((qs39 a k).toNat + gapR false (List.drop (qs39 a k).toNat s)) : Int)) ∧ ((qs14 T a num).length = T.length + (1 : Nat) ∧ (∀ (i : Nat), i < (qs14 T a num).length → wK (qs14 T a num) [i] = appF T.length (0 : Nat) (wK T) (fun js => (2 : Int)) [i]) ∧ (∀ (i : Nat), i < (qs14 T a num).length → wX (qs14 T a num) [i] = appF T.length (0 : Nat) (wX T) (fun js => []) [i]) ∧ (∀ (i : Nat), i < (qs14 T a num).length → wN (qs14 T a num) [i] = appF T.length (0 : Nat) (wN T) (fun js => IntKind.i64.wrap ((0 : Int) - num)) [i]) ∧ ((∀ (i : Nat), i < (qs14 T a num).length → wM (qs14 T a num) [i] = appF T.length (0 : Nat) (fun is => wM T is + (1 : Nat)) (fun js => (0 : Nat)) [i]) ∧ ∀ (i : Nat), i < (qs14 T a num).length → wL (qs14 T a num) [i] = appF T.length (0 : Nat) (wL T) (fun js => (0 : Nat)) [i]) ∧ ∀ (i : Nat), i < (qs14 T a num).length → wP (qs14 T a num) [i] = appF T.length (0 : Nat) (wP T) (fun js => (a : Int)) [i]) ∧ (qs14 T a num).length = T.length + (1 : Nat) ∧ ∀ (m : Nat), m < (qs14 T a num).length → gpL (qs14 T a num) m = consN (0 : Nat) (gpL T) m ∧ (∀ (i : Nat), i < gpL (qs14 T a num) m → gpV (qs14 T a num) [m, i] = consF (gpV T) (gpV T) [m, i]) ∧ ∀ (i : Nat), i < gpL (qs14 T a num) m → gpT (qs14 T a num) [m, i] = consF (gpT T) (gpT T) [m, i])
abbrev qs19 := (↑s.length : Int)
abbrev qs2 := (decide (0 ≤ (a : Int) ∧ (a : Int) < (qs19 s)), true)
abbrev qs17 := T ++ [mkW (5 : Nat) [] (0 : Int) a]
abbrev qs41 := IntKind.i64.wrap ((a : Int) + 1)
abbrev qs3 := ((s = s ∧ (0 = 0 ∧ (qs17 T a).length = T.length + (1 : Nat)) ∧ (b : Int) = (↑((qs41 a).toNat + gapR false (List.drop (qs41 a).toNat s)) : Int)) ∧ ((qs17 T a).length = T.length + (1 : Nat) ∧ (∀ (i : Nat), i < (qs17 T a).length → wK (qs17 T a) [i] = appF T.length (0 : Nat) (wK T) (fun js => (5 : Int)) [i]) ∧ (∀ (i : Nat), i < (qs17 T a).length → wX (qs17 T a) [i] = appF T.length (0 : Nat) (wX T) (fun js => []) [i]) ∧ (∀ (i : Nat), i < (qs17 T a).length → wN (qs17 T a) [i] = appF T.length (0 : Nat) (wN T) (fun js => (0 : Int)) [i]) ∧ ((∀ (i : Nat), i < (qs17 T a).length → wM (qs17 T a) [i] = appF T.length (0 : Nat) (fun is => wM T is + (1 : Nat)) (fun js => (0 : Nat)) [i]) ∧ ∀ (i : Nat), i < (qs17 T a).length → wL (qs17 T a) [i] = appF T.length (0 : Nat) (wL T) (fun js => (0 : Nat)) [i]) ∧ ∀ (i : Nat), i < (qs17 T a).length → wP (qs17 T a) [i] = appF T.length (0 : Nat) (wP T) (fun js => (a : Int)) [i]) ∧ (qs17 T a).length = T.length + (1 : Nat) ∧ ∀ (m : Nat), m < (qs17 T a).length → gpL (qs17 T a) m = consN (0 : Nat) (gpL T) m ∧ (∀ (i : Nat), i < gpL (qs17 T a) m → gpV (qs17 T a) [m, i] = consF (gpV T) (gpV T) [m, i]) ∧ ∀ (i : Nat), i < gpL (qs17 T a) m → gpT (qs17 T a) [m, i] = consF (gpT T) (gpT T) [m, i])
abbrev qs23 := T ++ [mkW (2 : Nat) [] num a]
abbrev qs8 := (a : Int) + (↑(k + (0 : Nat)) : Int)
abbrev qs35 := IntKind.i64.wrap (qs8 a k)
abbrev qs4 := ((s = s ∧ (0 = 0 ∧ (qs23 T a num).length = T.length + (1 : Nat)) ∧ (b : Int) = (↑((qs35 a k).toNat + gapR false (List.drop (qs35 a k).toNat s)) : Int)) ∧ ((qs23 T a num).length = T.length + (1 : Nat) ∧ (∀ (i : Nat), i < (qs23 T a num).length → wK (qs23 T a num) [i] = appF T.length (0 : Nat) (wK T) (fun js => (2 : Int)) [i]) ∧ (∀ (i : Nat), i < (qs23 T a num).length → wX (qs23 T a num) [i] = appF T.length (0 : Nat) (wX T) (fun js => []) [i]) ∧ (∀ (i : Nat), i < (qs23 T a num).length → wN (qs23 T a num) [i] = appF T.length (0 : Nat) (wN T) (fun js => num) [i]) ∧ ((∀ (i : Nat), i < (qs23 T a num).length → wM (qs23 T a num) [i] = appF T.length (0 : Nat) (fun is => wM T is + (1 : Nat)) (fun js => (0 : Nat)) [i]) ∧ ∀ (i : Nat), i < (qs23 T a num).length → wL (qs23 T a num) [i] = appF T.length (0 : Nat) (wL T) (fun js => (0 : Nat)) [i]) ∧ ∀ (i : Nat), i < (qs23 T a num).length → wP (qs23 T a num) [i] = appF T.length (0 : Nat) (wP T) (fun js => (a : Int)) [i]) ∧ (qs23 T a num).length = T.length + (1 : Nat) ∧ ∀ (m : Nat), m < (qs23 T a num).length → gpL (qs23 T a num) m = consN (0 : Nat) (gpL T) m ∧ (∀ (i : Nat), i < gpL (qs23 T a num) m → gpV (qs23 T a num) [m, i] = consF (gpV T) (gpV T) [m, i]) ∧ ∀ (i : Nat), i < gpL (qs23 T a num) m → gpT (qs23 T a num) [m, i] = consF (gpT T) (gpT T) [m, i])
abbrev qs5 := (↑(s.getD (a : Int).toNat (0 : UInt8)).toNat : Int)
abbrev qs6 := (T.length = T.length ∧ (∀ (i : Nat), i < T.length → wK T [i] = wK T [i]) ∧ (∀ (i : Nat), i < T.length → wX T [i] = wX T [i]) ∧ (∀ (i : Nat), i < T.length → wN T [i] = wN T [i]) ∧ ((∀ (i : Nat), i < T.length → wM T [i] = wM T [i]) ∧ ∀ (i : Nat), i < T.length → wL T [i] = wL T [i]) ∧ ∀ (i : Nat), i < T.length → wP T [i] = wP T [i])
abbrev qs9 := (decide (((2 : Nat) * (T.length + (1 : Nat)) + (192 : Nat)) * (64 : Nat) ≤ (281474976710656 : Nat)), true)
abbrev qs57 := (5, vL 102 5 T.length)
abbrev qs10 := [(0, vS s), (qs57 T), (6, vN (a : Nat)), (7, vP 104), (8, vN (k + 1 : Nat)), (9, vN 0), (10, vN 1), (11, vN (k : Nat)), (12, vS D), (13, vN (i : Nat))]
abbrev qs11 := [(0, vS s), (qs57 T), (6, vN (a : Nat)), (7, vP 104), (8, vN (k + 0 : Nat)), (9, vN 0), (10, vN 0), (11, vN (k : Nat)), (12, vS D), (13, vN (i : Nat))]
abbrev qs52 := (↑(spanR (pfI true) (List.drop (a : Int).toNat s)) : Int)
abbrev qs12 := (a : Int) + (qs52 a s)
abbrev qs13 := T ++ [mkW (1 : Nat) (txt s a n) (0 : Int) a]
abbrev qs15 := (T.length = T.length ∧ ∀ (m : Nat), m < T.length → gpL T m = gpL T m ∧ (∀ (i : Nat), i < gpL T m → gpV T [m, i] = gpV T [m, i]) ∧ ∀ (i : Nat), i < gpL T m → gpT T [m, i] = gpT T [m, i])
abbrev qs42 := [(0, vS s), (5, vL 102 5 (T).length), (6, vN (a : Nat))]
abbrev qs53 := Sx.look ([] ++ (wtE 102 103 (T)))
abbrev qs16 := RunsTo Tryd.prog 15 (headOf Tryd.f15 0) (envAt Tryd.f15.ntmps (qs42 T a s)) (qs53 T) 80 (v) (L') 9000
abbrev qs18 := (decide ((-1000000000000 : Int) < IntKind.i64.wrap ((0 : Int) - num) ∧ IntKind.i64.wrap ((0 : Int) - num) < 1000000000000), true)
abbrev qs20 := (↑(spanR (pfI false) (List.drop (qs41 a).toNat s)) : Int)
abbrev qs21 := (↑(spanR (pfI false) (List.drop (IntKind.i64.wrap ((a : Int) + 0)).toNat s)) : Int)
abbrev qs22 := (True ∧ (a : Int) = (a : Int) ∧ (5 : Int) = (5 : Int) ∧ True) ∧ True
abbrev qs24 := (decide (0 ≤ IntKind.i64.wrap ((a : Int) + 1)) && (decide ((qs41 a).toNat ≤ s.length) && decide (s.length ≤ (100000 : Nat))), true)
abbrev qs25 := (decide ((i : Int) < (k : Int)), false)
abbrev qs26 := (decide (0 ≤ IntKind.i64.wrap (qs7 a k) ∧ IntKind.i64.wrap (qs7 a k) ≤ (qs19 s)), true)
abbrev qs27 := (decide (0 ≤ IntKind.i64.wrap (qs8 a k) ∧ IntKind.i64.wrap (qs8 a k) ≤ (qs19 s)), true)
abbrev qs28 := (decide ((k : Int) > 9), false)
abbrev qs29 := (decide ((-1000000000000 : Int) < num ∧ num < (1000000000000 : Int)), true)
abbrev qs30 := (decide (0 ≤ (a : Int) ∧ (a : Int) ≤ IntKind.i64.wrap (qs7 a k)), true)
abbrev qs31 := (decide (0 ≤ (a : Int) ∧ (a : Int) ≤ IntKind.i64.wrap (qs8 a k)), true)
abbrev qs32 := ((0 + T.length).ble T.length, true)
abbrev qs33 := (!figS (IntKind.i64.wrap ((0 : Int) - num)) == List.drop (a : Int).toNat (List.take (qs39 a k).toNat s), false)
abbrev qs34 := (decide ((a : Int) < (qs19 s)), true)
abbrev qs36 := (True ∧ (a : Int) = (a : Int) ∧ (4 : Int) = (4 : Int) ∧ True) ∧ True
abbrev qs37 := txR s (a : Int).toNat
abbrev qs38 := Sx.look ([])
abbrev qs40 := ((k : Int) == 0, false)
abbrev qs43 := (a : Int) + IntKind.i64.wrap ((qs20 a s) + 1)
abbrev qs44 := (a : Int) + IntKind.i64.wrap ((qs21 a s) + 0)
abbrev qs45 := (decide (0 ≤ IntKind.i64.wrap (qs7 a k)) && (decide ((qs39 a k).toNat ≤ s.length) && decide (s.length ≤ (100000 : Nat))), true)
abbrev qs46 := (decide (0 ≤ IntKind.i64.wrap (qs8 a k)) && (decide ((qs35 a k).toNat ≤ s.length) && decide (s.length ≤ (100000 : Nat))), true)
abbrev qs47 := 0 = 0 ∧ T.length = T.length
abbrev qs48 := (decide (0 ≤ (a : Int)) && (decide ((a : Int).toNat ≤ s.length) && decide (s.length ≤ (100000 : Nat))), true)
abbrev qs49 := IntKind.i64.wrap ((10 : Int) * num) + IntKind.i64.wrap (IntKind.u8.wrap ((↑(D.getD (i : Int).toNat (0 : UInt8)).toNat : Int) - 48))
abbrev qs50 := ((a : Nat) : Int)
abbrev qs51 := IntKind.i64.wrap ((a : Int) + (↑(okN (qs37 a s)) : Int))
abbrev qs54 := (!figS num == List.drop (a : Int).toNat (List.take (qs35 a k).toNat s), false)
abbrev qs55 := (decide ((i : Int) < (k : Int)), true)
abbrev qs56 := (decide (0 ≤ IntKind.i64.wrap (qs12 a s) ∧ IntKind.i64.wrap (qs12 a s) ≤ (qs19 s)), true)
abbrev qs58 := ((qs5 a s) == 45, false)
abbrev qs59 := ((qs5 a s) == 10, false)
set_option maxHeartbeats 4000000 in
theorem rqL (s : List UInt8) (hs : 4000 < s.length)  :
    (RunsTo Tryd.prog 15 [.code (bodyOf Tryd.f15)] (envOf [vS s] Tryd.f15.ntmps) (Sx.look ([] ++ ([]))) 80 (.tup [(false, .vl0), (false, .vi .i64 fun _ => (0 : Int)), (false, .vi .i64 fun _ => (4 : Int))]) qs38 9000) := by
  refine rEn baseRQo 600 (99) 900 80 (hI 1 1) ([]) [(decide ((qs19 s) > 4000), true)] ((True ∧ (0 : Int) = (0 : Int) ∧ (4 : Int) = (4 : Int) ∧ True) ∧ True) (oc1 ?_ okn) ?_
  all_goals try dsimp only [qs19]
  all_goals exact sc6

set_option maxHeartbeats 4000000 in
theorem rq0 (s : List UInt8) (b : Nat) (hs : s.length ≤ 4000) (hb : gapR false s = b)  (v : SV) (L' : HF) (next : (RunsTo Tryd.prog 15 (headOf Tryd.f15 0) (envAt Tryd.f15.ntmps ([(0, vS s), (5, vL 102 5 (([] : List Wt)).length), (6, vN (b : Nat))])) (Sx.look ([] ++ (wtE 102 103 (([] : List Wt))))) 80 (v) (L') 9000)) :
    (RunsTo Tryd.prog 15 [.code (bodyOf Tryd.f15)] (envOf [vS s] Tryd.f15.ntmps) (Sx.look ([] ++ ([]))) 80 (v) (L') 9000) := by
  have hb0 : gapR false (s.drop 0) = b := by rw [List.drop_zero]; exact hb
  have E' := (⟨hb0, hb⟩ : _ ∧ _)
  refine rMo baseRQo 600 (behind Tryd.f15 0) 900 80 (hI 2 4) ([((102 : Nat), Rn.to (80 : Nat)), ((103 : Nat), Rn.nil (2 : Nat))]) [(decide ((qs19 s) > 4000), false), (decide ((0 : Int) ≤ 0) && (decide (Int.toNat (0 : Int) ≤ s.length) && decide (s.length ≤ (100000 : Nat))), true)] ((s = s ∧ (0 = 0 ∧ 0 = 0) ∧ (b : Int) = (↑(Int.toNat (0 : Int) + gapR false (List.drop (Int.toNat (0 : Int)) s)) : Int)) ∧ (0 = 0 ∧ (∀ (i : Nat), i < (0 : Nat) → wK [] [i] = (0 : Int)) ∧ (∀ (i : Nat), i < (0 : Nat) → wX [] [i] = []) ∧ (∀ (i : Nat), i < (0 : Nat) → wN [] [i] = (0 : Int)) ∧ (∀ (i : Nat), i < (0 : Nat) → wL [] [i] = (0 : Nat)) ∧ ∀ (i : Nat), i < (0 : Nat) → wP [] [i] = (0 : Int)) ∧ 0 = 0) next (oc2 ?_ ?_ okn) ?_
  all_goals clear next; try dsimp only [qs19]
  all_goals exact sc28

set_option maxHeartbeats 4000000 in
theorem rqE (s : List UInt8) (T : List Wt) (a n b : Nat) (ha : a = s.length)  :
    (RunsTo Tryd.prog 15 (headOf Tryd.f15 0) (envAt Tryd.f15.ntmps (qs42 T a s)) (qs53 T) 80 (.tup [(false, .vl 102 (fun _ => 0) 5 [] (fun _ => (T).length)), (false, .vi .i64 fun _ => 0), (false, .vi .i64 fun _ => 0)]) (Sx.look (wtE 102 103 T)) 9000) := by
  refine rEn baseRQo 600 (99) 900 140 (hI 1 0) ([]) [(decide ((a : Int) < (qs19 s)), false)] (((qs47 T) ∧ (0 : Int) = (0 : Int) ∧ (0 : Int) = (0 : Int) ∧ True) ∧ (qs6 T) ∧ T.length = T.length ∧ ∀ (m : Nat), m < T.length → gpL T m = gpL T m ∧ (∀ (i : Nat), i < gpL T m → gpV T [m, i] = gpV T [m, i]) ∧ ∀ (i : Nat), i < gpL T m → gpT T [m, i] = gpT T [m, i]) (oc1 ?_ okn) ?_
  all_goals try dsimp only [qs19, qs47, qs6]
  all_goals exact sc6

set_option maxHeartbeats 4000000 in
theorem rqN (s : List UInt8) (T : List Wt) (a n b : Nat) (ha : a < s.length) (hs : s.length ≤ 4000) (hT : T.length ≤ a) (h : (s.getD a 0).toNat = 10 ∨ (s.getD a 0).toNat = 59) (hn1 : n = 1) (hb : a + n + gapR false (s.drop (a + n)) = b) (hn : a + n ≤ s.length)  (v : SV) (L' : HF) (next : (RunsTo Tryd.prog 15 (headOf Tryd.f15 0) (envAt Tryd.f15.ntmps ([(0, vS s), (5, vL 102 5 (T ++ [mkW 5 [] 0 a]).length), (6, vN (b : Nat))])) (Sx.look ([] ++ (wtE 102 103 (T ++ [mkW 5 [] 0 a])))) 80 (v) (L') 9000)) :
    (qs16 L' T a s v) := by
  have hw1 : IntKind.i64.wrap ((a : Int) + 1) = ((a + 1 : Nat) : Int) := by rw [wr64 (by omega)]; rfl
  have hw2 : IntKind.i64.wrap ((a : Int) + 2) = ((a + 2 : Nat) : Int) := by rw [wr64 (by omega)]; omega
  have hb0 := u8nat (s.getD a 0)
  have hn1' : (n : Int) = 1 := by omega
  have hwn : IntKind.i64.wrap ((a : Int) + (n : Int)) = ((a + n : Nat) : Int) := by rw [wr64 (by omega)]; rfl
  have E' := (⟨hw1, hw2, hwn, hb, hn1⟩ : _ ∧ _ ∧ _ ∧ _ ∧ _)
  refine bcase (fun gg0 => (rMo baseRQo 600 (behind Tryd.f15 0) 900 140 (hI 12 5739589) ([((102 : Nat), Rn.to (143 : Nat)), ((103 : Nat), Rn.to (142 : Nat))]) [(qs34 a s), (qs2 a s), (qs58 a s), (qs2 a s), (qs59 a s), (qs2 a s), ((qs5 a s) == 59, true), (qs32 T), (qs9 T), (qs24 a s)] (qs3 T a b s) next (oc1 ?_ (oc9 ?_ ?_ ?_ gg0 ?_ ?_ ?_ ?_ ?_ okn)) ?_)) fun gg0 => (rMo baseRQo 600 (behind Tryd.f15 0) 900 140 (hI 10 358725) ([((102 : Nat), Rn.to (143 : Nat)), ((103 : Nat), Rn.to (142 : Nat))]) [(qs34 a s), (qs2 a s), (qs58 a s), (qs2 a s), ((qs5 a s) == 10, true), (qs32 T), (qs9 T), (qs24 a s)] (qs3 T a b s) next (oc8 ?_ ?_ ?_ ?_ gg0 ?_ ?_ ?_ okn) ?_)
  all_goals clear next; try dsimp only [qs34, qs19, qs2, qs58, qs5, qs59, qs32, qs9, qs24, qs41, qs3, qs17] at *
  all_goals exact sc43

set_option maxHeartbeats 4000000 in
theorem rqI (s : List UInt8) (T : List Wt) (a n b : Nat) (ha : a < s.length) (hs : s.length ≤ 4000) (hT : T.length ≤ a) (n1 : (s.getD a 0).toNat ≠ 10) (n2 : (s.getD a 0).toNat ≠ 59) (hl : ltrI ((s.getD a 0).toNat : Int) = true) (hk : spanR goI (s.drop a) = n) (hk2 : n ≤ 24) (hb : a + n + gapR false (s.drop (a + n)) = b) (hn : a + n ≤ s.length)  (v : SV) (L' : HF) (next : (RunsTo Tryd.prog 15 (headOf Tryd.f15 0) (envAt Tryd.f15.ntmps ([(0, vS s), (5, vL 102 5 (T ++ [mkW 1 (txt s a n) 0 a]).length), (6, vN (b : Nat))])) (Sx.look ([] ++ (wtE 102 103 (T ++ [mkW 1 (txt s a n) 0 a])))) 80 (v) (L') 9000)) :
    (qs16 L' T a s v) := by
  have hw1 : IntKind.i64.wrap ((a : Int) + 1) = ((a + 1 : Nat) : Int) := by rw [wr64 (by omega)]; rfl
  have hw2 : IntKind.i64.wrap ((a : Int) + 2) = ((a + 2 : Nat) : Int) := by rw [wr64 (by omega)]; omega
  have hb0 := u8nat (s.getD a 0)
  have hm45 : ((((s.getD a 0).toNat : Nat) : Int) == 45) = false := beq_eq_false_iff_ne.2 (by have hl2 := hl; unfold ltrI at hl2; have := of_decide_eq_true hl2; omega)
  have hpt := pf_t (s.drop a)
  have hbx : (s.take (a + n)).drop a = txt s a n := rfl
  have hwn : IntKind.i64.wrap ((a : Int) + (n : Int)) = ((a + n : Nat) : Int) := by rw [wr64 (by omega)]; rfl
  have E' := (⟨hw1, hw2, hwn, hb, hl, hm45, hpt, hk⟩ : _ ∧ _ ∧ _ ∧ _ ∧ _ ∧ _ ∧ _ ∧ _)
  refine rMo baseRQo 600 (behind Tryd.f15 0) 900 140 (hI 19 93974905925) ([((102 : Nat), Rn.to (213 : Nat)), ((103 : Nat), Rn.to (212 : Nat))]) [(qs34 a s), (qs2 a s), (qs58 a s), (qs2 a s), (qs59 a s), (qs2 a s), ((qs5 a s) == 59, false), (qs2 a s), (ltrI (qs5 a s), true), (qs48 a s), (qs56 a s), (decide (0 ≤ (a : Int) ∧ (a : Int) ≤ IntKind.i64.wrap (qs12 a s)), true), (decide ((qs52 a s) > 24), false), (qs32 T), (qs9 T), (decide (0 ≤ IntKind.i64.wrap (qs12 a s)) && (decide ((IntKind.i64.wrap (qs12 a s)).toNat ≤ s.length) && decide (s.length ≤ (100000 : Nat))), true)] ((s = s ∧ (0 = 0 ∧ (qs13 T a n s).length = T.length + (1 : Nat)) ∧ (b : Int) = (↑((IntKind.i64.wrap (qs12 a s)).toNat + gapR false (List.drop (IntKind.i64.wrap (qs12 a s)).toNat s)) : Int)) ∧ ((qs13 T a n s).length = T.length + (1 : Nat) ∧ (∀ (i : Nat), i < (qs13 T a n s).length → wK (qs13 T a n s) [i] = appF T.length (0 : Nat) (wK T) (fun js => (1 : Int)) [i]) ∧ (∀ (i : Nat), i < (qs13 T a n s).length → wX (qs13 T a n s) [i] = appF T.length (0 : Nat) (wX T) (fun js => List.drop (a : Int).toNat (List.take (IntKind.i64.wrap (qs12 a s)).toNat s)) [i]) ∧ (∀ (i : Nat), i < (qs13 T a n s).length → wN (qs13 T a n s) [i] = appF T.length (0 : Nat) (wN T) (fun js => (0 : Int)) [i]) ∧ ((∀ (i : Nat), i < (qs13 T a n s).length → wM (qs13 T a n s) [i] = appF T.length (0 : Nat) (fun is => wM T is + (1 : Nat)) (fun js => (0 : Nat)) [i]) ∧ ∀ (i : Nat), i < (qs13 T a n s).length → wL (qs13 T a n s) [i] = appF T.length (0 : Nat) (wL T) (fun js => (0 : Nat)) [i]) ∧ ∀ (i : Nat), i < (qs13 T a n s).length → wP (qs13 T a n s) [i] = appF T.length (0 : Nat) (wP T) (fun js => (a : Int)) [i]) ∧ (qs13 T a n s).length = T.length + (1 : Nat) ∧ ∀ (m : Nat), m < (qs13 T a n s).length → gpL (qs13 T a n s) m = consN (0 : Nat) (gpL T) m ∧ (∀ (i : Nat), i < gpL (qs13 T a n s) m → gpV (qs13 T a n s) [m, i] = consF (gpV T) (gpV T) [m, i]) ∧ ∀ (i : Nat), i < gpL (qs13 T a n s) m → gpT (qs13 T a n s) [m, i] = consF (gpT T) (gpT T) [m, i]) next (oc7 ?_ ?_ ?_ ?_ ?_ ?_ ?_ (oc9 ?_ ?_ ?_ ?_ ?_ ?_ ?_ ?_ ?_ okn)) ?_
  all_goals clear next; try dsimp only [qs34, qs19, qs2, qs58, qs5, qs59, qs48, qs56, qs12, qs52, qs32, qs9, qs13]
  all_goals exact sc43

set_option maxHeartbeats 4000000 in
theorem rqIl (s : List UInt8) (T : List Wt) (a n b : Nat) (ha : a < s.length) (hs : s.length ≤ 4000) (hT : T.length ≤ a) (n1 : (s.getD a 0).toNat ≠ 10) (n2 : (s.getD a 0).toNat ≠ 59) (hl : ltrI ((s.getD a 0).toNat : Int) = true) (hk : spanR goI (s.drop a) = n) (hk2 : 24 < n) (hn : a + n ≤ s.length)  :
    (RunsTo Tryd.prog 15 (headOf Tryd.f15 0) (envAt Tryd.f15.ntmps (qs42 T a s)) (qs53 T) 80 (.tup [(false, .vl0), (false, .vi .i64 fun _ => (qs50 a)), (false, .vi .i64 fun _ => (4 : Int))]) qs38 9000) := by
  have hw1 : IntKind.i64.wrap ((a : Int) + 1) = ((a + 1 : Nat) : Int) := by rw [wr64 (by omega)]; rfl
  have hw2 : IntKind.i64.wrap ((a : Int) + 2) = ((a + 2 : Nat) : Int) := by rw [wr64 (by omega)]; omega
  have hb0 := u8nat (s.getD a 0)
  have hm45 : ((((s.getD a 0).toNat : Nat) : Int) == 45) = false := beq_eq_false_iff_ne.2 (by have hl2 := hl; unfold ltrI at hl2; have := of_decide_eq_true hl2; omega)
  have hpt := pf_t (s.drop a)
  have hbx : (s.take (a + n)).drop a = txt s a n := rfl
  have hwn : IntKind.i64.wrap ((a : Int) + (n : Int)) = ((a + n : Nat) : Int) := by rw [wr64 (by omega)]; rfl
  have E' := (⟨hw1, hw2, hl, hm45, hpt, hk, hwn⟩ : _ ∧ _ ∧ _ ∧ _ ∧ _ ∧ _ ∧ _)
  refine rEn baseRQo 600 (99) 900 140 (hI 15 894911557) ([]) [(qs34 a s), (qs2 a s), (qs58 a s), (qs2 a s), (qs59 a s), (qs2 a s), ((qs5 a s) == 59, false), (qs2 a s), (ltrI (qs5 a s), true), (qs48 a s), (qs56 a s), (decide (0 ≤ (a : Int) ∧ (a : Int) ≤ IntKind.i64.wrap (qs12 a s)), true), (decide ((qs52 a s) > 24), true)] (qs36 a) (oc4 ?_ ?_ ?_ ?_ (oc9 ?_ ?_ ?_ ?_ ?_ ?_ ?_ ?_ ?_ okn)) ?_
  all_goals try dsimp only [qs34, qs19, qs2, qs58, qs5, qs59, qs48, qs56, qs12, qs52, qs36]
  all_goals exact sc44

set_option maxHeartbeats 4000000 in
theorem rqT (s : List UInt8) (T : List Wt) (a n b : Nat) (t : Wt) (ha : a < s.length) (hs : s.length ≤ 4000) (hT : T.length ≤ a) (n1 : (s.getD a 0).toNat ≠ 10) (n2 : (s.getD a 0).toNat ≠ 59) (hl : ltrI ((s.getD a 0).toNat : Int) = false) (hf : figI ((s.getD a 0).toNat : Int) = false) (n3 : (s.getD a 0).toNat ≠ 45) (n4 : (s.getD a 0).toNat = 34) (h : isOkR (txR s a) = true) (h2 : okT (txR s a) = t) (h3 : okN (txR s a) = n) (hb : a + n + gapR false (s.drop (a + n)) = b) (hn : a + n ≤ s.length)  (v : SV) (L' : HF) (next : (RunsTo Tryd.prog 15 (headOf Tryd.f15 0) (envAt Tryd.f15.ntmps ([(0, vS s), (5, vL 102 5 (T ++ [atW ⟨3, [], 0, t.ps, 0⟩ a]).length), (6, vN (b : Nat))])) (Sx.look ([] ++ (wtE 102 103 (T ++ [atW ⟨3, [], 0, t.ps, 0⟩ a])))) 80 (v) (L') 9000)) :
    (qs16 L' T a s v) := by
  have hw1 : IntKind.i64.wrap ((a : Int) + 1) = ((a + 1 : Nat) : Int) := by rw [wr64 (by omega)]; rfl
  have hw2 : IntKind.i64.wrap ((a : Int) + 2) = ((a + 2 : Nat) : Int) := by rw [wr64 (by omega)]; omega
  have hb0 := u8nat (s.getD a 0)
  have hm45 : ((((s.getD a 0).toNat : Nat) : Int) == 45) = false := beq_eq_false_iff_ne.2 (by omega)
  have hwn : IntKind.i64.wrap ((a : Int) + (n : Int)) = ((a + n : Nat) : Int) := by rw [wr64 (by omega)]; rfl
  have E' := (⟨hw1, hw2, hwn, hb, hl, hf, hm45, h, h2, h3⟩ : _ ∧ _ ∧ _ ∧ _ ∧ _ ∧ _ ∧ _ ∧ _ ∧ _ ∧ _)
  refine rMo baseRQo 600 (behind Tryd.f15 0) 900 140 (hI 22 6018739422277) ([((102 : Nat), Rn.to (3083 : Nat)), ((103 : Nat), Rn.to (3082 : Nat))]) [(qs34 a s), (qs2 a s), (qs58 a s), (qs2 a s), (qs59 a s), (qs2 a s), ((qs5 a s) == 59, false), (qs2 a s), (ltrI (qs5 a s), false), (qs2 a s), (figI (qs5 a s), false), (qs2 a s), ((qs5 a s) == 34, true), (decide (0 ≤ (a : Int)) && (decide ((a : Int).toNat < s.length) && (decide (s.length ≤ (10000 : Nat)) && isOkR (qs37 a s))), true), (qs32 T), (qs9 T), (decide (0 ≤ IntKind.i64.wrap ((a : Int) + (↑(okN (qs37 a s)) : Int))) && (decide ((qs51 a s).toNat ≤ s.length) && decide (s.length ≤ (100000 : Nat))), true)] ((s = s ∧ (0 = 0 ∧ (T ++ [atW { kind := (3 : Nat), text := [], num := (0 : Int), ps := t.4, pos := (0 : Nat) } a]).length = T.length + (1 : Nat)) ∧ (b : Int) = (↑((qs51 a s).toNat + gapR false (List.drop (qs51 a s).toNat s)) : Int)) ∧ ((T ++ [atW { kind := (3 : Nat), text := [], num := (0 : Int), ps := t.4, pos := (0 : Nat) } a]).length = T.length + (1 : Nat) ∧ (∀ (i : Nat), i < (T ++ [atW { kind := (3 : Nat), text := [], num := (0 : Int), ps := t.4, pos := (0 : Nat) } a]).length → wK (T ++ [atW { kind := (3 : Nat), text := [], num := (0 : Int), ps := t.4, pos := (0 : Nat) } a]) [i] = appF T.length (0 : Nat) (wK T) (fun js => (3 : Int)) [i]) ∧ (∀ (i : Nat), i < (T ++ [atW { kind := (3 : Nat), text := [], num := (0 : Int), ps := t.4, pos := (0 : Nat) } a]).length → wX (T ++ [atW { kind := (3 : Nat), text := [], num := (0 : Int), ps := t.4, pos := (0 : Nat) } a]) [i] = appF T.length (0 : Nat) (wX T) (fun js => []) [i]) ∧ (∀ (i : Nat), i < (T ++ [atW { kind := (3 : Nat), text := [], num := (0 : Int), ps := t.4, pos := (0 : Nat) } a]).length → wN (T ++ [atW { kind := (3 : Nat), text := [], num := (0 : Int), ps := t.4, pos := (0 : Nat) } a]) [i] = appF T.length (0 : Nat) (wN T) (fun js => (0 : Int)) [i]) ∧ ((∀ (i : Nat), i < (T ++ [atW { kind := (3 : Nat), text := [], num := (0 : Int), ps := t.4, pos := (0 : Nat) } a]).length → wM (T ++ [atW { kind := (3 : Nat), text := [], num := (0 : Int), ps := t.4, pos := (0 : Nat) } a]) [i] = appF T.length (0 : Nat) (fun is => wM T is + (1 : Nat)) (fun js => (0 : Nat)) [i]) ∧ ∀ (i : Nat), i < (T ++ [atW { kind := (3 : Nat), text := [], num := (0 : Int), ps := t.4, pos := (0 : Nat) } a]).length → wL (T ++ [atW { kind := (3 : Nat), text := [], num := (0 : Int), ps := t.4, pos := (0 : Nat) } a]) [i] = appF T.length (0 : Nat) (wL T) (fun js => (okT (qs37 a s)).4.length) [i]) ∧ ∀ (i : Nat), i < (T ++ [atW { kind := (3 : Nat), text := [], num := (0 : Int), ps := t.4, pos := (0 : Nat) } a]).length → wP (T ++ [atW { kind := (3 : Nat), text := [], num := (0 : Int), ps := t.4, pos := (0 : Nat) } a]) [i] = appF T.length (0 : Nat) (wP T) (fun js => (a : Int)) [i]) ∧ (T ++ [atW { kind := (3 : Nat), text := [], num := (0 : Int), ps := t.4, pos := (0 : Nat) } a]).length = T.length + (1 : Nat) ∧ ∀ (m : Nat), m < (T ++ [atW { kind := (3 : Nat), text := [], num := (0 : Int), ps := t.4, pos := (0 : Nat) } a]).length → gpL (T ++ [atW { kind := (3 : Nat), text := [], num := (0 : Int), ps := t.4, pos := (0 : Nat) } a]) m = consN (okT (qs37 a s)).4.length (gpL T) m ∧ (∀ (i : Nat), i < gpL (T ++ [atW { kind := (3 : Nat), text := [], num := (0 : Int), ps := t.4, pos := (0 : Nat) } a]) m → gpV (T ++ [atW { kind := (3 : Nat), text := [], num := (0 : Int), ps := t.4, pos := (0 : Nat) } a]) [m, i] = consF (prV (okT (qs37 a s)).4) (gpV T) [m, i]) ∧ ∀ (i : Nat), i < gpL (T ++ [atW { kind := (3 : Nat), text := [], num := (0 : Int), ps := t.4, pos := (0 : Nat) } a]) m → gpT (T ++ [atW { kind := (3 : Nat), text := [], num := (0 : Int), ps := t.4, pos := (0 : Nat) } a]) [m, i] = consF (prL (okT (qs37 a s)).4) (gpT T) [m, i]) next (oc8 ?_ ?_ ?_ ?_ ?_ ?_ ?_ ?_ (oc9 ?_ ?_ ?_ ?_ ?_ ?_ ?_ ?_ ?_ okn)) ?_
  all_goals clear next; try dsimp only [qs34, qs19, qs2, qs58, qs5, qs59, qs37, qs32, qs9, qs51]
  all_goals exact sc43

set_option maxHeartbeats 4000000 in
theorem rqTe (s : List UInt8) (T : List Wt) (a n b : Nat) (ha : a < s.length) (hs : s.length ≤ 4000) (hT : T.length ≤ a) (n1 : (s.getD a 0).toNat ≠ 10) (n2 : (s.getD a 0).toNat ≠ 59) (hl : ltrI ((s.getD a 0).toNat : Int) = false) (hf : figI ((s.getD a 0).toNat : Int) = false) (n3 : (s.getD a 0).toNat ≠ 45) (n4 : (s.getD a 0).toNat = 34) (h : isOkR (txR s a) = false) (h2 : erR (txR s a) = n) (h3 : n ≠ 0)  :
    (RunsTo Tryd.prog 15 (headOf Tryd.f15 0) (envAt Tryd.f15.ntmps (qs42 T a s)) (qs53 T) 80 (.tup [(false, .vl0), (false, .vi .i64 fun _ => (qs50 a)), (false, .vi .i64 fun _ => ((n : Nat) : Int))]) qs38 9000) := by
  have hw1 : IntKind.i64.wrap ((a : Int) + 1) = ((a + 1 : Nat) : Int) := by rw [wr64 (by omega)]; rfl
  have hw2 : IntKind.i64.wrap ((a : Int) + 2) = ((a + 2 : Nat) : Int) := by rw [wr64 (by omega)]; omega
  have hb0 := u8nat (s.getD a 0)
  have hm45 : ((((s.getD a 0).toNat : Nat) : Int) == 45) = false := beq_eq_false_iff_ne.2 (by omega)
  have E' := (⟨hw1, hw2, hl, hf, hm45, h, h2⟩ : _ ∧ _ ∧ _ ∧ _ ∧ _ ∧ _ ∧ _)
  refine rEn baseRQe 600 (99) 900 140 (hI 18 22965077061) ([]) [(qs34 a s), (qs2 a s), (qs58 a s), (qs2 a s), (qs59 a s), (qs2 a s), ((qs5 a s) == 59, false), (qs2 a s), (ltrI (qs5 a s), false), (qs2 a s), (figI (qs5 a s), false), (qs2 a s), ((qs5 a s) == 34, true), (decide (0 ≤ (a : Int)) && (decide ((a : Int).toNat < s.length) && (decide (s.length ≤ (10000 : Nat)) && !isOkR (qs37 a s))), true), ((↑(erR (qs37 a s)) : Int) != (0 : Int), true)] ((True ∧ (a : Int) = (a : Int) ∧ (n : Int) = (↑(erR (qs37 a s)) : Int) ∧ True) ∧ True) (oc6 ?_ ?_ ?_ ?_ ?_ ?_ (oc9 ?_ ?_ ?_ ?_ ?_ ?_ ?_ ?_ ?_ okn)) ?_
  all_goals try dsimp only [qs34, qs19, qs2, qs58, qs5, qs59, qs37]
  all_goals exact sc44

set_option maxHeartbeats 4000000 in
theorem rqUm (s : List UInt8) (T : List Wt) (a n b k : Nat) (D : List UInt8) (num : Int) (i : Nat) (ha : a < s.length) (hs : s.length ≤ 4000) (hT : T.length ≤ a) (n1 : (s.getD a 0).toNat ≠ 10) (n2 : (s.getD a 0).toNat ≠ 59) (hl : ltrI ((s.getD a 0).toNat : Int) = false) (hm : (s.getD a 0).toNat = 45) (hk : spanR figI (s.drop (a + 1)) = k) (hD : (s.take ((a + 1) + k)).drop (a + 1) = D) (hle : (a + 1) + k ≤ s.length)  (v : SV) (L' : HF) (next : (RunsTo Tryd.prog 15 (headOf Tryd.f15 1) (envAt Tryd.f15.ntmps ([(0, vS s), (qs57 T), (6, vN (a : Nat)), (7, vP 104), (8, vN (k + 1 : Nat)), (9, vN 0), (10, vN 1), (11, vN (k : Nat)), (12, vS D), (13, vN (0 : Nat))])) (Sx.look ([] ++ (wtE 102 103 T ++ [⟨104, true, none, 5, .tc (.vi .i64 fun _ => 2) (.tc (.vs fun _ => []) (.tc (.vi .i64 fun _ => 0) (.tc .vl0 (.tc (.vi .i64 fun _ => (a : Int)) .t0))))⟩]))) 80 (v) (L') 9000)) :
    (qs16 L' T a s v) := by
  have hw1 : IntKind.i64.wrap ((a : Int) + 1) = ((a + 1 : Nat) : Int) := by rw [wr64 (by omega)]; rfl
  have hw2 : IntKind.i64.wrap ((a : Int) + 2) = ((a + 2 : Nat) : Int) := by rw [wr64 (by omega)]; omega
  have hb0 := u8nat (s.getD a 0)
  have hak2 : ((a : Int) + (k : Int)).toNat = a + k := by omega
  have hpf := pf_f (s.drop (a + 1))
  have hwk : IntKind.i64.wrap ((k : Int) + 1) = ((k + 1 : Nat) : Int) := by rw [wr64 (by omega)]; rfl
  have hwe : IntKind.i64.wrap ((a : Int) + ((k + 1 : Nat) : Int)) = (((a + 1) + k : Nat) : Int) := by rw [wr64 (by omega)]; omega
  have hw0 : IntKind.i64.wrap ((a : Int) + 0) = (a : Int) := by rw [wr64 (by omega)]; omega
  have hf : figI ((s.getD a 0).toNat : Int) = false := by rw [hm]; decide
  have hm45 : ((((s.getD a 0).toNat : Nat) : Int) == 45) = true := by rw [hm]; rfl
  have E' := (⟨hw1, hw2, hl, hpf, hk, hwk, hwe, hw0, hm45, hD, hf, hak2⟩ : _ ∧ _ ∧ _ ∧ _ ∧ _ ∧ _ ∧ _ ∧ _ ∧ _ ∧ _ ∧ _ ∧ _)
  refine rMo baseRQo 600 (behind Tryd.f15 1) 900 140 (hI 17 5852316757) ([((104 : Nat), Rn.to (140 : Nat))]) [(qs34 a s), (qs2 a s), ((qs5 a s) == 45, true), (qs2 a s), (qs59 a s), (qs2 a s), ((qs5 a s) == 59, false), (qs2 a s), (ltrI (qs5 a s), false), (qs2 a s), (figI (qs5 a s), false), (qs24 a s), (decide (0 ≤ IntKind.i64.wrap (qs43 a s) ∧ IntKind.i64.wrap (qs43 a s) ≤ (qs19 s)), true), (decide (0 ≤ IntKind.i64.wrap ((a : Int) + 1) ∧ IntKind.i64.wrap ((a : Int) + 1) ≤ IntKind.i64.wrap (qs43 a s)), true)] ((s = s ∧ (qs47 T) ∧ (a : Int) = (a : Int) ∧ 0 = 0 ∧ (↑(k + (1 : Nat)) : Int) = IntKind.i64.wrap ((qs20 a s) + 1) ∧ (0 : Int) = (0 : Int) ∧ (1 : Int) = (1 : Int) ∧ (k : Int) = (qs20 a s) ∧ D = List.drop (qs41 a).toNat (List.take (IntKind.i64.wrap (qs43 a s)).toNat s) ∧ (↑(0 : Nat) : Int) = (0 : Int)) ∧ (qs6 T) ∧ (qs15 T) ∧ (2 : Int) = (2 : Int) ∧ ([] : List UInt8) = [] ∧ (0 : Int) = (0 : Int) ∧ True ∧ (a : Int) = (a : Int)) next (oc5 ?_ ?_ ?_ ?_ ?_ (oc9 ?_ ?_ ?_ ?_ ?_ ?_ ?_ ?_ ?_ okn)) ?_
  all_goals clear next; try dsimp only [qs34, qs19, qs2, qs5, qs59, qs24, qs41, qs43, qs20, qs47, qs6, qs15]
  all_goals exact sc44

set_option maxHeartbeats 4000000 in
theorem rqULm (s : List UInt8) (T : List Wt) (a n b k : Nat) (D : List UInt8) (num : Int) (i : Nat) (ha : a < s.length) (hs : s.length ≤ 4000) (hT : T.length ≤ a) (hi : i < k) (hnum : 0 ≤ num ∧ num ≤ 100000000000) (hle : (a + 1) + k ≤ s.length) (h9 : 9 < k)  :
    (RunsTo Tryd.prog 15 (headOf Tryd.f15 1) (envAt Tryd.f15.ntmps (qs10 D T a i k s)) (Sx.look ([] ++ (wtE 102 103 T ++ [⟨104, true, none, 5, .tc (.vi .i64 fun _ => 2) (.tc (.vs fun _ => []) (.tc (.vi .i64 fun _ => num) (.tc .vl0 (.tc (.vi .i64 fun _ => (a : Int)) .t0))))⟩]))) 80 (.tup [(false, .vl0), (false, .vi .i64 fun _ => (qs50 a)), (false, .vi .i64 fun _ => (4 : Int))]) qs38 9000) := by
  have hw1 : IntKind.i64.wrap ((a : Int) + 1) = ((a + 1 : Nat) : Int) := by rw [wr64 (by omega)]; rfl
  have hw2 : IntKind.i64.wrap ((a : Int) + 2) = ((a + 2 : Nat) : Int) := by rw [wr64 (by omega)]; omega
  have hb0 := u8nat (s.getD a 0)
  have hwn : IntKind.i64.wrap ((a : Int) + ((k + 1 : Nat) : Int)) = (((a + 1) + k : Nat) : Int) := by rw [wr64 (by omega)]; omega
  have hz1 : IntKind.i64.wrap (0 - num) = 0 - num := wr64 (by omega)
  have hwk0 : IntKind.i64.wrap ((a : Int) + (k : Int)) = ((a + k : Nat) : Int) := by rw [wr64 (by omega)]; rfl
  have hk00 : k + 0 = k := rfl
  have E' := (⟨hw1, hw2, hwn, hz1, hwk0⟩ : _ ∧ _ ∧ _ ∧ _ ∧ _)
  refine rEn baseRQo 600 (99) 900 140 (hI 5 881) ([]) [(qs55 i k), (decide ((k : Int) < 10), false), (decide ((k : Int) > 9), true)] (qs36 a) (oc3 ?_ ?_ ?_ okn) ?_
  all_goals try dsimp only [qs55, qs36]
  all_goals exact sc45

set_option maxHeartbeats 4000000 in
theorem rqU0m (s : List UInt8) (T : List Wt) (a n b k : Nat) (D : List UInt8) (num : Int) (i : Nat) (ha : a < s.length) (hs : s.length ≤ 4000) (hT : T.length ≤ a) (hi : i = k) (hnum : 0 ≤ num ∧ num ≤ 100000000000) (hle : (a + 1) + k ≤ s.length) (h0 : k = 0)  :
    (RunsTo Tryd.prog 15 (headOf Tryd.f15 1) (envAt Tryd.f15.ntmps (qs10 D T a i k s)) (Sx.look ([] ++ (wtE 102 103 T ++ [⟨104, true, none, 5, .tc (.vi .i64 fun _ => 2) (.tc (.vs fun _ => []) (.tc (.vi .i64 fun _ => num) (.tc .vl0 (.tc (.vi .i64 fun _ => (a : Int)) .t0))))⟩]))) 80 (.tup [(false, .vl0), (false, .vi .i64 fun _ => (qs50 a)), (false, .vi .i64 fun _ => (5 : Int))]) qs38 9000) := by
  have hw1 : IntKind.i64.wrap ((a : Int) + 1) = ((a + 1 : Nat) : Int) := by rw [wr64 (by omega)]; rfl
  have hw2 : IntKind.i64.wrap ((a : Int) + 2) = ((a + 2 : Nat) : Int) := by rw [wr64 (by omega)]; omega
  have hb0 := u8nat (s.getD a 0)
  have hwn : IntKind.i64.wrap ((a : Int) + ((k + 1 : Nat) : Int)) = (((a + 1) + k : Nat) : Int) := by rw [wr64 (by omega)]; omega
  have hz1 : IntKind.i64.wrap (0 - num) = 0 - num := wr64 (by omega)
  have hwk0 : IntKind.i64.wrap ((a : Int) + (k : Int)) = ((a + k : Nat) : Int) := by rw [wr64 (by omega)]; rfl
  have hk00 : k + 0 = k := rfl
  have E' := (⟨hw1, hw2, hwn, hz1, hwk0⟩ : _ ∧ _ ∧ _ ∧ _ ∧ _)
  refine rEn baseRQo 600 (99) 900 140 (hI 5 844) ([]) [(qs25 i k), (qs28 k), ((k : Int) == 0, true)] (qs22 a) (oc3 ?_ ?_ ?_ okn) ?_
  all_goals try dsimp only [qs25, qs28, qs22]
  all_goals exact sc45

set_option maxHeartbeats 4000000 in
theorem rqUFm (s : List UInt8) (T : List Wt) (a n b k : Nat) (D : List UInt8) (num : Int) (i : Nat) (ha : a < s.length) (hs : s.length ≤ 4000) (hT : T.length ≤ a) (hi : i = k) (hnum : 0 ≤ num ∧ num ≤ 100000000000) (hle : (a + 1) + k ≤ s.length) (h9 : k ≤ 9) (h0 : 0 < k) (hF : figS (0 - num) ≠ (s.take ((a + 1) + k)).drop a)  :
    (RunsTo Tryd.prog 15 (headOf Tryd.f15 1) (envAt Tryd.f15.ntmps (qs10 D T a i k s)) (Sx.look ([] ++ (wtE 102 103 T ++ [⟨104, true, none, 5, .tc (.vi .i64 fun _ => 2) (.tc (.vs fun _ => []) (.tc (.vi .i64 fun _ => num) (.tc .vl0 (.tc (.vi .i64 fun _ => (a : Int)) .t0))))⟩]))) 80 (.tup [(false, .vl0), (false, .vi .i64 fun _ => (qs50 a)), (false, .vi .i64 fun _ => (5 : Int))]) qs38 9000) := by
  have hw1 : IntKind.i64.wrap ((a : Int) + 1) = ((a + 1 : Nat) : Int) := by rw [wr64 (by omega)]; rfl
  have hw2 : IntKind.i64.wrap ((a : Int) + 2) = ((a + 2 : Nat) : Int) := by rw [wr64 (by omega)]; omega
  have hb0 := u8nat (s.getD a 0)
  have hwn : IntKind.i64.wrap ((a : Int) + ((k + 1 : Nat) : Int)) = (((a + 1) + k : Nat) : Int) := by rw [wr64 (by omega)]; omega
  have hz1 : IntKind.i64.wrap (0 - num) = 0 - num := wr64 (by omega)
  have hwk0 : IntKind.i64.wrap ((a : Int) + (k : Int)) = ((a + k : Nat) : Int) := by rw [wr64 (by omega)]; rfl
  have hk00 : k + 0 = k := rfl
  have hFb : (figS (0 - num) == (s.take ((a + 1) + k)).drop a) = false := beq_eq_false_iff_ne.2 hF
  have E' := (⟨hw1, hw2, hwn, hz1, hwk0, hFb⟩ : _ ∧ _ ∧ _ ∧ _ ∧ _ ∧ _)
  refine rEn baseRQo 600 (99) 900 140 (hI 9 218380) ([]) [(qs25 i k), (qs28 k), (qs40 k), (qs18 num), (qs26 a k s), (qs30 a k), (!figS (IntKind.i64.wrap ((0 : Int) - num)) == List.drop (a : Int).toNat (List.take (qs39 a k).toNat s), true)] (qs22 a) (oc7 ?_ ?_ ?_ ?_ ?_ ?_ ?_ okn) ?_
  all_goals try dsimp only [qs25, qs28, qs40, qs18, qs26, qs7, qs19, qs30, qs39, qs22]
  all_goals exact sc45

set_option maxHeartbeats 4000000 in
theorem rqUGm (s : List UInt8) (T : List Wt) (a n b k : Nat) (D : List UInt8) (num : Int) (i : Nat) (ha : a < s.length) (hs : s.length ≤ 4000) (hT : T.length ≤ a) (hi : i = k) (hnum : 0 ≤ num ∧ num ≤ 100000000000) (hle : (a + 1) + k ≤ s.length) (h9 : k ≤ 9) (h0 : 0 < k) (hF : figS (0 - num) = (s.take ((a + 1) + k)).drop a) (h1 : (a + 1) + k < s.length) (h2 : ltrI ((s.getD ((a + 1) + k) 0).toNat : Int) = true)  :
    (RunsTo Tryd.prog 15 (headOf Tryd.f15 1) (envAt Tryd.f15.ntmps (qs10 D T a i k s)) (Sx.look ([] ++ (wtE 102 103 T ++ [⟨104, true, none, 5, .tc (.vi .i64 fun _ => 2) (.tc (.vs fun _ => []) (.tc (.vi .i64 fun _ => num) (.tc .vl0 (.tc (.vi .i64 fun _ => (a : Int)) .t0))))⟩]))) 80 (.tup [(false, .vl0), (false, .vi .i64 fun _ => (qs50 a)), (false, .vi .i64 fun _ => (5 : Int))]) qs38 9000) := by
  have hw1 : IntKind.i64.wrap ((a : Int) + 1) = ((a + 1 : Nat) : Int) := by rw [wr64 (by omega)]; rfl
  have hw2 : IntKind.i64.wrap ((a : Int) + 2) = ((a + 2 : Nat) : Int) := by rw [wr64 (by omega)]; omega
  have hb0 := u8nat (s.getD a 0)
  have hwn : IntKind.i64.wrap ((a : Int) + ((k + 1 : Nat) : Int)) = (((a + 1) + k : Nat) : Int) := by rw [wr64 (by omega)]; omega
  have hz1 : IntKind.i64.wrap (0 - num) = 0 - num := wr64 (by omega)
  have hwk0 : IntKind.i64.wrap ((a : Int) + (k : Int)) = ((a + k : Nat) : Int) := by rw [wr64 (by omega)]; rfl
  have hk00 : k + 0 = k := rfl
  have E' := (⟨hw1, hw2, hwn, hz1, hwk0, hF, h2⟩ : _ ∧ _ ∧ _ ∧ _ ∧ _ ∧ _ ∧ _)
  refine rEn baseRQo 600 (99) 900 140 (hI 13 58004748) ([]) [(qs25 i k), (qs28 k), (qs40 k), (qs18 num), (qs26 a k s), (qs30 a k), (qs33 a k num s), (decide (IntKind.i64.wrap (qs7 a k) < (qs19 s)), true), (decide (0 ≤ IntKind.i64.wrap (qs7 a k) ∧ IntKind.i64.wrap (qs7 a k) < (qs19 s)), true), (ltrI (↑(s.getD (qs39 a k).toNat (0 : UInt8)).toNat : Int), true)] (qs22 a) (oc1 ?_ (oc9 ?_ ?_ ?_ ?_ ?_ ?_ ?_ ?_ ?_ okn)) ?_
  all_goals try dsimp only [qs25, qs28, qs40, qs18, qs26, qs7, qs19, qs30, qs33, qs39, qs22]
  all_goals exact sc45

set_option maxHeartbeats 4000000 in
theorem rqUOm (s : List UInt8) (T : List Wt) (a n b k : Nat) (D : List UInt8) (num : Int) (i : Nat) (ha : a < s.length) (hs : s.length ≤ 4000) (hT : T.length ≤ a) (hi : i = k) (hnum : 0 ≤ num ∧ num ≤ 100000000000) (hle : (a + 1) + k ≤ s.length) (h9 : k ≤ 9) (h0 : 0 < k) (hF : figS (0 - num) = (s.take ((a + 1) + k)).drop a) (h2 : (a + 1) + k < s.length → ltrI ((s.getD ((a + 1) + k) 0).toNat : Int) = false) (hn : k + 1 = n) (hb : (a + 1) + k + gapR false (s.drop ((a + 1) + k)) = b)  (v : SV) (L' : HF) (next : (RunsTo Tryd.prog 15 (headOf Tryd.f15 0) (envAt Tryd.f15.ntmps ([(0, vS s), (5, vL 102 5 (T ++ [mkW 2 [] (0 - num) a]).length), (6, vN (b : Nat))])) (Sx.look ([] ++ (wtE 102 103 (T ++ [mkW 2 [] (0 - num) a])))) 80 (v) (L') 9000)) :
    (RunsTo Tryd.prog 15 (headOf Tryd.f15 1) (envAt Tryd.f15.ntmps (qs10 D T a i k s)) (Sx.look ([] ++ (wtE 102 103 T ++ [⟨104, true, none, 5, .tc (.vi .i64 fun _ => 2) (.tc (.vs fun _ => []) (.tc (.vi .i64 fun _ => num) (.tc .vl0 (.tc (.vi .i64 fun _ => (a : Int)) .t0))))⟩]))) 80 (v) (L') 9000) := by
  have hw1 : IntKind.i64.wrap ((a : Int) + 1) = ((a + 1 : Nat) : Int) := by rw [wr64 (by omega)]; rfl
  have hw2 : IntKind.i64.wrap ((a : Int) + 2) = ((a + 2 : Nat) : Int) := by rw [wr64 (by omega)]; omega
  have hb0 := u8nat (s.getD a 0)
  have hwn : IntKind.i64.wrap ((a : Int) + ((k + 1 : Nat) : Int)) = (((a + 1) + k : Nat) : Int) := by rw [wr64 (by omega)]; omega
  have hz1 : IntKind.i64.wrap (0 - num) = 0 - num := wr64 (by omega)
  have hwk0 : IntKind.i64.wrap ((a : Int) + (k : Int)) = ((a + k : Nat) : Int) := by rw [wr64 (by omega)]; rfl
  have hk00 : k + 0 = k := rfl
  have E' := (⟨hw1, hw2, hwn, hz1, hwk0, hF, hb⟩ : _ ∧ _ ∧ _ ∧ _ ∧ _ ∧ _ ∧ _)
  refine bcase (fun gg0 => (rMo baseRQo 600 (behind Tryd.f15 0) 900 140 (hI 14 91755788) ([((102 : Nat), Rn.to (182 : Nat)), ((103 : Nat), Rn.to (181 : Nat))]) [(qs25 i k), (qs28 k), (qs40 k), (qs18 num), (qs26 a k s), (qs30 a k), (qs33 a k num s), (decide (IntKind.i64.wrap (qs7 a k) < (qs19 s)), false), (qs32 T), (qs9 T), (qs45 a k s)] (qs1 T a b k num s) next (oc2 ?_ ?_ (oc9 ?_ ?_ ?_ ?_ ?_ gg0 ?_ ?_ ?_ okn)) ?_)) fun gg0 => (rMo baseRQo 600 (behind Tryd.f15 0) 900 140 (hI 17 5875504396) ([((102 : Nat), Rn.to (192 : Nat)), ((103 : Nat), Rn.to (191 : Nat))]) [(qs25 i k), (qs28 k), (qs40 k), (qs18 num), (qs26 a k s), (qs30 a k), (qs33 a k num s), (decide (IntKind.i64.wrap (qs7 a k) < (qs19 s)), true), (decide (0 ≤ IntKind.i64.wrap (qs7 a k) ∧ IntKind.i64.wrap (qs7 a k) < (qs19 s)), true), (ltrI (↑(s.getD (qs39 a k).toNat (0 : UInt8)).toNat : Int), false), (qs32 T), (qs9 T), (qs45 a k s)] (qs1 T a b k num s) next (oc4 ?_ ?_ ?_ ?_ (oc9 ?_ ?_ ?_ gg0 ?_ ?_ ?_ ?_ ?_ okn)) ?_)
  all_goals clear next; try dsimp only [qs25, qs28, qs40, qs18, qs26, qs7, qs19, qs30, qs33, qs39, qs32, qs9, qs45, qs1, qs14] at *
  all_goals exact sc46

set_option maxHeartbeats 4000000 in
theorem rqRm (s : List UInt8) (T : List Wt) (a n b k : Nat) (D : List UInt8) (num : Int) (i : Nat) (ha : a < s.length) (hs : s.length ≤ 4000) (hT : T.length ≤ a) (hi : i < k) (hi2 : k < 10) (hDl : D.length = k) (hk : k ≤ 4000) (hnum : 0 ≤ num ∧ num ≤ 10000000000) (hd : 48 ≤ (D.getD i 0).toNat ∧ (D.getD i 0).toNat ≤ 57)  (v : SV) (L' : HF) (next : (RunsTo Tryd.prog 15 (headOf Tryd.f15 1) (envAt Tryd.f15.ntmps ([(0, vS s), (qs57 T), (6, vN (a : Nat)), (7, vP 104), (8, vN (k + 1 : Nat)), (9, vN 0), (10, vN 1), (11, vN (k : Nat)), (12, vS D), (13, vN (i + 1 : Nat))])) (Sx.look ([] ++ (wtE 102 103 T ++ [⟨104, true, none, 5, .tc (.vi .i64 fun _ => 2) (.tc (.vs fun _ => []) (.tc (.vi .i64 fun _ => (10 * num + (((D.getD i 0).toNat : Int) - 48))) (.tc .vl0 (.tc (.vi .i64 fun _ => (a : Int)) .t0))))⟩]))) 80 (v) (L') 9000)) :
    (RunsTo Tryd.prog 15 (headOf Tryd.f15 1) (envAt Tryd.f15.ntmps (qs10 D T a i k s)) (Sx.look ([] ++ (wtE 102 103 T ++ [⟨104, true, none, 5, .tc (.vi .i64 fun _ => 2) (.tc (.vs fun _ => []) (.tc (.vi .i64 fun _ => num) (.tc .vl0 (.tc (.vi .i64 fun _ => (a : Int)) .t0))))⟩]))) 80 (v) (L') 9000) := by
  have hw : IntKind.i64.wrap ((i : Int) + 1) = ((i + 1 : Nat) : Int) := by rw [wr64 (by omega)]; rfl
  have h1 : IntKind.i64.wrap (10 * num) = 10 * num := wr64 (by omega)
  have h2 : IntKind.u8.wrap (((D.getD i 0).toNat : Int) - 48) = ((D.getD i 0).toNat : Int) - 48 := u8id (by omega)
  have h3 : IntKind.i64.wrap (((D.getD i 0).toNat : Int) - 48) = ((D.getD i 0).toNat : Int) - 48 := wr64 (by omega)
  have h4 : IntKind.i64.wrap (10 * num + (((D.getD i 0).toNat : Int) - 48)) = 10 * num + (((D.getD i 0).toNat : Int) - 48) := wr64 (by omega)
  have E' := (⟨hw, h1, h2, h3, h4⟩ : _ ∧ _ ∧ _ ∧ _ ∧ _)
  refine rMo baseRQo 600 (behind Tryd.f15 1) 900 140 (hI 3 21) ([]) [(qs55 i k), (decide ((k : Int) < 10), true), (decide (0 ≤ (i : Int) ∧ (i : Int) < (↑D.length : Int)), true)] ((s = s ∧ (qs47 T) ∧ (a : Int) = (a : Int) ∧ 0 = 0 ∧ (↑(k + (1 : Nat)) : Int) = (↑(k + (1 : Nat)) : Int) ∧ (0 : Int) = (0 : Int) ∧ (1 : Int) = (1 : Int) ∧ (k : Int) = (k : Int) ∧ D = D ∧ (↑(i + (1 : Nat)) : Int) = IntKind.i64.wrap ((i : Int) + 1)) ∧ (qs6 T) ∧ (qs15 T) ∧ (2 : Int) = (2 : Int) ∧ ([] : List UInt8) = [] ∧ (10 : Int) * num + ((↑(D.getD i (0 : UInt8)).toNat : Int) - 48) = IntKind.i64.wrap (qs49 D i num) ∧ True ∧ (a : Int) = (a : Int)) next (oc3 ?_ ?_ ?_ okn) ?_
  all_goals clear next; try dsimp only [qs55, qs47, qs6, qs15, qs49]
  all_goals exact sc24

set_option maxHeartbeats 4000000 in
theorem rqUp (s : List UInt8) (T : List Wt) (a n b k : Nat) (D : List UInt8) (num : Int) (i : Nat) (ha : a < s.length) (hs : s.length ≤ 4000) (hT : T.length ≤ a) (n1 : (s.getD a 0).toNat ≠ 10) (n2 : (s.getD a 0).toNat ≠ 59) (hl : ltrI ((s.getD a 0).toNat : Int) = false) (hm : (s.getD a 0).toNat ≠ 45) (hf : figI ((s.getD a 0).toNat : Int) = true) (hk : spanR figI (s.drop a) = k) (hD : (s.take (a + k)).drop a = D) (hle : a + k ≤ s.length)  (v : SV) (L' : HF) (next : (RunsTo Tryd.prog 15 (headOf Tryd.f15 1) (envAt Tryd.f15.ntmps ([(0, vS s), (qs57 T), (6, vN (a : Nat)), (7, vP 104), (8, vN (k + 0 : Nat)), (9, vN 0), (10, vN 0), (11, vN (k : Nat)), (12, vS D), (13, vN (0 : Nat))])) (Sx.look ([] ++ (wtE 102 103 T ++ [⟨104, true, none, 5, .tc (.vi .i64 fun _ => 2) (.tc (.vs fun _ => []) (.tc (.vi .i64 fun _ => 0) (.tc .vl0 (.tc (.vi .i64 fun _ => (a : Int)) .t0))))⟩]))) 80 (v) (L') 9000)) :
    (qs16 L' T a s v) := by
  have hw1 : IntKind.i64.wrap ((a : Int) + 1) = ((a + 1 : Nat) : Int) := by rw [wr64 (by omega)]; rfl
  have hw2 : IntKind.i64.wrap ((a : Int) + 2) = ((a + 2 : Nat) : Int) := by rw [wr64 (by omega)]; omega
  have hb0 := u8nat (s.getD a 0)
  have hak2 : ((a : Int) + (k : Int)).toNat = a + k := by omega
  have hpf := pf_f (s.drop a)
  have hwk : IntKind.i64.wrap ((k : Int) + 0) = ((k + 0 : Nat) : Int) := by rw [wr64 (by omega)]; rfl
  have hwe : IntKind.i64.wrap ((a : Int) + ((k + 0 : Nat) : Int)) = ((a + k : Nat) : Int) := by rw [wr64 (by omega)]; omega
  have hw0 : IntKind.i64.wrap ((a : Int) + 0) = (a : Int) := by rw [wr64 (by omega)]; omega
  have hm45 : ((((s.getD a 0).toNat : Nat) : Int) == 45) = false := beq_eq_false_iff_ne.2 (by omega)
  have E' := (⟨hw1, hw2, hl, hpf, hk, hwk, hwe, hw0, hm45, hD, hf, hak2⟩ : _ ∧ _ ∧ _ ∧ _ ∧ _ ∧ _ ∧ _ ∧ _ ∧ _ ∧ _ ∧ _ ∧ _)
  refine rMo baseRQo 600 (behind Tryd.f15 1) 900 140 (hI 16 1439908933) ([((104 : Nat), Rn.to (140 : Nat))]) [(qs34 a s), (qs2 a s), (qs58 a s), (qs2 a s), (qs59 a s), (qs2 a s), ((qs5 a s) == 59, false), (qs2 a s), (ltrI (qs5 a s), false), (qs2 a s), (figI (qs5 a s), true), (decide (0 ≤ IntKind.i64.wrap ((a : Int) + 0)) && (decide ((IntKind.i64.wrap ((a : Int) + 0)).toNat ≤ s.length) && decide (s.length ≤ (100000 : Nat))), true), (decide (0 ≤ IntKind.i64.wrap (qs44 a s) ∧ IntKind.i64.wrap (qs44 a s) ≤ (qs19 s)), true), (decide (0 ≤ IntKind.i64.wrap ((a : Int) + 0) ∧ IntKind.i64.wrap ((a : Int) + 0) ≤ IntKind.i64.wrap (qs44 a s)), true)] ((s = s ∧ (qs47 T) ∧ (a : Int) = (a : Int) ∧ 0 = 0 ∧ (↑(k + (0 : Nat)) : Int) = IntKind.i64.wrap ((qs21 a s) + 0) ∧ (0 : Int) = (0 : Int) ∧ (0 : Int) = (0 : Int) ∧ (k : Int) = (qs21 a s) ∧ D = List.drop (IntKind.i64.wrap ((a : Int) + 0)).toNat (List.take (IntKind.i64.wrap (qs44 a s)).toNat s) ∧ (↑(0 : Nat) : Int) = (0 : Int)) ∧ (qs6 T) ∧ (qs15 T) ∧ (2 : Int) = (2 : Int) ∧ ([] : List UInt8) = [] ∧ (0 : Int) = (0 : Int) ∧ True ∧ (a : Int) = (a : Int)) next (oc5 ?_ ?_ ?_ ?_ ?_ (oc9 ?_ ?_ ?_ ?_ ?_ ?_ ?_ ?_ ?_ okn)) ?_
  all_goals clear next; try dsimp only [qs34, qs19, qs2, qs58, qs5, qs59, qs44, qs21, qs47, qs6, qs15]
  all_goals exact sc44

set_option maxHeartbeats 4000000 in
theorem rqULp (s : List UInt8) (T : List Wt) (a n b k : Nat) (D : List UInt8) (num : Int) (i : Nat) (ha : a < s.length) (hs : s.length ≤ 4000) (hT : T.length ≤ a) (hi : i < k) (hnum : 0 ≤ num ∧ num ≤ 100000000000) (hle : a + k ≤ s.length) (h9 : 9 < k)  :
    (RunsTo Tryd.prog 15 (headOf Tryd.f15 1) (envAt Tryd.f15.ntmps (qs11 D T a i k s)) (Sx.look ([] ++ (wtE 102 103 T ++ [⟨104, true, none, 5, .tc (.vi .i64 fun _ => 2) (.tc (.vs fun _ => []) (.tc (.vi .i64 fun _ => num) (.tc .vl0 (.tc (.vi .i64 fun _ => (a : Int)) .t0))))⟩]))) 80 (.tup [(false, .vl0), (false, .vi .i64 fun _ => (qs50 a)), (false, .vi .i64 fun _ => (4 : Int))]) qs38 9000) := by
  have hw1 : IntKind.i64.wrap ((a : Int) + 1) = ((a + 1 : Nat) : Int) := by rw [wr64 (by omega)]; rfl
  have hw2 : IntKind.i64.wrap ((a : Int) + 2) = ((a + 2 : Nat) : Int) := by rw [wr64 (by omega)]; omega
  have hb0 := u8nat (s.getD a 0)
  have hwn : IntKind.i64.wrap ((a : Int) + ((k + 0 : Nat) : Int)) = ((a + k : Nat) : Int) := by rw [wr64 (by omega)]; omega
  have hz1 : IntKind.i64.wrap (0 - num) = 0 - num := wr64 (by omega)
  have hwk0 : IntKind.i64.wrap ((a : Int) + (k : Int)) = ((a + k : Nat) : Int) := by rw [wr64 (by omega)]; rfl
  have hk00 : k + 0 = k := rfl
  have E' := (⟨hw1, hw2, hwn, hz1, hwk0⟩ : _ ∧ _ ∧ _ ∧ _ ∧ _)
  refine rEn baseRQo 600 (99) 900 140 (hI 5 865) ([]) [(qs55 i k), (decide ((k : Int) < 10), false), (decide ((k : Int) > 9), true)] (qs36 a) (oc3 ?_ ?_ ?_ okn) ?_
  all_goals try dsimp only [qs55, qs36]
  all_goals exact sc45

set_option maxHeartbeats 4000000 in
theorem rqU0p (s : List UInt8) (T : List Wt) (a n b k : Nat) (D : List UInt8) (num : Int) (i : Nat) (ha : a < s.length) (hs : s.length ≤ 4000) (hT : T.length ≤ a) (hi : i = k) (hnum : 0 ≤ num ∧ num ≤ 100000000000) (hle : a + k ≤ s.length) (h0 : k = 0)  :
    (RunsTo Tryd.prog 15 (headOf Tryd.f15 1) (envAt Tryd.f15.ntmps (qs11 D T a i k s)) (Sx.look ([] ++ (wtE 102 103 T ++ [⟨104, true, none, 5, .tc (.vi .i64 fun _ => 2) (.tc (.vs fun _ => []) (.tc (.vi .i64 fun _ => num) (.tc .vl0 (.tc (.vi .i64 fun _ => (a : Int)) .t0))))⟩]))) 80 (.tup [(false, .vl0), (false, .vi .i64 fun _ => (qs50 a)), (false, .vi .i64 fun _ => (5 : Int))]) qs38 9000) := by
  have hw1 : IntKind.i64.wrap ((a : Int) + 1) = ((a + 1 : Nat) : Int) := by rw [wr64 (by omega)]; rfl
  have hw2 : IntKind.i64.wrap ((a : Int) + 2) = ((a + 2 : Nat) : Int) := by rw [wr64 (by omega)]; omega
  have hb0 := u8nat (s.getD a 0)
  have hwn : IntKind.i64.wrap ((a : Int) + ((k + 0 : Nat) : Int)) = ((a + k : Nat) : Int) := by rw [wr64 (by omega)]; omega
  have hz1 : IntKind.i64.wrap (0 - num) = 0 - num := wr64 (by omega)
  have hwk0 : IntKind.i64.wrap ((a : Int) + (k : Int)) = ((a + k : Nat) : Int) := by rw [wr64 (by omega)]; rfl
  have hk00 : k + 0 = k := rfl
  have E' := (⟨hw1, hw2, hwn, hz1, hwk0⟩ : _ ∧ _ ∧ _ ∧ _ ∧ _)
  refine rEn baseRQo 600 (99) 900 140 (hI 5 840) ([]) [(qs25 i k), (qs28 k), ((k : Int) == 0, true)] (qs22 a) (oc3 ?_ ?_ ?_ okn) ?_
  all_goals try dsimp only [qs25, qs28, qs22]
  all_goals exact sc45

set_option maxHeartbeats 4000000 in
theorem rqUFp (s : List UInt8) (T : List Wt) (a n b k : Nat) (D : List UInt8) (num : Int) (i : Nat) (ha : a < s.length) (hs : s.length ≤ 4000) (hT : T.length ≤ a) (hi : i = k) (hnum : 0 ≤ num ∧ num ≤ 100000000000) (hle : a + k ≤ s.length) (h9 : k ≤ 9) (h0 : 0 < k) (hF : figS num ≠ (s.take (a + k)).drop a)  :
    (RunsTo Tryd.prog 15 (headOf Tryd.f15 1) (envAt Tryd.f15.ntmps (qs11 D T a i k s)) (Sx.look ([] ++ (wtE 102 103 T ++ [⟨104, true, none, 5, .tc (.vi .i64 fun _ => 2) (.tc (.vs fun _ => []) (.tc (.vi .i64 fun _ => num) (.tc .vl0 (.tc (.vi .i64 fun _ => (a : Int)) .t0))))⟩]))) 80 (.tup [(false, .vl0), (false, .vi .i64 fun _ => (qs50 a)), (false, .vi .i64 fun _ => (5 : Int))]) qs38 9000) := by
  have hw1 : IntKind.i64.wrap ((a : Int) + 1) = ((a + 1 : Nat) : Int) := by rw [wr64 (by omega)]; rfl
  have hw2 : IntKind.i64.wrap ((a : Int) + 2) = ((a + 2 : Nat) : Int) := by rw [wr64 (by omega)]; omega
  have hb0 := u8nat (s.getD a 0)
  have hwn : IntKind.i64.wrap ((a : Int) + ((k + 0 : Nat) : Int)) = ((a + k : Nat) : Int) := by rw [wr64 (by omega)]; omega
  have hz1 : IntKind.i64.wrap (0 - num) = 0 - num := wr64 (by omega)
  have hwk0 : IntKind.i64.wrap ((a : Int) + (k : Int)) = ((a + k : Nat) : Int) := by rw [wr64 (by omega)]; rfl
  have hk00 : k + 0 = k := rfl
  have hFb : (figS num == (s.take (a + k)).drop a) = false := beq_eq_false_iff_ne.2 hF
  have E' := (⟨hw1, hw2, hwn, hz1, hwk0, hFb⟩ : _ ∧ _ ∧ _ ∧ _ ∧ _ ∧ _)
  refine rEn baseRQo 600 (99) 900 140 (hI 9 218376) ([]) [(qs25 i k), (qs28 k), (qs40 k), (qs29 num), (qs27 a k s), (qs31 a k), (!figS num == List.drop (a : Int).toNat (List.take (qs35 a k).toNat s), true)] (qs22 a) (oc7 ?_ ?_ ?_ ?_ ?_ ?_ ?_ okn) ?_
  all_goals try dsimp only [qs25, qs28, qs40, qs29, qs27, qs8, qs19, qs31, qs35, qs22]
  all_goals exact sc45

set_option maxHeartbeats 4000000 in
theorem rqUGp (s : List UInt8) (T : List Wt) (a n b k : Nat) (D : List UInt8) (num : Int) (i : Nat) (ha : a < s.length) (hs : s.length ≤ 4000) (hT : T.length ≤ a) (hi : i = k) (hnum : 0 ≤ num ∧ num ≤ 100000000000) (hle : a + k ≤ s.length) (h9 : k ≤ 9) (h0 : 0 < k) (hF : figS num = (s.take (a + k)).drop a) (h1 : a + k < s.length) (h2 : ltrI ((s.getD (a + k) 0).toNat : Int) = true)  :
    (RunsTo Tryd.prog 15 (headOf Tryd.f15 1) (envAt Tryd.f15.ntmps (qs11 D T a i k s)) (Sx.look ([] ++ (wtE 102 103 T ++ [⟨104, true, none, 5, .tc (.vi .i64 fun _ => 2) (.tc (.vs fun _ => []) (.tc (.vi .i64 fun _ => num) (.tc .vl0 (.tc (.vi .i64 fun _ => (a : Int)) .t0))))⟩]))) 80 (.tup [(false, .vl0), (false, .vi .i64 fun _ => (qs50 a)), (false, .vi .i64 fun _ => (5 : Int))]) qs38 9000) := by
  have hw1 : IntKind.i64.wrap ((a : Int) + 1) = ((a + 1 : Nat) : Int) := by rw [wr64 (by omega)]; rfl
  have hw2 : IntKind.i64.wrap ((a : Int) + 2) = ((a + 2 : Nat) : Int) := by rw [wr64 (by omega)]; omega
  have hb0 := u8nat (s.getD a 0)
  have hwn : IntKind.i64.wrap ((a : Int) + ((k + 0 : Nat) : Int)) = ((a + k : Nat) : Int) := by rw [wr64 (by omega)]; omega
  have hz1 : IntKind.i64.wrap (0 - num) = 0 - num := wr64 (by omega)
  have hwk0 : IntKind.i64.wrap ((a : Int) + (k : Int)) = ((a + k : Nat) : Int) := by rw [wr64 (by omega)]; rfl
  have hk00 : k + 0 = k := rfl
  have E' := (⟨hw1, hw2, hwn, hz1, hwk0, hF, h2⟩ : _ ∧ _ ∧ _ ∧ _ ∧ _ ∧ _ ∧ _)
  refine rEn baseRQo 600 (99) 900 140 (hI 13 58004744) ([]) [(qs25 i k), (qs28 k), (qs40 k), (qs29 num), (qs27 a k s), (qs31 a k), (qs54 a k num s), (decide (IntKind.i64.wrap (qs8 a k) < (qs19 s)), true), (decide (0 ≤ IntKind.i64.wrap (qs8 a k) ∧ IntKind.i64.wrap (qs8 a k) < (qs19 s)), true), (ltrI (↑(s.getD (qs35 a k).toNat (0 : UInt8)).toNat : Int), true)] (qs22 a) (oc1 ?_ (oc9 ?_ ?_ ?_ ?_ ?_ ?_ ?_ ?_ ?_ okn)) ?_
  all_goals try dsimp only [qs25, qs28, qs40, qs29, qs27, qs8, qs19, qs31, qs54, qs35, qs22]
  all_goals exact sc45

set_option maxHeartbeats 4000000 in
theorem rqUOp (s : List UInt8) (T : List Wt) (a n b k : Nat) (D : List UInt8) (num : Int) (i : Nat) (ha : a < s.length) (hs : s.length ≤ 4000) (hT : T.length ≤ a) (hi : i = k) (hnum : 0 ≤ num ∧ num ≤ 100000000000) (hle : a + k ≤ s.length) (h9 : k ≤ 9) (h0 : 0 < k) (hF : figS num = (s.take (a + k)).drop a) (h2 : a + k < s.length → ltrI ((s.getD (a + k) 0).toNat : Int) = false) (hn : k + 0 = n) (hb : a + k + gapR false (s.drop (a + k)) = b)  (v : SV) (L' : HF) (next : (RunsTo Tryd.prog 15 (headOf Tryd.f15 0) (envAt Tryd.f15.ntmps ([(0, vS s), (5, vL 102 5 (T ++ [mkW 2 [] num a]).length), (6, vN (b : Nat))])) (Sx.look ([] ++ (wtE 102 103 (T ++ [mkW 2 [] num a])))) 80 (v) (L') 9000)) :
    (RunsTo Tryd.prog 15 (headOf Tryd.f15 1) (envAt Tryd.f15.ntmps (qs11 D T a i k s)) (Sx.look ([] ++ (wtE 102 103 T ++ [⟨104, true, none, 5, .tc (.vi .i64 fun _ => 2) (.tc (.vs fun _ => []) (.tc (.vi .i64 fun _ => num) (.tc .vl0 (.tc (.vi .i64 fun _ => (a : Int)) .t0))))⟩]))) 80 (v) (L') 9000) := by
  have hw1 : IntKind.i64.wrap ((a : Int) + 1) = ((a + 1 : Nat) : Int) := by rw [wr64 (by omega)]; rfl
  have hw2 : IntKind.i64.wrap ((a : Int) + 2) = ((a + 2 : Nat) : Int) := by rw [wr64 (by omega)]; omega
  have hb0 := u8nat (s.getD a 0)
  have hwn : IntKind.i64.wrap ((a : Int) + ((k + 0 : Nat) : Int)) = ((a + k : Nat) : Int) := by rw [wr64 (by omega)]; omega
  have hz1 : IntKind.i64.wrap (0 - num) = 0 - num := wr64 (by omega)
  have hwk0 : IntKind.i64.wrap ((a : Int) + (k : Int)) = ((a + k : Nat) : Int) := by rw [wr64 (by omega)]; rfl
  have hk00 : k + 0 = k := rfl
  have E' := (⟨hw1, hw2, hwn, hz1, hwk0, hF, hb⟩ : _ ∧ _ ∧ _ ∧ _ ∧ _ ∧ _ ∧ _)
  refine bcase (fun gg0 => (rMo baseRQo 600 (behind Tryd.f15 0) 900 140 (hI 14 91755784) ([((102 : Nat), Rn.to (182 : Nat)), ((103 : Nat), Rn.to (181 : Nat))]) [(qs25 i k), (qs28 k), (qs40 k), (qs29 num), (qs27 a k s), (qs31 a k), (qs54 a k num s), (decide (IntKind.i64.wrap (qs8 a k) < (qs19 s)), false), (qs32 T), (qs9 T), (qs46 a k s)] (qs4 T a b k num s) next (oc2 ?_ ?_ (oc9 ?_ ?_ ?_ ?_ ?_ gg0 ?_ ?_ ?_ okn)) ?_)) fun gg0 => (rMo baseRQo 600 (behind Tryd.f15 0) 900 140 (hI 17 5875504392) ([((102 : Nat), Rn.to (192 : Nat)), ((103 : Nat), Rn.to (191 : Nat))]) [(qs25 i k), (qs28 k), (qs40 k), (qs29 num), (qs27 a k s), (qs31 a k), (qs54 a k num s), (decide (IntKind.i64.wrap (qs8 a k) < (qs19 s)), true), (decide (0 ≤ IntKind.i64.wrap (qs8 a k) ∧ IntKind.i64.wrap (qs8 a k) < (qs19 s)), true), (ltrI (↑(s.getD (qs35 a k).toNat (0 : UInt8)).toNat : Int), false), (qs32 T), (qs9 T), (qs46 a k s)] (qs4 T a b k num s) next (oc4 ?_ ?_ ?_ ?_ (oc9 ?_ ?_ ?_ gg0 ?_ ?_ ?_ ?_ ?_ okn)) ?_)
  all_goals clear next; try dsimp only [qs25, qs28, qs40, qs29, qs27, qs8, qs19, qs31, qs54, qs35, qs32, qs9, qs46, qs4, qs23] at *
  all_goals exact sc46

set_option maxHeartbeats 4000000 in
theorem rqRp (s : List UInt8) (T : List Wt) (a n b k : Nat) (D : List UInt8) (num : Int) (i : Nat) (ha : a < s.length) (hs : s.length ≤ 4000) (hT : T.length ≤ a) (hi : i < k) (hi2 : k < 10) (hDl : D.length = k) (hk : k ≤ 4000) (hnum : 0 ≤ num ∧ num ≤ 10000000000) (hd : 48 ≤ (D.getD i 0).toNat ∧ (D.getD i 0).toNat ≤ 57)  (v : SV) (L' : HF) (next : (RunsTo Tryd.prog 15 (headOf Tryd.f15 1) (envAt Tryd.f15.ntmps ([(0, vS s), (qs57 T), (6, vN (a : Nat)), (7, vP 104), (8, vN (k + 0 : Nat)), (9, vN 0), (10, vN 0), (11, vN (k : Nat)), (12, vS D), (13, vN (i + 1 : Nat))])) (Sx.look ([] ++ (wtE 102 103 T ++ [⟨104, true, none, 5, .tc (.vi .i64 fun _ => 2) (.tc (.vs fun _ => []) (.tc (.vi .i64 fun _ => (10 * num + (((D.getD i 0).toNat : Int) - 48))) (.tc .vl0 (.tc (.vi .i64 fun _ => (a : Int)) .t0))))⟩]))) 80 (v) (L') 9000)) :
    (RunsTo Tryd.prog 15 (headOf Tryd.f15 1) (envAt Tryd.f15.ntmps (qs11 D T a i k s)) (Sx.look ([] ++ (wtE 102 103 T ++ [⟨104, true, none, 5, .tc (.vi .i64 fun _ => 2) (.tc (.vs fun _ => []) (.tc (.vi .i64 fun _ => num) (.tc .vl0 (.tc (.vi .i64 fun _ => (a : Int)) .t0))))⟩]))) 80 (v) (L') 9000) := by
  have hw : IntKind.i64.wrap ((i : Int) + 1) = ((i + 1 : Nat) : Int) := by rw [wr64 (by omega)]; rfl
  have h1 : IntKind.i64.wrap (10 * num) = 10 * num := wr64 (by omega)
  have h2 : IntKind.u8.wrap (((D.getD i 0).toNat : Int) - 48) = ((D.getD i 0).toNat : Int) - 48 := u8id (by omega)
  have h3 : IntKind.i64.wrap (((D.getD i 0).toNat : Int) - 48) = ((D.getD i 0).toNat : Int) - 48 := wr64 (by omega)
  have h4 : IntKind.i64.wrap (10 * num + (((D.getD i 0).toNat : Int) - 48)) = 10 * num + (((D.getD i 0).toNat : Int) - 48) := wr64 (by omega)
  have E' := (⟨hw, h1, h2, h3, h4⟩ : _ ∧ _ ∧ _ ∧ _ ∧ _)
  refine rMo baseRQo 600 (behind Tryd.f15 1) 900 140 (hI 3 21) ([]) [(qs55 i k), (decide ((k : Int) < 10), true), (decide (0 ≤ (i : Int) ∧ (i : Int) < (↑D.length : Int)), true)] ((s = s ∧ (qs47 T) ∧ (a : Int) = (a : Int) ∧ 0 = 0 ∧ (↑(k + (0 : Nat)) : Int) = (↑(k + (0 : Nat)) : Int) ∧ (0 : Int) = (0 : Int) ∧ (0 : Int) = (0 : Int) ∧ (k : Int) = (k : Int) ∧ D = D ∧ (↑(i + (1 : Nat)) : Int) = IntKind.i64.wrap ((i : Int) + 1)) ∧ (qs6 T) ∧ (qs15 T) ∧ (2 : Int) = (2 : Int) ∧ ([] : List UInt8) = [] ∧ (10 : Int) * num + ((↑(D.getD i (0 : UInt8)).toNat : Int) - 48) = IntKind.i64.wrap (qs49 D i num) ∧ True ∧ (a : Int) = (a : Int)) next (oc3 ?_ ?_ ?_ okn) ?_
  all_goals clear next; try dsimp only [qs55, qs47, qs6, qs15, qs49]
  all_goals exact sc24

end Go.Proofs.YtaleenklamognaaDoor

