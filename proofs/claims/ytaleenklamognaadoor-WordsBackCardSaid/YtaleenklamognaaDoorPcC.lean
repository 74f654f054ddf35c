/- Words, by the document: which bytes are such, gaps, digits. -/
import Derived.Test.YtaleenklamognaaDoorPaC
import Derived.Test.YtaleenklamognaaDoorPbC
set_option linter.unusedSimpArgs false
set_option linter.unusedVariables false
set_option maxRecDepth 100000
namespace Go.Proofs.YtaleenklamognaaDoor
open Go.Sx

open WordR
def pfI (l : Bool) (x : Int) : Bool := figI x || (l && ltrI x)

variable (L' : HF) (a i k : Nat) (l : Bool) (s : List UInt8) (v : SV) (x : Int)
abbrev wn1 := ((↑(48 : Nat) : Int) == x, false)
abbrev wn2 := ((↑(49 : Nat) : Int) == x, false)
abbrev wn3 := ((↑(50 : Nat) : Int) == x, false)
abbrev wn4 := ((↑(51 : Nat) : Int) == x, false)
abbrev wn5 := ((↑(52 : Nat) : Int) == x, false)
abbrev wn6 := ((↑(53 : Nat) : Int) == x, false)
abbrev wn7 := ((↑(54 : Nat) : Int) == x, false)
abbrev wn8 := ((↑(55 : Nat) : Int) == x, false)
abbrev wn28 := IntKind.i64.wrap ((0 : Int) + 1) + 1
abbrev wn45 := IntKind.i64.wrap wn28 + 1
abbrev wn9 := IntKind.i64.wrap wn45 + 1
abbrev wn10 := ((↑(56 : Nat) : Int) == x, false)
abbrev wn11 := (↑(s.getD (i : Int).toNat (0 : UInt8)).toNat : Int)
abbrev wn12 := ((↑(57 : Nat) : Int) == x, false)
abbrev wn13 := ((↑(97 : Nat) : Int) == x, false)
abbrev wn14 := ((↑(98 : Nat) : Int) == x, false)
abbrev wn46 := (↑s.length : Int)
abbrev wn15 := (decide (0 ≤ IntKind.i64.wrap ((a : Int) + (k : Int)) ∧ IntKind.i64.wrap ((a : Int) + (k : Int)) < (wn46 s)), true)
abbrev wn16 := ((↑(99 : Nat) : Int) == x, false)
abbrev wn17 := ((↑(100 : Nat) : Int) == x, false)
abbrev wn18 := Sx.look ([] ++ ([]))
abbrev wn19 := ((↑(101 : Nat) : Int) == x, false)
abbrev wn20 := ((↑(102 : Nat) : Int) == x, false)
abbrev wn21 := (↑(s.getD (IntKind.i64.wrap ((a : Int) + (k : Int))).toNat (0 : UInt8)).toNat : Int)
abbrev wn22 := (decide (0 ≤ (i : Int) ∧ (i : Int) < (wn46 s)), true)
abbrev wn23 := ((↑(65 : Nat) : Int) == x, false)
abbrev wn24 := RunsTo Tryd.prog 52 (headOf Tryd.f52 0) (envAt Tryd.f52.ntmps ([(0, vS s), (1, vN (i : Nat))])) wn18 80 (v) (L') 140
abbrev wn25 := RunsTo Tryd.prog 52 (headOf Tryd.f52 1) (envAt Tryd.f52.ntmps ([(0, vS s), (1, vN (i : Nat))])) wn18 80 (v) (L') 140
abbrev wn26 := RunsTo Tryd.prog 54 (headOf Tryd.f54 0) (envAt Tryd.f54.ntmps ([(0, vS s), (1, vN a), (2, vB l), (7, vN (k : Nat))])) wn18 80 (vN (k : Nat)) (Sx.look ([])) 140
abbrev wn27 := ((↑(66 : Nat) : Int) == x, false)
abbrev wn29 := (decide ((i : Int) < (wn46 s)), true)
abbrev wn30 := (s = s ∧ (↑(i + (1 : Nat)) : Int) = IntKind.i64.wrap ((i : Int) + 1)) ∧ True
abbrev wn31 := ((↑(67 : Nat) : Int) == x, false)
abbrev wn32 := (decide (IntKind.i64.wrap ((a : Int) + (k : Int)) < (wn46 s)), true)
abbrev wn37 := IntKind.i64.wrap wn9 + 1
abbrev wn33 := IntKind.i64.wrap (IntKind.i64.wrap wn37 + 1) + 1
abbrev wn34 := ((↑(68 : Nat) : Int) == x, false)
abbrev wn35 := RunsTo Tryd.prog 52 (headOf Tryd.f52 0) (envAt Tryd.f52.ntmps ([(0, vS s), (1, vN (i : Nat))])) wn18 80 (vN (i : Nat)) (Sx.look ([])) 140
abbrev wn36 := (↑(69 : Nat) : Int)
abbrev wn38 := hexI x = IntKind.i64.wrap ((10 : Int) + IntKind.i64.wrap wn45) ∧ True
abbrev wn39 := hexI x = IntKind.i64.wrap ((10 : Int) + IntKind.i64.wrap ((0 : Int) + 1)) ∧ True
abbrev wn40 := (↑(70 : Nat) : Int)
abbrev wn41 := hexI x = IntKind.i64.wrap ((10 : Int) + IntKind.i64.wrap wn28) ∧ True
abbrev wn42 := hexI x = IntKind.i64.wrap ((10 : Int) + IntKind.i64.wrap wn9) ∧ True
abbrev wn43 := hexI x = IntKind.i64.wrap ((10 : Int) + IntKind.i64.wrap wn37) ∧ True
abbrev wn44 := (s = s ∧ (a : Int) = (a : Int) ∧ l = l ∧ (↑(k + (1 : Nat)) : Int) = IntKind.i64.wrap ((k : Int) + 1)) ∧ True
abbrev wn47 := ltrI x = (x == (95 : Int)) ∧ True
abbrev wn48 := RunsTo Tryd.prog 54 (headOf Tryd.f54 0) (envAt Tryd.f54.ntmps ([(0, vS s), (1, vN a), (2, vB l), (7, vN (k + 1 : Nat))])) wn18 80 (v) (L') 140
set_option maxHeartbeats 4000000 in
theorem lrT (x : Int)  :
    (RunsTo Tryd.prog 53 [.code (bodyOf Tryd.f53)] (envOf [vU x] Tryd.f53.ntmps) wn18 80 (vB (ltrI x)) (Sx.look ([])) 90) := by
  refine bcase (fun gg0 => (bcase (fun gg1 => (rEn baseO 300 (99) 900 80 (hI 2 0) ([]) [(decide (x ≥ (97 : Int)), false), (decide (x ≥ (65 : Int)), false)] (wn47 x) (oc2 gg0 gg1 okn) ?_)) fun gg1 => (bcase (fun gg2 => (rEn baseO 300 (99) 900 80 (hI 3 4) ([]) [(decide (x ≥ (97 : Int)), false), (decide (x ≥ (65 : Int)), true), (decide (x ≤ (90 : Int)), false)] (wn47 x) (oc3 gg0 gg1 gg2 okn) ?_)) fun gg2 => (rEn baseO 300 (99) 900 80 (hI 3 20) ([]) [(decide (x ≥ (97 : Int)), false), (decide (x ≥ (65 : Int)), true), (decide (x ≤ (90 : Int)), true)] (ltrI x = true ∧ True) (oc3 gg0 gg1 gg2 okn) ?_)))) fun gg0 => (bcase (fun gg1 => (rEn baseO 300 (99) 900 80 (hI 4 17) ([]) [(decide (x ≥ (97 : Int)), true), (decide (x ≤ (122 : Int)), false), (decide (x ≥ (65 : Int)), true), (decide (x ≤ (90 : Int)), false)] (wn47 x) (oc4 gg0 gg1 ?_ ?_ okn) ?_)) fun gg1 => (rEn baseO 300 (99) 900 80 (hI 2 5) ([]) [(decide (x ≥ (97 : Int)), true), (decide (x ≤ (122 : Int)), true)] (ltrI x = true ∧ True) (oc2 gg0 gg1 okn) ?_))
  all_goals try dsimp only [wn47] at *
  all_goals exact sc1

def lrP : PC := { args := [.v (.vi .u8 0)], heap := [], gs := [], G := 23, tp := 213, n := 80, n' := 90, cond := fun e => true, v := fun e => vB (ltrI (eI e 0 [])), post := fun e => [] }
theorem lrP_pc : PC.Runs Tryd.prog 53 Tryd.f53 (bodyOf Tryd.f53) lrP := ⟨Tryd.func53, by kernel_rfl, (fun g hg => by first | (cases hg; done) | (revert g; show ∀ g ∈ ([] : List Nat), g < 23; decide)), fun e H hc => by
  have hc : (true) = true := hc
  try simp only [Bool.and_eq_true, decide_eq_true_eq, Nat.beq_eq] at hc
  exact lrT (eI e 0 [])⟩

set_option maxHeartbeats 4000000 in
theorem frT (x : Int)  :
    (RunsTo Tryd.prog 55 [.code (bodyOf Tryd.f55)] (envOf [vU x] Tryd.f55.ntmps) wn18 80 (vB (figI x)) (Sx.look ([])) 90) := by
  refine bcase (fun gg0 => (rEn baseO 300 (99) 900 80 (hI 1 0) ([]) [(decide (x ≥ (48 : Int)), false)] (figI x = false ∧ True) (oc1 gg0 okn) ?_)) fun gg0 => (rEn baseO 300 (99) 900 80 (hI 1 1) ([]) [(decide (x ≥ (48 : Int)), true)] (figI x = decide (x ≤ (57 : Int)) ∧ True) (oc1 gg0 okn) ?_)
  all_goals exact sc2

def frP : PC := { args := [.v (.vi .u8 0)], heap := [], gs := [], G := 23, tp := 213, n := 80, n' := 90, cond := fun e => true, v := fun e => vB (figI (eI e 0 [])), post := fun e => [] }
theorem frP_pc : PC.Runs Tryd.prog 55 Tryd.f55 (bodyOf Tryd.f55) frP := ⟨Tryd.func55, by kernel_rfl, (fun g hg => by first | (cases hg; done) | (revert g; show ∀ g ∈ ([] : List Nat), g < 23; decide)), fun e H hc => by
  have hc : (true) = true := hc
  try simp only [Bool.and_eq_true, decide_eq_true_eq, Nat.beq_eq] at hc
  exact frT (eI e 0 [])⟩
def sumsRS : List (FuncId × Summ) := [(53, lrP.summ 46), (55, frP.summ 46)]
theorem baseRS : Base0 Tryd.prog sumsRS := ((baseO.cons Tryd.func55 (by kernel_rfl) (PC.summ_ok frP_pc gtopG)).cons Tryd.func53 (by kernel_rfl) (PC.summ_ok lrP_pc gtopG))
theorem span_pf (p q : Int → Bool) (h : ∀ x, p x = q x) : ∀ l : List UInt8, spanR p l = spanR q l
  | [] => rfl
  | c :: r => by rw [spanR, spanR, h, span_pf p q h r]
theorem pf_t (l : List UInt8) : spanR (pfI true) l = spanR goI l := span_pf _ _ (fun x => by simp [pfI, goI, Bool.or_comm]) l
theorem pf_f (l : List UInt8) : spanR (pfI false) l = spanR figI l := span_pf _ _ (fun x => by simp [pfI]) l

set_option maxHeartbeats 4000000 in
theorem rs0 (s : List UInt8) (a : Nat) (l : Bool)  (v : SV) (L' : HF) (next : (RunsTo Tryd.prog 54 (headOf Tryd.f54 0) (envAt Tryd.f54.ntmps ([(0, vS s), (1, vN a), (2, vB l), (7, vN (0 : Nat))])) wn18 80 (v) (L') 140)) :
    (RunsTo Tryd.prog 54 [.code (bodyOf Tryd.f54)] (envOf [vS s, vN a, vB l] Tryd.f54.ntmps) wn18 80 (v) (L') 140) := by
  refine rMo baseRS 300 (behind Tryd.f54 0) 900 80 (hI 0 0) ([]) [] ((s = s ∧ (a : Int) = (a : Int) ∧ l = l ∧ (↑(0 : Nat) : Int) = (0 : Int)) ∧ True) next okn ?_
  all_goals clear next; exact sc6

set_option maxHeartbeats 4000000 in
theorem rs1 (s : List UInt8) (a : Nat) (l : Bool) (k : Nat) (hk : a + k < s.length) (hs : s.length ≤ 100000) (h : figI ((s.getD (a + k) 0).toNat : Int) = true)  (v : SV) (L' : HF) (next : (wn48 L' a k l s v)) :
    (RunsTo Tryd.prog 54 (headOf Tryd.f54 0) (envAt Tryd.f54.ntmps ([(0, vS s), (1, vN a), (2, vB l), (7, vN (k : Nat))])) wn18 80 (v) (L') 140) := by
  have hw : IntKind.i64.wrap ((k : Int) + 1) = ((k + 1 : Nat) : Int) := by rw [wr64 (by omega)]; rfl
  have hak : IntKind.i64.wrap ((a : Int) + (k : Int)) = ((a + k : Nat) : Int) := by rw [wr64 (by omega)]; rfl
  have E' := (⟨hw, hak⟩ : _ ∧ _)
  refine rMo baseRS 300 (behind Tryd.f54 0) 900 110 (hI 4 117) ([]) [(wn32 a k s), (wn15 a k s), (figI (wn21 a k s), true)] (wn44 a k l s) next (oc3 ?_ ?_ ?_ okn) ?_
  all_goals clear next; try dsimp only [wn32, wn46, wn15, wn21, wn44]
  all_goals exact sc31

set_option maxHeartbeats 4000000 in
theorem rs2 (s : List UInt8) (a : Nat) (l : Bool) (k : Nat) (hk : a + k < s.length) (hs : s.length ≤ 100000) (h : figI ((s.getD (a + k) 0).toNat : Int) = false) (h2 : ltrI ((s.getD (a + k) 0).toNat : Int) = true) (hl : l = true)  (v : SV) (L' : HF) (next : (wn48 L' a k l s v)) :
    (RunsTo Tryd.prog 54 (headOf Tryd.f54 0) (envAt Tryd.f54.ntmps ([(0, vS s), (1, vN a), (2, vB l), (7, vN (k : Nat))])) wn18 80 (v) (L') 140) := by
  have hw : IntKind.i64.wrap ((k : Int) + 1) = ((k + 1 : Nat) : Int) := by rw [wr64 (by omega)]; rfl
  have hak : IntKind.i64.wrap ((a : Int) + (k : Int)) = ((a + k : Nat) : Int) := by rw [wr64 (by omega)]; rfl
  have E' := (⟨hw, hak⟩ : _ ∧ _)
  refine rMo baseRS 300 (behind Tryd.f54 0) 900 110 (hI 8 30005) ([]) [(wn32 a k s), (wn15 a k s), (figI (wn21 a k s), false), (l, true), (wn15 a k s), (ltrI (wn21 a k s), true)] (wn44 a k l s) next (oc6 ?_ ?_ ?_ ?_ ?_ ?_ okn) ?_
  all_goals clear next; try dsimp only [wn32, wn46, wn15, wn21, wn44]
  all_goals exact sc31

set_option maxHeartbeats 4000000 in
theorem rs3 (s : List UInt8) (a : Nat) (l : Bool) (k : Nat) (hk : a + k = s.length) (hs : s.length ≤ 100000)  :
    (wn26 a k l s) := by
  have hw : IntKind.i64.wrap ((k : Int) + 1) = ((k + 1 : Nat) : Int) := by rw [wr64 (by omega)]; rfl
  have hak : IntKind.i64.wrap ((a : Int) + (k : Int)) = ((a + k : Nat) : Int) := by rw [wr64 (by omega)]; rfl
  have E' := (⟨hak, hw⟩ : _ ∧ _)
  refine rEn baseRS 300 (99) 900 110 (hI 1 0) ([]) [(decide (IntKind.i64.wrap ((a : Int) + (k : Int)) < (wn46 s)), false)] ((k : Int) = (k : Int) ∧ True) (oc1 ?_ okn) ?_
  all_goals try dsimp only [wn46]
  all_goals exact sc31

set_option maxHeartbeats 4000000 in
theorem rs4 (s : List UInt8) (a : Nat) (l : Bool) (k : Nat) (hk : a + k < s.length) (hs : s.length ≤ 100000) (h : figI ((s.getD (a + k) 0).toNat : Int) = false) (hl : l = false)  :
    (wn26 a k l s) := by
  have hw : IntKind.i64.wrap ((k : Int) + 1) = ((k + 1 : Nat) : Int) := by rw [wr64 (by omega)]; rfl
  have hak : IntKind.i64.wrap ((a : Int) + (k : Int)) = ((a + k : Nat) : Int) := by rw [wr64 (by omega)]; rfl
  have E' := (⟨hak, hw⟩ : _ ∧ _)
  refine rEn baseRS 300 (99) 900 110 (hI 5 53) ([]) [(wn32 a k s), (wn15 a k s), (figI (wn21 a k s), false), (l, false)] ((k : Int) = (k : Int) ∧ True) (oc4 ?_ ?_ ?_ ?_ okn) ?_
  all_goals try dsimp only [wn32, wn46, wn15, wn21]
  all_goals exact sc31

set_option maxHeartbeats 4000000 in
theorem rs5 (s : List UInt8) (a : Nat) (l : Bool) (k : Nat) (hk : a + k < s.length) (hs : s.length ≤ 100000) (h : figI ((s.getD (a + k) 0).toNat : Int) = false) (h2 : ltrI ((s.getD (a + k) 0).toNat : Int) = false) (hl : l = true)  :
    (wn26 a k l s) := by
  have hw : IntKind.i64.wrap ((k : Int) + 1) = ((k + 1 : Nat) : Int) := by rw [wr64 (by omega)]; rfl
  have hak : IntKind.i64.wrap ((a : Int) + (k : Int)) = ((a + k : Nat) : Int) := by rw [wr64 (by omega)]; rfl
  have E' := (⟨hak, hw⟩ : _ ∧ _)
  refine rEn baseRS 300 (99) 900 110 (hI 8 13621) ([]) [(wn32 a k s), (wn15 a k s), (figI (wn21 a k s), false), (l, true), (wn15 a k s), (ltrI (wn21 a k s), false)] ((k : Int) = (k : Int) ∧ True) (oc6 ?_ ?_ ?_ ?_ ?_ ?_ okn) ?_
  all_goals try dsimp only [wn32, wn46, wn15, wn21]
  all_goals exact sc31

theorem rsT (s : List UInt8) (a : Nat) (l : Bool) (ha : a ≤ s.length) (hs : s.length ≤ 100000) : RunsTo Tryd.prog 54 [.code (bodyOf Tryd.f54)] (envOf [vS s, vN a, vB l] Tryd.f54.ntmps) (Sx.look ([] ++ ([]))) 80 (vN (spanR (pfI l) (s.drop a) : Nat)) (Sx.look []) 140 := by
  refine rs0 s a l _ _ ?_
  suffices q : ∀ (j k : Nat), a + k + j = s.length → RunsTo Tryd.prog 54 (headOf Tryd.f54 0) (envAt Tryd.f54.ntmps ([(0, vS s), (1, vN a), (2, vB l), (7, vN (k : Nat))])) (Sx.look ([] ++ ([]))) 80 (vN (k + spanR (pfI l) (s.drop (a + k)) : Nat)) (Sx.look []) 140 by
    have := q (s.length - a) 0 (by omega)
    rw [Nat.add_zero, Nat.zero_add] at this
    exact this
  intro j
  induction j with
  | zero =>
    intro k hk
    rw [span_e (by omega), Nat.add_zero]
    exact rs3 s a l k (by omega) hs
  | succ j ih =>
    intro k hk
    have q := ih (k + 1) (by omega)
    have more : pfI l ((s.getD (a + k) 0).toNat : Int) = true → k + spanR (pfI l) (s.drop (a + k)) = k + 1 + spanR (pfI l) (s.drop (a + (k + 1))) := fun h => by
      rw [span_y (by omega) h, show a + k + 1 = a + (k + 1) by omega]; omega
    have less : pfI l ((s.getD (a + k) 0).toNat : Int) = false → k + spanR (pfI l) (s.drop (a + k)) = k := fun h => by
      rw [span_n (by omega) h, Nat.add_zero]
    cases h : figI ((s.getD (a + k) 0).toNat : Int) with
    | true =>
      rw [more (by unfold pfI; rw [h]; rfl)]
      exact rs1 s a l k (by omega) hs h _ _ q
    | false =>
      cases l with
      | false => rw [less (by unfold pfI; rw [h]; rfl)]; exact rs4 s a false k (by omega) hs h rfl
      | true =>
        cases h2 : ltrI ((s.getD (a + k) 0).toNat : Int) with
        | true => rw [more (by unfold pfI; rw [h, h2]; rfl)]; exact rs2 s a true k (by omega) hs h h2 rfl _ _ q
        | false => rw [less (by unfold pfI; rw [h, h2]; rfl)]; exact rs5 s a true k (by omega) hs h h2 rfl
def rsP : PC := { args := [.v (.vs 0), .v (.vi .i64 1), .v (.vb 2)], heap := [], gs := [], G := 23, tp := 213, n := 80, n' := 140, cond := fun e => decide (0 ≤ eI e 1 []) && (decide ((eI e 1 []).toNat ≤ (eS e 0 []).length) && (decide ((eS e 0 []).length ≤ 100000))), v := fun e => vN (spanR (pfI (eB e 2 [])) ((eS e 0 []).drop (eI e 1 []).toNat) : Nat), post := fun e => [] }
theorem rsP_pc : PC.Runs Tryd.prog 54 Tryd.f54 (bodyOf Tryd.f54) rsP := ⟨Tryd.func54, by kernel_rfl, (fun g hg => by first | (cases hg; done) | (revert g; show ∀ g ∈ ([] : List Nat), g < 23; decide)), fun e H hc => by
  have hc : (decide (0 ≤ eI e 1 []) && (decide ((eI e 1 []).toNat ≤ (eS e 0 []).length) && (decide ((eS e 0 []).length ≤ 100000)))) = true := hc
  try simp only [Bool.and_eq_true, decide_eq_true_eq, Nat.beq_eq] at hc
  exact by obtain ⟨h1, h2, h3⟩ := hc; have hj : ((eI e 1 []).toNat : Int) = eI e 1 [] := Int.toNat_of_nonneg h1; have q := rsT (eS e 0 []) (eI e 1 []).toNat (eB e 2 []) h2 h3; rw [hj] at q; exact q⟩

set_option maxHeartbeats 4000000 in
theorem rg0 (s : List UInt8) (a : Nat)  (v : SV) (L' : HF) (next : (RunsTo Tryd.prog 52 (headOf Tryd.f52 0) (envAt Tryd.f52.ntmps ([(0, vS s), (1, vN (a : Nat))])) wn18 80 (v) (L') 140)) :
    (RunsTo Tryd.prog 52 [.code (bodyOf Tryd.f52)] (envOf [vS s, vN a] Tryd.f52.ntmps) wn18 80 (v) (L') 140) := by
  refine rMo baseO 300 (behind Tryd.f52 0) 900 80 (hI 0 0) ([]) [] ((s = s ∧ (a : Int) = (a : Int)) ∧ True) next okn ?_
  all_goals clear next; exact sc6

set_option maxHeartbeats 4000000 in
theorem rg1 (s : List UInt8) (i : Nat) (hi : i < s.length) (hs : s.length ≤ 100000) (h : (s.getD i 0).toNat = 32 ∨ (s.getD i 0).toNat = 9 ∨ (s.getD i 0).toNat = 13)  (v : SV) (L' : HF) (next : (RunsTo Tryd.prog 52 (headOf Tryd.f52 0) (envAt Tryd.f52.ntmps ([(0, vS s), (1, vN (i + 1 : Nat))])) wn18 80 (v) (L') 140)) :
    (wn24 L' i s v) := by
  have hw : IntKind.i64.wrap ((i : Int) + 1) = ((i + 1 : Nat) : Int) := by rw [wr64 (by omega)]; rfl
  have hb0 := u8nat (s.getD i 0)
  have E' := hw
  refine bcase (fun gg0 => (bcase (fun gg1 => (rMo baseO 300 (behind Tryd.f52 0) 900 110 (hI 5 261) ([]) [(wn29 i s), (wn22 i s), ((wn11 i s) == 32, false), ((wn11 i s) == 9, false), ((wn11 i s) == 13, true)] (wn30 i s) next (oc5 ?_ ?_ gg0 gg1 ?_ okn) ?_)) fun gg1 => (rMo baseO 300 (behind Tryd.f52 0) 900 110 (hI 5 325) ([]) [(wn29 i s), (wn22 i s), ((wn11 i s) == 32, false), ((wn11 i s) == 9, true), ((wn11 i s) == 9, true)] (wn30 i s) next (oc5 ?_ ?_ gg0 gg1 gg1 okn) ?_))) fun gg0 => (rMo baseO 300 (behind Tryd.f52 0) 900 110 (hI 4 85) ([]) [(wn29 i s), (wn22 i s), ((wn11 i s) == 32, true), ((wn11 i s) == 32, true)] (wn30 i s) next (oc4 ?_ ?_ gg0 gg0 okn) ?_)
  all_goals clear next; try dsimp only [wn29, wn46, wn22, wn11, wn30] at *
  all_goals exact sc32

set_option maxHeartbeats 4000000 in
theorem rg2 (s : List UInt8) (i : Nat) (hi : i < s.length) (hs : s.length ≤ 100000) (h : (s.getD i 0).toNat = 35)  (v : SV) (L' : HF) (next : (wn25 L' i s v)) :
    (wn24 L' i s v) := by
  have hw : IntKind.i64.wrap ((i : Int) + 1) = ((i + 1 : Nat) : Int) := by rw [wr64 (by omega)]; rfl
  have hb0 := u8nat (s.getD i 0)
  have E' := hw
  refine rMo baseO 300 (behind Tryd.f52 1) 900 110 (hI 6 1029) ([]) [(wn29 i s), (wn22 i s), ((wn11 i s) == 32, false), ((wn11 i s) == 9, false), ((wn11 i s) == 13, false), ((wn11 i s) == 35, true)] ((s = s ∧ (i : Int) = (i : Int)) ∧ True) next (oc6 ?_ ?_ ?_ ?_ ?_ ?_ okn) ?_
  all_goals clear next; try dsimp only [wn29, wn46, wn22, wn11]
  all_goals exact sc32

set_option maxHeartbeats 4000000 in
theorem rg3 (s : List UInt8) (i : Nat) (hi : i < s.length) (hs : s.length ≤ 100000) (h : (s.getD i 0).toNat ≠ 10)  (v : SV) (L' : HF) (next : (RunsTo Tryd.prog 52 (headOf Tryd.f52 1) (envAt Tryd.f52.ntmps ([(0, vS s), (1, vN (i + 1 : Nat))])) wn18 80 (v) (L') 140)) :
    (wn25 L' i s v) := by
  have hw : IntKind.i64.wrap ((i : Int) + 1) = ((i + 1 : Nat) : Int) := by rw [wr64 (by omega)]; rfl
  have hb0 := u8nat (s.getD i 0)
  have E' := hw
  refine rMo baseO 300 (behind Tryd.f52 1) 900 110 (hI 3 21) ([]) [(wn29 i s), (wn22 i s), ((wn11 i s) != (10 : Int), true)] (wn30 i s) next (oc3 ?_ ?_ ?_ okn) ?_
  all_goals clear next; try dsimp only [wn29, wn46, wn22, wn11, wn30]
  all_goals exact sc32

set_option maxHeartbeats 4000000 in
theorem rg4 (s : List UInt8) (i : Nat) (hi : i < s.length) (hs : s.length ≤ 100000) (h : (s.getD i 0).toNat = 10)  (v : SV) (L' : HF) (next : (wn24 L' i s v)) :
    (wn25 L' i s v) := by
  have hw : IntKind.i64.wrap ((i : Int) + 1) = ((i + 1 : Nat) : Int) := by rw [wr64 (by omega)]; rfl
  have hb0 := u8nat (s.getD i 0)
  have E' := hw
  refine rMo baseO 300 (behind Tryd.f52 0) 900 110 (hI 3 5) ([]) [(wn29 i s), (wn22 i s), ((wn11 i s) != (10 : Int), false)] ((s = s ∧ (i : Int) = (i : Int)) ∧ True) next (oc3 ?_ ?_ ?_ okn) ?_
  all_goals clear next; try dsimp only [wn29, wn46, wn22, wn11]
  all_goals exact sc32

set_option maxHeartbeats 4000000 in
theorem rg5 (s : List UInt8) (i : Nat) (hi : i = s.length)  (v : SV) (L' : HF) (next : (wn24 L' i s v)) :
    (wn25 L' i s v) := by
  refine rMo baseO 300 (behind Tryd.f52 0) 900 110 (hI 1 0) ([]) [(decide ((i : Int) < (wn46 s)), false)] ((s = s ∧ (i : Int) = (i : Int)) ∧ True) next (oc1 ?_ okn) ?_
  all_goals clear next; try dsimp only [wn46]
  all_goals exact sc33

set_option maxHeartbeats 4000000 in
theorem rg6 (s : List UInt8) (i : Nat) (hi : i < s.length) (hs : s.length ≤ 100000) (n1 : (s.getD i 0).toNat ≠ 32) (n2 : (s.getD i 0).toNat ≠ 9) (n3 : (s.getD i 0).toNat ≠ 13) (n4 : (s.getD i 0).toNat ≠ 35)  :
    (wn35 i s) := by
  have hw : IntKind.i64.wrap ((i : Int) + 1) = ((i + 1 : Nat) : Int) := by rw [wr64 (by omega)]; rfl
  have hb0 := u8nat (s.getD i 0)
  have E' := hw
  refine rEn baseO 300 (99) 900 110 (hI 6 5) ([]) [(wn29 i s), (wn22 i s), ((wn11 i s) == 32, false), ((wn11 i s) == 9, false), ((wn11 i s) == 13, false), ((wn11 i s) == 35, false)] ((i : Int) = (i : Int) ∧ True) (oc6 ?_ ?_ ?_ ?_ ?_ ?_ okn) ?_
  all_goals try dsimp only [wn29, wn46, wn22, wn11]
  all_goals exact sc32

set_option maxHeartbeats 4000000 in
theorem rg7 (s : List UInt8) (i : Nat) (hi : i = s.length)  :
    (wn35 i s) := by
  refine rEn baseO 300 (99) 900 110 (hI 1 0) ([]) [(decide ((i : Int) < (wn46 s)), false)] ((i : Int) = (i : Int) ∧ True) (oc1 ?_ okn) ?_
  all_goals try dsimp only [wn46]
  all_goals exact sc33

theorem rgLoop (s : List UInt8) (hs : s.length ≤ 100000) : ∀ (k i : Nat), i + k = s.length → (RunsTo Tryd.prog 52 (headOf Tryd.f52 0) (envAt Tryd.f52.ntmps ([(0, vS s), (1, vN (i : Nat))])) (Sx.look ([] ++ ([]))) 80 (vN (i + gapR false (s.drop i) : Nat)) (Sx.look []) 140) ∧ (RunsTo Tryd.prog 52 (headOf Tryd.f52 1) (envAt Tryd.f52.ntmps ([(0, vS s), (1, vN (i : Nat))])) (Sx.look ([] ++ ([]))) 80 (vN (i + gapR true (s.drop i) : Nat)) (Sx.look []) 140) := by
  intro k
  induction k with
  | zero =>
    intro i hi
    have e : s.drop i = [] := List.drop_eq_nil_of_le (by omega)
    rw [e]
    have q := rg7 s i (by omega)
    exact ⟨q, rg5 s i (by omega) _ _ q⟩
  | succ k ih =>
    intro i hi
    have hlt : i < s.length := by omega
    obtain ⟨q1, q2⟩ := ih (i + 1) (by omega)
    have nn : ∀ {k : UInt8}, s.getD i 0 ≠ k → (s.getD i 0).toNat ≠ k.toNat := fun h e => h (UInt8.toNat_inj.1 e)
    rw [drop_at s hlt]
    have e1 : ∀ x, i + (x + 1) = i + 1 + x := fun x => by omega
    have outer : RunsTo Tryd.prog 52 (headOf Tryd.f52 0) (envAt Tryd.f52.ntmps ([(0, vS s), (1, vN (i : Nat))])) (Sx.look ([] ++ ([]))) 80 (vN (i + gapR false (s.getD i 0 :: s.drop (i + 1)) : Nat)) (Sx.look []) 140 := by
      rw [gapR]
      cases hb : blI (nat (s.getD i 0)) with
      | true =>
        rw [if_pos rfl, e1]
        unfold blI nat at hb
        have hb := of_decide_eq_true hb
        exact rg1 s i hlt hs (by omega) _ _ q1
      | false =>
        rw [if_neg (by decide)]
        unfold blI nat at hb
        have hb := of_decide_eq_false hb
        by_cases h : s.getD i 0 = 35
        · rw [if_pos h, e1]
          exact rg2 s i hlt hs (by rw [h]; rfl) _ _ (rg3 s i hlt hs (by rw [h]; decide) _ _ q2)
        · rw [if_neg h, Nat.add_zero]
          exact rg6 s i hlt hs (by omega) (by omega) (by omega) (nn h)
    refine ⟨outer, ?_⟩
    rw [gapR]
    by_cases h : s.getD i 0 = 10
    · rw [if_pos h, Nat.add_zero]
      have h10 : (s.getD i 0).toNat = 10 := by rw [h]; rfl
      refine rg4 s i hlt hs h10 _ _ ?_
      exact rg6 s i hlt hs (by omega) (by omega) (by omega) (by omega)
    · rw [if_neg h, e1]
      exact rg3 s i hlt hs (nn h) _ _ q2
theorem rgT (s : List UInt8) (a : Nat) (ha : a ≤ s.length) (hs : s.length ≤ 100000) : RunsTo Tryd.prog 52 [.code (bodyOf Tryd.f52)] (envOf [vS s, vN a] Tryd.f52.ntmps) (Sx.look ([] ++ ([]))) 80 (vN (a + gapR false (s.drop a) : Nat)) (Sx.look []) 140 :=
  rg0 s a _ _ (rgLoop s hs (s.length - a) a (by omega)).1
def rgP : PC := { args := [.v (.vs 0), .v (.vi .i64 1)], heap := [], gs := [], G := 23, tp := 213, n := 80, n' := 140, cond := fun e => decide (0 ≤ eI e 1 []) && (decide ((eI e 1 []).toNat ≤ (eS e 0 []).length) && (decide ((eS e 0 []).length ≤ 100000))), v := fun e => vN ((eI e 1 []).toNat + gapR false ((eS e 0 []).drop (eI e 1 []).toNat) : Nat), post := fun e => [] }
theorem rgP_pc : PC.Runs Tryd.prog 52 Tryd.f52 (bodyOf Tryd.f52) rgP := ⟨Tryd.func52, by kernel_rfl, (fun g hg => by first | (cases hg; done) | (revert g; show ∀ g ∈ ([] : List Nat), g < 23; decide)), fun e H hc => by
  have hc : (decide (0 ≤ eI e 1 []) && (decide ((eI e 1 []).toNat ≤ (eS e 0 []).length) && (decide ((eS e 0 []).length ≤ 100000)))) = true := hc
  try simp only [Bool.and_eq_true, decide_eq_true_eq, Nat.beq_eq] at hc
  exact by obtain ⟨h1, h2, h3⟩ := hc; have hj : ((eI e 1 []).toNat : Int) = eI e 1 [] := Int.toNat_of_nonneg h1; have q := rgT (eS e 0 []) (eI e 1 []).toNat h2 h3; rw [hj] at q; exact q⟩

set_option maxHeartbeats 4000000 in
theorem rdT (x : Int) (h0 : 0 ≤ x ∧ x < 256)  :
    (RunsTo Tryd.prog 120 [.code (bodyOf Tryd.f120)] (envOf [vU x] Tryd.f120.ntmps) wn18 80 (vN (hexI x)) (Sx.look ([])) 120) := by
  refine bcase (fun gg0 => (bcase (fun gg1 => (bcase (fun gg2 => (bcase (fun gg3 => (bcase (fun gg4 => (bcase (fun gg5 => (bcase (fun gg6 => (bcase (fun gg7 => (bcase (fun gg8 => (bcase (fun gg9 => (bcase (fun gg10 => (bcase (fun gg11 => (bcase (fun gg12 => (bcase (fun gg13 => (bcase (fun gg14 => (bcase (fun gg15 => (bcase (fun gg16 => (bcase (fun gg17 => (bcase (fun gg18 => (bcase (fun gg19 => (bcase (fun gg20 => (bcase (fun gg21 => (rEn baseO 900 (99) 900 80 (hI 126 4614652200062122478760324421881515940639566598995339544906808835809121980415) ([]) [(wn1 x), (wn1 x), (wn2 x), (wn2 x), (wn3 x), (wn3 x), (wn4 x), (wn4 x), (wn5 x), (wn5 x), (wn6 x), (wn6 x), (wn7 x), (wn7 x), (wn8 x), (wn8 x), (wn10 x), (wn10 x), (wn12 x), (wn12 x), (wn13 x), (wn13 x), (wn14 x), (wn14 x), (wn16 x), (wn16 x), (wn17 x), (wn17 x), (wn19 x), (wn19 x), (wn20 x), (wn20 x), (wn23 x), (wn23 x), (wn27 x), (wn27 x), (wn31 x), (wn31 x), (wn34 x), (wn34 x), (wn36 == x, false), (wn36 == x, false), (wn40 == x, false), (wn40 == x, false)] (hexI x = (-1 : Int) ∧ True) (oc8 gg0 gg0 gg1 gg1 gg2 gg2 gg3 gg3 (oc9 gg4 gg4 gg5 gg5 gg6 gg6 gg7 gg7 gg8 (oc9 gg8 gg9 gg9 gg10 gg10 gg11 gg11 gg12 gg12 (oc9 gg13 gg13 gg14 gg14 gg15 gg15 gg16 gg16 gg17 (oc9 gg17 gg18 gg18 gg19 gg19 gg20 gg20 gg21 gg21 okn))))) ?_)) fun gg21 => (rEn baseO 900 (99) 900 80 (hI 125 861869034472834162725400530303557013021990802031524877856517264263597576191) ([]) [(wn1 x), (wn1 x), (wn2 x), (wn2 x), (wn3 x), (wn3 x), (wn4 x), (wn4 x), (wn5 x), (wn5 x), (wn6 x), (wn6 x), (wn7 x), (wn7 x), (wn8 x), (wn8 x), (wn10 x), (wn10 x), (wn12 x), (wn12 x), (wn13 x), (wn13 x), (wn14 x), (wn14 x), (wn16 x), (wn16 x), (wn17 x), (wn17 x), (wn19 x), (wn19 x), (wn20 x), (wn20 x), (wn23 x), (wn23 x), (wn27 x), (wn27 x), (wn31 x), (wn31 x), (wn34 x), (wn34 x), (wn36 == x, false), (wn36 == x, false), (wn40 == x, true), (wn40 == x, true)] (wn43 x) (oc8 gg0 gg0 gg1 gg1 gg2 gg2 gg3 gg3 (oc9 gg4 gg4 gg5 gg5 gg6 gg6 gg7 gg7 gg8 (oc9 gg8 gg9 gg9 gg10 gg10 gg11 gg11 gg12 gg12 (oc9 gg13 gg13 gg14 gg14 gg15 gg15 gg16 gg16 gg17 (oc9 gg17 gg18 gg18 gg19 gg19 gg20 gg20 gg21 gg21 okn))))) ?_))) fun gg20 => (rEn baseO 900 (99) 900 80 (hI 120 841668978977377423977562705186702701452702208408303167216554723516403711) ([]) [(wn1 x), (wn1 x), (wn2 x), (wn2 x), (wn3 x), (wn3 x), (wn4 x), (wn4 x), (wn5 x), (wn5 x), (wn6 x), (wn6 x), (wn7 x), (wn7 x), (wn8 x), (wn8 x), (wn10 x), (wn10 x), (wn12 x), (wn12 x), (wn13 x), (wn13 x), (wn14 x), (wn14 x), (wn16 x), (wn16 x), (wn17 x), (wn17 x), (wn19 x), (wn19 x), (wn20 x), (wn20 x), (wn23 x), (wn23 x), (wn27 x), (wn27 x), (wn31 x), (wn31 x), (wn34 x), (wn34 x), (wn36 == x, true), (wn36 == x, true)] (wn42 x) (oc6 gg0 gg0 gg1 gg1 gg2 gg2 (oc9 gg3 gg3 gg4 gg4 gg5 gg5 gg6 gg6 gg7 (oc9 gg7 gg8 gg8 gg9 gg9 gg10 gg10 gg11 gg11 (oc9 gg12 gg12 gg13 gg13 gg14 gg14 gg15 gg15 gg16 (oc9 gg16 gg17 gg17 gg18 gg18 gg19 gg19 gg20 gg20 okn))))) ?_))) fun gg19 => (rEn baseO 900 (99) 900 80 (hI 115 821942362282907081641838391419195280301720299790887246534499356168191) ([]) [(wn1 x), (wn1 x), (wn2 x), (wn2 x), (wn3 x), (wn3 x), (wn4 x), (wn4 x), (wn5 x), (wn5 x), (wn6 x), (wn6 x), (wn7 x), (wn7 x), (wn8 x), (wn8 x), (wn10 x), (wn10 x), (wn12 x), (wn12 x), (wn13 x), (wn13 x), (wn14 x), (wn14 x), (wn16 x), (wn16 x), (wn17 x), (wn17 x), (wn19 x), (wn19 x), (wn20 x), (wn20 x), (wn23 x), (wn23 x), (wn27 x), (wn27 x), (wn31 x), (wn31 x), ((↑(68 : Nat) : Int) == x, true), ((↑(68 : Nat) : Int) == x, true)] (wn38 x) (oc4 gg0 gg0 gg1 gg1 (oc9 gg2 gg2 gg3 gg3 gg4 gg4 gg5 gg5 gg6 (oc9 gg6 gg7 gg7 gg8 gg8 gg9 gg9 gg10 gg10 (oc9 gg11 gg11 gg12 gg12 gg13 gg13 gg14 gg14 gg15 (oc9 gg15 gg16 gg16 gg17 gg17 gg18 gg18 gg19 gg19 okn))))) ?_))) fun gg18 => (rEn baseO 900 (99) 900 80 (hI 110 802678088478842485665669939426231305235448122418223126276481011711) ([]) [(wn1 x), (wn1 x), (wn2 x), (wn2 x), (wn3 x), (wn3 x), (wn4 x), (wn4 x), (wn5 x), (wn5 x), (wn6 x), (wn6 x), (wn7 x), (wn7 x), (wn8 x), (wn8 x), (wn10 x), (wn10 x), (wn12 x), (wn12 x), (wn13 x), (wn13 x), (wn14 x), (wn14 x), (wn16 x), (wn16 x), (wn17 x), (wn17 x), (wn19 x), (wn19 x), (wn20 x), (wn20 x), (wn23 x), (wn23 x), (wn27 x), (wn27 x), ((↑(67 : Nat) : Int) == x, true), ((↑(67 : Nat) : Int) == x, true)] (wn41 x) (oc2 gg0 gg0 (oc9 gg1 gg1 gg2 gg2 gg3 gg3 gg4 gg4 gg5 (oc9 gg5 gg6 gg6 gg7 gg7 gg8 gg8 gg9 gg9 (oc9 gg10 gg10 gg11 gg11 gg12 gg12 gg13 gg13 gg14 (oc9 gg14 gg15 gg15 gg16 gg16 gg17 gg17 gg18 gg18 okn))))) ?_))) fun gg17 => (rEn baseO 900 (99) 900 80 (hI 105 783865632721158364720016106144343324818384460733845604388360191) ([]) [(wn1 x), (wn1 x), (wn2 x), (wn2 x), (wn3 x), (wn3 x), (wn4 x), (wn4 x), (wn5 x), (wn5 x), (wn6 x), (wn6 x), (wn7 x), (wn7 x), (wn8 x), (wn8 x), (wn10 x), (wn10 x), (wn12 x), (wn12 x), (wn13 x), (wn13 x), (wn14 x), (wn14 x), (wn16 x), (wn16 x), (wn17 x), (wn17 x), (wn19 x), (wn19 x), (wn20 x), (wn20 x), (wn23 x), (wn23 x), ((↑(66 : Nat) : Int) == x, true), ((↑(66 : Nat) : Int) == x, true)] (wn39 x) (oc9 gg0 gg0 gg1 gg1 gg2 gg2 gg3 gg3 gg4 (oc9 gg4 gg5 gg5 gg6 gg6 gg7 gg7 gg8 gg8 (oc9 gg9 gg9 gg10 gg10 gg11 gg11 gg12 gg12 gg13 (oc9 gg13 gg14 gg14 gg15 gg15 gg16 gg16 gg17 gg17 okn)))) ?_))) fun gg16 => (rEn baseO 900 (99) 900 80 (hI 100 765805722993006027682196652070901077535107259734978732019711) ([]) [(wn1 x), (wn1 x), (wn2 x), (wn2 x), (wn3 x), (wn3 x), (wn4 x), (wn4 x), (wn5 x), (wn5 x), (wn6 x), (wn6 x), (wn7 x), (wn7 x), (wn8 x), (wn8 x), (wn10 x), (wn10 x), (wn12 x), (wn12 x), (wn13 x), (wn13 x), (wn14 x), (wn14 x), (wn16 x), (wn16 x), (wn17 x), (wn17 x), (wn19 x), (wn19 x), (wn20 x), (wn20 x), ((↑(65 : Nat) : Int) == x, true), ((↑(65 : Nat) : Int) == x, true)] (hexI x = IntKind.i64.wrap ((10 : Int) + 0) ∧ True) (oc7 gg0 gg0 gg1 gg1 gg2 gg2 gg3 (oc9 gg3 gg4 gg4 gg5 gg5 gg6 gg6 gg7 gg7 (oc9 gg8 gg8 gg9 gg9 gg10 gg10 gg11 gg11 gg12 (oc9 gg12 gg13 gg13 gg14 gg14 gg15 gg15 gg16 gg16 okn)))) ?_))) fun gg15 => (rEn baseO 900 (99) 900 80 (hI 90 730031468416742899994503024503767793792546194480484351) ([]) [(wn1 x), (wn1 x), (wn2 x), (wn2 x), (wn3 x), (wn3 x), (wn4 x), (wn4 x), (wn5 x), (wn5 x), (wn6 x), (wn6 x), (wn7 x), (wn7 x), (wn8 x), (wn8 x), (wn10 x), (wn10 x), (wn12 x), (wn12 x), (wn13 x), (wn13 x), (wn14 x), (wn14 x), (wn16 x), (wn16 x), (wn17 x), (wn17 x), (wn19 x), (wn19 x), ((↑(102 : Nat) : Int) == x, true), ((↑(102 : Nat) : Int) == x, true)] (wn43 x) (oc5 gg0 gg0 gg1 gg1 gg2 (oc9 gg2 gg3 gg3 gg4 gg4 gg5 gg5 gg6 gg6 (oc9 gg7 gg7 gg8 gg8 gg9 gg9 gg10 gg10 gg11 (oc9 gg11 gg12 gg12 gg13 gg13 gg14 gg14 gg15 gg15 okn)))) ?_))) fun gg14 => (rEn baseO 900 (99) 900 80 (hI 85 712921355875725752500219281688241323842736884600831) ([]) [(wn1 x), (wn1 x), (wn2 x), (wn2 x), (wn3 x), (wn3 x), (wn4 x), (wn4 x), (wn5 x), (wn5 x), (wn6 x), (wn6 x), (wn7 x), (wn7 x), (wn8 x), (wn8 x), (wn10 x), (wn10 x), (wn12 x), (wn12 x), (wn13 x), (wn13 x), (wn14 x), (wn14 x), (wn16 x), (wn16 x), (wn17 x), (wn17 x), ((↑(101 : Nat) : Int) == x, true), ((↑(101 : Nat) : Int) == x, true)] (wn42 x) (oc3 gg0 gg0 gg1 (oc9 gg1 gg2 gg2 gg3 gg3 gg4 gg4 gg5 gg5 (oc9 gg6 gg6 gg7 gg7 gg8 gg8 gg9 gg9 gg10 (oc9 gg10 gg11 gg11 gg12 gg12 gg13 gg13 gg14 gg14 okn)))) ?_))) fun gg13 => (rEn baseO 900 (99) 900 80 (hI 80 696212261597652654513417213554260885018664292351) ([]) [(wn1 x), (wn1 x), (wn2 x), (wn2 x), (wn3 x), (wn3 x), (wn4 x), (wn4 x), (wn5 x), (wn5 x), (wn6 x), (wn6 x), (wn7 x), (wn7 x), (wn8 x), (wn8 x), (wn10 x), (wn10 x), (wn12 x), (wn12 x), (wn13 x), (wn13 x), (wn14 x), (wn14 x), (wn16 x), (wn16 x), ((↑(100 : Nat) : Int) == x, true), ((↑(100 : Nat) : Int) == x, true)] (wn38 x) (oc1 gg0 (oc9 gg0 gg1 gg1 gg2 gg2 gg3 gg3 gg4 gg4 (oc9 gg5 gg5 gg6 gg6 gg7 gg7 gg8 gg8 gg9 (oc9 gg9 gg10 gg10 gg11 gg11 gg12 gg12 gg13 gg13 okn)))) ?_))) fun gg12 => (rEn baseO 900 (99) 900 80 (hI 75 679894786980682007845080278199300099017592831) ([]) [(wn1 x), (wn1 x), (wn2 x), (wn2 x), (wn3 x), (wn3 x), (wn4 x), (wn4 x), (wn5 x), (wn5 x), (wn6 x), (wn6 x), (wn7 x), (wn7 x), (wn8 x), (wn8 x), (wn10 x), (wn10 x), (wn12 x), (wn12 x), (wn13 x), (wn13 x), (wn14 x), (wn14 x), ((↑(99 : Nat) : Int) == x, true), ((↑(99 : Nat) : Int) == x, true)] (wn41 x) (oc8 gg0 gg0 gg1 gg1 gg2 gg2 gg3 gg3 (oc9 gg4 gg4 gg5 gg5 gg6 gg6 gg7 gg7 gg8 (oc9 gg8 gg9 gg9 gg10 gg10 gg11 gg11 gg12 gg12 okn))) ?_))) fun gg11 => (rEn baseO 900 (99) 900 80 (hI 70 663960017135159695107491796896207494500351) ([]) [(wn1 x), (wn1 x), (wn2 x), (wn2 x), (wn3 x), (wn3 x), (wn4 x), (wn4 x), (wn5 x), (wn5 x), (wn6 x), (wn6 x), (wn7 x), (wn7 x), (wn8 x), (wn8 x), (wn10 x), (wn10 x), (wn12 x), (wn12 x), (wn13 x), (wn13 x), ((↑(98 : Nat) : Int) == x, true), ((↑(98 : Nat) : Int) == x, true)] (wn39 x) (oc6 gg0 gg0 gg1 gg1 gg2 gg2 (oc9 gg3 gg3 gg4 gg4 gg5 gg5 gg6 gg6 gg7 (oc9 gg7 gg8 gg8 gg9 gg9 gg10 gg10 gg11 gg11 okn))) ?_))) fun gg10 => (rEn baseO 900 (99) 900 80 (hI 65 648662678570976211033997675109944184831) ([]) [(wn1 x), (wn1 x), (wn2 x), (wn2 x), (wn3 x), (wn3 x), (wn4 x), (wn4 x), (wn5 x), (wn5 x), (wn6 x), (wn6 x), (wn7 x), (wn7 x), (wn8 x), (wn8 x), (wn10 x), (wn10 x), (wn12 x), (wn12 x), ((↑(97 : Nat) : Int) == x, true), ((↑(97 : Nat) : Int) == x, true)] (hexI x = IntKind.i64.wrap ((10 : Int) + 0) ∧ True) (oc4 gg0 gg0 gg1 gg1 (oc9 gg2 gg2 gg3 gg3 gg4 gg4 gg5 gg5 gg6 (oc9 gg6 gg7 gg7 gg8 gg8 gg9 gg9 gg10 gg10 okn))) ?_))) fun gg9 => (rEn baseO 900 (99) 900 80 (hI 53 70735646982823311001991990005759) ([]) [(wn1 x), (wn1 x), (wn2 x), (wn2 x), (wn3 x), (wn3 x), (wn4 x), (wn4 x), (wn5 x), (wn5 x), (wn6 x), (wn6 x), (wn7 x), (wn7 x), (wn8 x), (wn8 x), (wn10 x), (wn10 x), ((↑(57 : Nat) : Int) == x, true)] (hexI x = IntKind.i64.wrap (IntKind.i64.wrap (IntKind.i64.wrap wn33 + 1) + 1) ∧ True) (oc1 gg0 (oc9 gg0 gg1 gg1 gg2 gg2 gg3 gg3 gg4 gg4 (oc9 gg5 gg5 gg6 gg6 gg7 gg7 gg8 gg8 gg9 okn))) ?_))) fun gg8 => (rEn baseO 900 (99) 900 80 (hI 48 69077780256663389650382802943) ([]) [(wn1 x), (wn1 x), (wn2 x), (wn2 x), (wn3 x), (wn3 x), (wn4 x), (wn4 x), (wn5 x), (wn5 x), (wn6 x), (wn6 x), (wn7 x), (wn7 x), (wn8 x), (wn8 x), ((↑(56 : Nat) : Int) == x, true)] (hexI x = IntKind.i64.wrap (IntKind.i64.wrap wn33 + 1) ∧ True) (oc8 gg0 gg0 gg1 gg1 gg2 gg2 gg3 gg3 (oc9 gg4 gg4 gg5 gg5 gg6 gg6 gg7 gg7 gg8 okn)) ?_))) fun gg7 => (rEn baseO 900 (99) 900 80 (hI 43 67458769781897841455452159) ([]) [(wn1 x), (wn1 x), (wn2 x), (wn2 x), (wn3 x), (wn3 x), (wn4 x), (wn4 x), (wn5 x), (wn5 x), (wn6 x), (wn6 x), (wn7 x), (wn7 x), ((↑(55 : Nat) : Int) == x, true)] (hexI x = IntKind.i64.wrap wn33 ∧ True) (oc6 gg0 gg0 gg1 gg1 gg2 gg2 (oc9 gg3 gg3 gg4 gg4 gg5 gg5 gg6 gg6 gg7 okn)) ?_))) fun gg6 => (rEn baseO 900 (99) 900 80 (hI 38 65877704865134610796543) ([]) [(wn1 x), (wn1 x), (wn2 x), (wn2 x), (wn3 x), (wn3 x), (wn4 x), (wn4 x), (wn5 x), (wn5 x), (wn6 x), (wn6 x), ((↑(54 : Nat) : Int) == x, true)] (hexI x = IntKind.i64.wrap (IntKind.i64.wrap wn37 + 1) ∧ True) (oc4 gg0 gg0 gg1 gg1 (oc9 gg2 gg2 gg3 gg3 gg4 gg4 gg5 gg5 gg6 okn)) ?_))) fun gg5 => (rEn baseO 900 (99) 900 80 (hI 33 64333696157358018559) ([]) [(wn1 x), (wn1 x), (wn2 x), (wn2 x), (wn3 x), (wn3 x), (wn4 x), (wn4 x), (wn5 x), (wn5 x), ((↑(53 : Nat) : Int) == x, true)] (hexI x = IntKind.i64.wrap wn37 ∧ True) (oc2 gg0 gg0 (oc9 gg1 gg1 gg2 gg2 gg3 gg3 gg4 gg4 gg5 okn)) ?_))) fun gg4 => (rEn baseO 900 (99) 900 80 (hI 28 62825875153670143) ([]) [(wn1 x), (wn1 x), (wn2 x), (wn2 x), (wn3 x), (wn3 x), (wn4 x), (wn4 x), ((↑(52 : Nat) : Int) == x, true)] (hexI x = IntKind.i64.wrap wn9 ∧ True) (oc9 gg0 gg0 gg1 gg1 gg2 gg2 gg3 gg3 gg4 okn) ?_))) fun gg3 => (rEn baseO 900 (99) 900 80 (hI 23 61353393704959) ([]) [(wn1 x), (wn1 x), (wn2 x), (wn2 x), (wn3 x), (wn3 x), ((↑(51 : Nat) : Int) == x, true)] (hexI x = IntKind.i64.wrap wn45 ∧ True) (oc7 gg0 gg0 gg1 gg1 gg2 gg2 gg3 okn) ?_))) fun gg2 => (rEn baseO 900 (99) 900 80 (hI 18 59915423743) ([]) [(wn1 x), (wn1 x), (wn2 x), (wn2 x), ((↑(50 : Nat) : Int) == x, true)] (hexI x = IntKind.i64.wrap wn28 ∧ True) (oc5 gg0 gg0 gg1 gg1 gg2 okn) ?_))) fun gg1 => (rEn baseO 900 (99) 900 80 (hI 13 58511359) ([]) [(wn1 x), (wn1 x), ((↑(49 : Nat) : Int) == x, true)] (hexI x = IntKind.i64.wrap ((0 : Int) + 1) ∧ True) (oc3 gg0 gg0 gg1 okn) ?_))) fun gg0 => (rEn baseO 900 (99) 900 80 (hI 8 57343) ([]) [((↑(48 : Nat) : Int) == x, true)] (hexI x = (0 : Int) ∧ True) (oc1 gg0 okn) ?_)
  all_goals try dsimp only [wn1, wn2, wn3, wn4, wn5, wn6, wn7, wn8, wn10, wn12, wn13, wn14, wn16, wn17, wn19, wn20, wn23, wn27, wn31, wn34, wn36, wn40, wn43, wn37, wn9, wn45, wn28, wn42, wn38, wn41, wn39, wn33] at *
  all_goals exact sc34

def rdP : PC := { args := [.v (.vi .u8 0)], heap := [], gs := [], G := 23, tp := 213, n := 80, n' := 120, cond := fun e => decide (0 ≤ eI e 0 [] ∧ eI e 0 [] < 256), v := fun e => vN (hexI (eI e 0 [])), post := fun e => [] }
theorem rdP_pc : PC.Runs Tryd.prog 120 Tryd.f120 (bodyOf Tryd.f120) rdP := ⟨Tryd.func120, by kernel_rfl, (fun g hg => by first | (cases hg; done) | (revert g; show ∀ g ∈ ([] : List Nat), g < 23; decide)), fun e H hc => by
  have hc : (decide (0 ≤ eI e 0 [] ∧ eI e 0 [] < 256)) = true := hc
  try simp only [Bool.and_eq_true, decide_eq_true_eq, Nat.beq_eq] at hc
  exact rdT (eI e 0 []) hc⟩
end Go.Proofs.YtaleenklamognaaDoor

set_option linter.unusedSimpArgs false
set_option linter.unusedVariables false
set_option maxRecDepth 100000
namespace Go.Proofs.YtaleenklamognaaDoor
open Go.Sx

open WordR
def rwB (l : Nat) (b : List UInt8) : List Ent := [⟨l, true, none, 1, .ta b.length (.vi .u8 fun is => ((b.getD (is.headD 0) 0).toNat : Int))⟩]
def namI (s : List UInt8) : Bool := if s.length = 1 ∧ figI ((s.getD 0 0).toNat : Int) = true then true else if spanR goI s < s.length then false else decide (s ≠ []) && decide (s.length ≤ 24) && ltrI ((s.getD 0 0).toNat : Int)
def hexS : List UInt8 := [48, 49, 50, 51, 52, 53, 54, 55, 56, 57, 97, 98, 99, 100, 101, 102]
def toldI (x : Int) (p : Bool) : List UInt8 :=
  if x = 10 then [92, 110] else if x = 13 then [92, 114] else if x = 9 then [92, 116] else if x = 34 ∨ x = 36 ∨ x = 92 then [92, UInt8.ofNat x.toNat]
  else if p = true ∧ 32 ≤ x ∧ x ≤ 126 then [UInt8.ofNat x.toNat] else [92, 120, hexS.getD (x / 16).toNat 0, hexS.getD (x % 16).toNat 0]
def rgtAt (V L : Ix → List UInt8) (i : Nat) : Bool :=
  if V [i] ≠ [] then decide (L [i] = []) && namI (V [i]) else decide (L [i] ≠ []) && !(decide (0 < i) && decide (V [i - 1] = []))
def rgtI (n : Nat) (V L : Ix → List UInt8) : Bool := (List.range n).all (rgtAt V L) && fitsP (pcsOf n V L)
def lnB (V L : Ix → List UInt8) (n : Nat) : Bool := (List.range n).all fun i => decide ((V [i]).length ≤ 1000 ∧ (L [i]).length ≤ 1000)
def sumsQN : List (FuncId × Summ) := [(66, bgP.summ 46), (91, fgP.summ 46), (68, goP.summ 46)]
theorem baseQN : Base0 Tryd.prog sumsQN := (((baseO.cons Tryd.func68 (by kernel_rfl) (PC.summ_ok goP_pc gtopG)).cons Tryd.func91 (by kernel_rfl) (PC.summ_ok fgP_pc gtopG)).cons Tryd.func66 (by kernel_rfl) (PC.summ_ok bgP_pc gtopG))

variable (M : Nat) (V : Ix → List UInt8) (i n : Nat) (s : List UInt8) (x : Int)
abbrev qa1 := [(92 : UInt8), (120 : UInt8), hexS.getD (x / (16 : Int)).toNat (0 : UInt8), hexS.getD (x % (16 : Int)).toNat (0 : UInt8)] = [(92 : UInt8), (120 : UInt8)] ++ bytesOf (upd (upd (fun is => (0 : Int)) [(0 : Nat)] (↑([(48 : UInt8), (49 : UInt8), (50 : UInt8), (51 : UInt8), (52 : UInt8), (53 : UInt8), (54 : UInt8), (55 : UInt8), (56 : UInt8), (57 : UInt8), (97 : UInt8), (98 : UInt8), (99 : UInt8), (100 : UInt8), (101 : UInt8), (102 : UInt8)].getD (ishr IntKind.u8 x (4 : Int)).toNat (0 : UInt8)).toNat : Int)) [(1 : Nat)] (↑([(48 : UInt8), (49 : UInt8), (50 : UInt8), (51 : UInt8), (52 : UInt8), (53 : UInt8), (54 : UInt8), (55 : UInt8), (56 : UInt8), (57 : UInt8), (97 : UInt8), (98 : UInt8), (99 : UInt8), (100 : UInt8), (101 : UInt8), (102 : UInt8)].getD (iand IntKind.u8 x (15 : Int)).toNat (0 : UInt8)).toNat : Int)) [] (0 : Nat) (2 : Nat) ∧ True
abbrev qa23 := 0 + (i : Int).toNat
abbrev qa2 := ((qa23 i).blt M, true)
abbrev qa3 := [(92 : UInt8), UInt8.ofNat x.toNat] = bytesOf (upd (upd (fun is => (0 : Int)) [(0 : Nat)] (92 : Int)) [(1 : Nat)] x) [] (0 : Nat) (2 : Nat) ∧ True
abbrev qa4 := (decide (0 ≤ (i : Int) ∧ (i : Int) < (n : Int)), true)
abbrev qa5 := ((0 = 0 ∧ n = n) ∧ (0 = 0 ∧ n = n) ∧ (n : Int) = (n : Int) ∧ (↑(i + (1 : Nat)) : Int) = IntKind.i64.wrap ((i : Int) + 1)) ∧ True
abbrev qa9 := (↑s.length : Int)
abbrev qa24 := (↑(s.getD i (0 : UInt8)).toNat : Int)
abbrev qa6 := ((s = s ∧ (0 = 0 ∧ s.length = s.length) ∧ (qa9 s) = (qa9 s) ∧ (↑(0 : Nat) : Int) = (0 : Int)) ∧ s.length = s.length ∧ ∀ (i : Nat), i < s.length → (qa24 i s) = (qa24 i s))
abbrev qa7 := (decide ((0 : Int) ≤ iand IntKind.u8 x (15 : Int) ∧ iand IntKind.u8 x (15 : Int) < (↑(16 : Nat) : Int)), true)
abbrev qa8 := (decide ((0 : Int) ≤ ishr IntKind.u8 x (4 : Int) ∧ ishr IntKind.u8 x (4 : Int) < (↑(16 : Nat) : Int)), true)
abbrev qa16 := Sx.look ([])
abbrev qa10 := RunsTo Tryd.prog 62 (headOf Tryd.f62 0) (envAt Tryd.f62.ntmps ([(0, vS s), (14, vL 101 1 s.length), (15, vN s.length), (16, vN (i : Nat))])) (Sx.look ([] ++ (rwB 101 s))) 80 (vB false) qa16 160
abbrev qa11 := (decide ((i : Int) < (n : Int)), true)
abbrev qa12 := (↑(s.getD (0 : Nat) (0 : UInt8)).toNat : Int)
abbrev qa13 := ((0 + (IntKind.i64.wrap ((i : Int) - 1)).toNat).blt M, true)
abbrev qa14 := (x == (10 : Int), false)
abbrev qa15 := Sx.look ([] ++ ([]))
abbrev qa17 := false = false ∧ True
abbrev qa18 := (x == (13 : Int), false)
abbrev qa19 := (x == (9 : Int), false)
abbrev qa20 := (decide ((0 : Int) ≤ 0 ∧ (0 : Int) < (qa9 s)), true)
abbrev qa21 := (decide (0 ≤ IntKind.i64.wrap ((i : Int) - 1) ∧ IntKind.i64.wrap ((i : Int) - 1) < (n : Int)), true)
abbrev qa22 := (x == (34 : Int), false)
abbrev qa25 := (x == (36 : Int), false)
abbrev qa26 := (!V [0 + (i : Int).toNat] == [], false)
abbrev qa27 := decide (s ≠ []) && decide (s.length ≤ (24 : Nat)) && ltrI (qa12 s)
set_option maxHeartbeats 4000000 in
theorem nm1 (s : List UInt8) (hl : s.length = 1) (hf : figI ((s.getD 0 0).toNat : Int) = true)  :
    (RunsTo Tryd.prog 62 [.code (bodyOf Tryd.f62)] (envOf [vS s] Tryd.f62.ntmps) qa15 80 (YES) qa16 160) := by
  have E' := (⟨hl, hf⟩ : _ ∧ _)
  refine rEn baseQN 300 (99) 900 80 (hI 4 117) ([]) [((qa9 s) == 1, true), (qa20 s), (figI (qa12 s), true)] (true = true ∧ True) (oc3 ?_ ?_ ?_ okn) ?_
  all_goals try dsimp only [qa9, qa20, qa12]
  all_goals exact sc7

set_option maxHeartbeats 4000000 in
theorem nm0 (s : List UInt8) (hl : s.length ≠ 1) (hs : s.length ≤ 100000)  (v : SV) (L' : HF) (next : RunsTo Tryd.prog 62 (headOf Tryd.f62 0) (envAt Tryd.f62.ntmps ([(0, vS s), (14, vL 101 1 s.length), (15, vN s.length), (16, vN (0 : Nat))])) (Sx.look ([] ++ (rwB 101 s))) 80 (v) (L') 160) :
    RunsTo Tryd.prog 62 [.code (bodyOf Tryd.f62)] (envOf [vS s] Tryd.f62.ntmps) (Sx.look ([] ++ ([]))) 80 (v) (L') 160 := by
  refine rMo baseQN 300 (behind Tryd.f62 0) 900 80 (hI 1 0) ([((101 : Nat), Rn.to (80 : Nat))]) [((qa9 s) == 1, false)] (qa6 s) next (oc1 ?_ okn) ?_
  all_goals clear next; try dsimp only [qa9, qa6, qa24]
  all_goals exact sc6

set_option maxHeartbeats 4000000 in
theorem nm0b (s : List UInt8) (hl : s.length = 1) (hf : figI ((s.getD 0 0).toNat : Int) = false) (hs : s.length ≤ 100000)  (v : SV) (L' : HF) (next : RunsTo Tryd.prog 62 (headOf Tryd.f62 0) (envAt Tryd.f62.ntmps ([(0, vS s), (14, vL 101 1 s.length), (15, vN s.length), (16, vN (0 : Nat))])) (Sx.look ([] ++ (rwB 101 s))) 80 (v) (L') 160) :
    RunsTo Tryd.prog 62 [.code (bodyOf Tryd.f62)] (envOf [vS s] Tryd.f62.ntmps) (Sx.look ([] ++ ([]))) 80 (v) (L') 160 := by
  have E' := (⟨hl, hf⟩ : _ ∧ _)
  refine rMo baseQN 300 (behind Tryd.f62 0) 900 80 (hI 4 53) ([((101 : Nat), Rn.to (90 : Nat))]) [((qa9 s) == 1, true), (qa20 s), (figI (qa12 s), false)] (qa6 s) next (oc3 ?_ ?_ ?_ okn) ?_
  all_goals clear next; try dsimp only [qa9, qa20, qa12, qa6, qa24]
  all_goals exact sc7

set_option maxHeartbeats 4000000 in
theorem nm2 (s : List UInt8) (i : Nat) (hi : i < s.length) (hs : s.length ≤ 100000) (h : goI ((s.getD i 0).toNat : Int) = true)  (v : SV) (L' : HF) (next : RunsTo Tryd.prog 62 (headOf Tryd.f62 0) (envAt Tryd.f62.ntmps ([(0, vS s), (14, vL 101 1 s.length), (15, vN s.length), (16, vN (i + 1 : Nat))])) (Sx.look ([] ++ (rwB 101 s))) 80 (v) (L') 160) :
    RunsTo Tryd.prog 62 (headOf Tryd.f62 0) (envAt Tryd.f62.ntmps ([(0, vS s), (14, vL 101 1 s.length), (15, vN s.length), (16, vN (i : Nat))])) (Sx.look ([] ++ (rwB 101 s))) 80 (v) (L') 160 := by
  have hw : IntKind.i64.wrap ((i : Int) + 1) = ((i + 1 : Nat) : Int) := by rw [wr64 (by omega)]; rfl
  have E' := (⟨hw, h⟩ : _ ∧ _)
  refine rMo baseQN 300 (behind Tryd.f62 0) 900 110 (hI 6 853) ([]) [(decide ((i : Int) < (qa9 s)), true), (decide (0 ≤ (i : Int) ∧ (i : Int) < (qa9 s)), true), ((qa23 i).blt s.length, true), ((qa23 i).blt s.length, true), (!goI (↑(s.getD (qa23 i) (0 : UInt8)).toNat : Int), false)] ((s = s ∧ (0 = 0 ∧ s.length = s.length) ∧ (qa9 s) = (qa9 s) ∧ (↑(i + (1 : Nat)) : Int) = IntKind.i64.wrap ((i : Int) + 1)) ∧ s.length = s.length ∧ ∀ (i : Nat), i < s.length → (qa24 i s) = (qa24 i s)) next (oc5 ?_ ?_ ?_ ?_ ?_ okn) ?_
  all_goals clear next; try dsimp only [qa9, qa23, qa24]
  all_goals exact sc7

set_option maxHeartbeats 4000000 in
theorem nm3 (s : List UInt8) (i : Nat) (hi : i < s.length) (h : goI ((s.getD i 0).toNat : Int) = false)  :
    (qa10 i s) := by
  have E' := h
  refine rEn baseQN 300 (99) 900 110 (hI 6 1877) ([]) [(decide ((i : Int) < (qa9 s)), true), (decide (0 ≤ (i : Int) ∧ (i : Int) < (qa9 s)), true), ((qa23 i).blt s.length, true), ((qa23 i).blt s.length, true), (!goI (↑(s.getD (qa23 i) (0 : UInt8)).toNat : Int), true)] qa17 (oc5 ?_ ?_ ?_ ?_ ?_ okn) ?_
  all_goals try dsimp only [qa9, qa23, qa17]
  all_goals exact sc7

set_option maxHeartbeats 4000000 in
theorem nm4e (s : List UInt8) (i : Nat) (hi : i = s.length) (h : s = [])  :
    (qa10 i s) := by
  refine rEn baseQN 300 (99) 900 110 (hI 2 0) ([]) [(decide ((i : Int) < (qa9 s)), false), (!s == [], false)] qa17 (oc2 ?_ ?_ okn) ?_
  all_goals try dsimp only [qa9, qa17]
  all_goals exact sc6

set_option maxHeartbeats 4000000 in
theorem nm4 (s : List UInt8) (i : Nat) (hi : i = s.length) (h : s ≠ []) (hp : 0 < s.length)  :
    (RunsTo Tryd.prog 62 (headOf Tryd.f62 0) (envAt Tryd.f62.ntmps ([(0, vS s), (14, vL 101 1 s.length), (15, vN s.length), (16, vN (i : Nat))])) (Sx.look ([] ++ (rwB 101 s))) 80 (vB (decide (s ≠ []) && decide (s.length ≤ 24) && ltrI ((s.getD 0 0).toNat : Int))) qa16 160) := by
  refine bcase (fun gg0 => (rEn baseQN 300 (99) 900 110 (hI 3 4) ([]) [(decide ((i : Int) < (qa9 s)), false), (!s == [], true), (decide ((qa9 s) ≤ 24), false)] ((qa27 s) = false ∧ True) (oc3 ?_ ?_ gg0 okn) ?_)) fun gg0 => (rEn baseQN 300 (99) 900 110 (hI 5 852) ([]) [(decide ((i : Int) < (qa9 s)), false), (!s == [], true), (decide ((qa9 s) ≤ 24), true), (qa20 s)] ((qa27 s) = ltrI (qa12 s) ∧ True) (oc4 ?_ ?_ gg0 ?_ okn) ?_)
  all_goals try dsimp only [qa9, qa27, qa12, qa20] at *
  all_goals exact sc35

theorem lnB_at {V L : Ix → List UInt8} {n i : Nat} (h : lnB V L n = true) (hi : i < n) : (V [i]).length ≤ 1000 ∧ (L [i]).length ≤ 1000 := of_decide_eq_true (List.all_eq_true.1 h i (List.mem_range.2 hi))
theorem spn_all {p : Int → Bool} : ∀ (s : List UInt8), (∀ j, j < s.length → p ((s.getD j 0).toNat : Int) = true) → spanR p s = s.length
  | [], _ => rfl
  | c :: r, h => by
    have h0 := h 0 (by simp)
    rw [spanR, if_pos (by simpa [nat] using h0), spn_all r (fun j hj => by have := h (j + 1) (by simp; omega); simpa using this)]; rfl
theorem spn_at {p : Int → Bool} : ∀ (s : List UInt8) (j : Nat), j < spanR p s → p ((s.getD j 0).toNat : Int) = true
  | [], j, h => by simp [spanR] at h
  | c :: r, j, h => by
    rw [spanR] at h
    by_cases hc : p (nat c) = true
    · rw [if_pos hc] at h
      cases j with
      | zero => simpa [nat] using hc
      | succ j => have := spn_at (p := p) r j (by omega); simpa using this
    · rw [if_neg hc] at h; omega
theorem spn_take {p : Int → Bool} (s : List UInt8) {i : Nat} (hi : i < s.length) (hp : spanR p (s.take i) = i) (h : p ((s.getD i 0).toNat : Int) = true) : spanR p (s.take (i + 1)) = i + 1 := by
  have := spn_all (p := p) (s.take (i + 1)) (fun j hj => by
    have hj' : j < i + 1 := by simp at hj; omega
    have e : (s.take (i + 1)).getD j 0 = s.getD j 0 := by simp [List.getD_eq_getElem?_getD, List.getElem?_take, hj']
    rw [e]
    by_cases hji : j = i
    · rw [hji]; exact h
    · have q := spn_at (p := p) (s.take i) j (by omega)
      have e2 : (s.take i).getD j 0 = s.getD j 0 := by simp [List.getD_eq_getElem?_getD, List.getElem?_take, show j < i by omega]
      rw [e2] at q; exact q)
  rw [this]; simp; omega
theorem spn_stop {p : Int → Bool} (s : List UInt8) {i : Nat} (hi : i < s.length) (h : p ((s.getD i 0).toNat : Int) = false) : spanR p s < s.length := by
  rcases Nat.lt_or_ge (spanR p s) s.length with h1 | h1
  · exact h1
  · have := spn_at (p := p) s i (by omega)
    rw [h] at this; cases this
theorem nmT (s : List UInt8) (hs : s.length ≤ 100000) : RunsTo Tryd.prog 62 [.code (bodyOf Tryd.f62)] (envOf [vS s] Tryd.f62.ntmps) (Sx.look ([] ++ ([]))) 80 (vB (namI s)) (Sx.look []) 160 := by
  by_cases hl : s.length = 1 ∧ figI ((s.getD 0 0).toNat : Int) = true
  · have := nm1 s hl.1 hl.2
    rw [namI, if_pos hl]; exact this
  · have go : ∀ v L', (RunsTo Tryd.prog 62 (headOf Tryd.f62 0) (envAt Tryd.f62.ntmps ([(0, vS s), (14, vL 101 1 s.length), (15, vN s.length), (16, vN (0 : Nat))])) (Sx.look ([] ++ (rwB 101 s))) 80 (v) (L') 160) → RunsTo Tryd.prog 62 [.code (bodyOf Tryd.f62)] (envOf [vS s] Tryd.f62.ntmps) (Sx.look ([] ++ ([]))) 80 (v) (L') 160 := fun v L' q => by
      by_cases h1 : s.length = 1
      · refine nm0b s h1 ?_ hs v L' q
        cases h2 : figI ((s.getD 0 0).toNat : Int) with
        | false => rfl
        | true => exact absurd ⟨h1, h2⟩ hl
      · exact nm0 s h1 hs v L' q
    refine go _ _ ?_
    suffices q : ∀ (k i : Nat), i + k = s.length → spanR goI (s.take i) = i → RunsTo Tryd.prog 62 (headOf Tryd.f62 0) (envAt Tryd.f62.ntmps ([(0, vS s), (14, vL 101 1 s.length), (15, vN s.length), (16, vN (i : Nat))])) (Sx.look ([] ++ (rwB 101 s))) 80 (vB (namI s)) (Sx.look []) 160 from q s.length 0 (by omega) (by simp [spanR])
    intro k
    induction k with
    | zero =>
      intro i hi hp
      have e : i = s.length := by omega
      subst e
      rw [List.take_length] at hp
      rw [namI, if_neg hl, if_neg (by omega)]
      by_cases h0 : s = []
      · have := nm4e s _ rfl h0
        rw [show (decide (s ≠ []) && decide (s.length ≤ 24) && ltrI ((s.getD 0 0).toNat : Int)) = false by simp [h0]]
        exact this
      · exact nm4 s _ rfl h0 (List.length_pos_iff.2 h0)
    | succ k ih =>
      intro i hi hp
      by_cases h : goI ((s.getD i 0).toNat : Int) = true
      · refine nm2 s i (by omega) hs h _ _ (ih (i + 1) (by omega) ?_)
        exact spn_take s (by omega) hp h
      · have h : goI ((s.getD i 0).toNat : Int) = false := by simpa using h
        rw [namI, if_neg hl, if_pos (spn_stop s (by omega) h)]
        exact nm3 s i (by omega) h
def nmIP : PC := { args := [.v (.vs 0)], heap := [], gs := [], G := 23, tp := 213, n := 80, n' := 160, cond := fun e => decide ((eS e 0 []).length ≤ 100000), v := fun e => vB (namI (eS e 0 [])), post := fun e => [] }
theorem nmIP_pc : PC.Runs Tryd.prog 62 Tryd.f62 (bodyOf Tryd.f62) nmIP := ⟨Tryd.func62, by kernel_rfl, (fun g hg => by first | (cases hg; done) | (revert g; show ∀ g ∈ ([] : List Nat), g < 23; decide)), fun e H hc => by
  have hc : (decide ((eS e 0 []).length ≤ 100000)) = true := hc
  try simp only [Bool.and_eq_true, decide_eq_true_eq, Nat.beq_eq] at hc
  exact nmT (eS e 0 []) hc⟩
theorem sh_all : ((List.range 256).all fun n => decide (ishr .u8 (n : Int) 4 = (n : Int) / 16 ∧ iand .u8 (n : Int) 15 = (n : Int) % 16)) = true := by kernel_rfl
theorem sh_at {x : Int} (h : 0 ≤ x ∧ x < 256) : ishr .u8 x 4 = x / 16 ∧ iand .u8 x 15 = x % 16 := by
  obtain ⟨n, rfl⟩ : ∃ n : Nat, x = (n : Int) := ⟨x.toNat, by omega⟩
  exact of_decide_eq_true (List.all_eq_true.1 sh_all n (List.mem_range.2 (by omega)))

set_option maxHeartbeats 4000000 in
theorem tlN (x : Int) (p : Bool) (h : x = 10)  :
    (RunsTo Tryd.prog 67 [.code (bodyOf Tryd.f67)] (envOf [vU x, vB p] Tryd.f67.ntmps) qa15 80 (vS [92, 110]) qa16 120) := by
  refine rEn baseO 300 (99) 900 80 (hI 1 1) ([]) [(x == (10 : Int), true)] ([(92 : UInt8), (110 : UInt8)] = [(92 : UInt8), (110 : UInt8)] ∧ True) (oc1 ?_ okn) ?_
  all_goals exact sc36

set_option maxHeartbeats 4000000 in
theorem tlR (x : Int) (p : Bool) (h : x = 13)  :
    (RunsTo Tryd.prog 67 [.code (bodyOf Tryd.f67)] (envOf [vU x, vB p] Tryd.f67.ntmps) qa15 80 (vS [92, 114]) qa16 120) := by
  refine rEn baseO 300 (99) 900 80 (hI 2 4) ([]) [(qa14 x), (x == (13 : Int), true)] ([(92 : UInt8), (114 : UInt8)] = [(92 : UInt8), (114 : UInt8)] ∧ True) (oc2 ?_ ?_ okn) ?_
  all_goals try dsimp only [qa14]
  all_goals exact sc36

set_option maxHeartbeats 4000000 in
theorem tlT (x : Int) (p : Bool) (h : x = 9)  :
    (RunsTo Tryd.prog 67 [.code (bodyOf Tryd.f67)] (envOf [vU x, vB p] Tryd.f67.ntmps) qa15 80 (vS [92, 116]) qa16 120) := by
  refine rEn baseO 300 (99) 900 80 (hI 3 16) ([]) [(qa14 x), (qa18 x), (x == (9 : Int), true)] ([(92 : UInt8), (116 : UInt8)] = [(92 : UInt8), (116 : UInt8)] ∧ True) (oc3 ?_ ?_ ?_ okn) ?_
  all_goals try dsimp only [qa14, qa18]
  all_goals exact sc36

set_option maxHeartbeats 4000000 in
theorem tlE (x : Int) (p : Bool) (hx : 0 ≤ x ∧ x < 256) (h : x = 34 ∨ x = 36 ∨ x = 92)  :
    (RunsTo Tryd.prog 67 [.code (bodyOf Tryd.f67)] (envOf [vU x, vB p] Tryd.f67.ntmps) qa15 80 (vS [92, UInt8.ofNat x.toNat]) qa16 120) := by
  refine bcase (fun gg0 => (bcase (fun gg1 => (rEn baseO 300 (99) 900 80 (hI 7 13312) ([]) [(qa14 x), (qa18 x), (qa19 x), (qa22 x), (qa25 x), (x == (92 : Int), true)] (qa3 x) (oc6 ?_ ?_ ?_ gg0 gg1 ?_ okn) ?_)) fun gg1 => (rEn baseO 300 (99) 900 80 (hI 6 3328) ([]) [(qa14 x), (qa18 x), (qa19 x), (qa22 x), (x == (36 : Int), true)] (qa3 x) (oc5 ?_ ?_ ?_ gg0 gg1 okn) ?_))) fun gg0 => (rEn baseO 300 (99) 900 80 (hI 5 832) ([]) [(qa14 x), (qa18 x), (qa19 x), (x == (34 : Int), true)] (qa3 x) (oc4 ?_ ?_ ?_ gg0 okn) ?_)
  all_goals try dsimp only [qa14, qa18, qa19, qa22, qa25, qa3] at *
  all_goals exact sc36

set_option maxHeartbeats 4000000 in
theorem tlC (x : Int) (p : Bool) (hx : 0 ≤ x ∧ x < 256) (n1 : x ≠ 10) (n2 : x ≠ 13) (n3 : x ≠ 9) (n4 : ¬ (x = 34 ∨ x = 36 ∨ x = 92)) (h : p = true ∧ 32 ≤ x ∧ x ≤ 126)  :
    (RunsTo Tryd.prog 67 [.code (bodyOf Tryd.f67)] (envOf [vU x, vB p] Tryd.f67.ntmps) qa15 80 (vS [UInt8.ofNat x.toNat]) qa16 120) := by
  refine rEn baseO 300 (99) 900 80 (hI 10 872448) ([]) [(qa14 x), (qa18 x), (qa19 x), (qa22 x), (qa25 x), (x == (92 : Int), false), (p, true), (decide (x ≥ (32 : Int)), true), (decide (x ≤ (126 : Int)), true)] ([UInt8.ofNat x.toNat] = bytesOf (fun is => x) [] (0 : Nat) (1 : Nat) ∧ True) (oc9 ?_ ?_ ?_ ?_ ?_ ?_ ?_ ?_ ?_ okn) ?_
  all_goals try dsimp only [qa14, qa18, qa19, qa22, qa25]
  all_goals exact sc36

set_option maxHeartbeats 4000000 in
theorem tlX (x : Int) (p : Bool) (hx : 0 ≤ x ∧ x < 256) (n1 : x ≠ 10) (n2 : x ≠ 13) (n3 : x ≠ 9) (n4 : ¬ (x = 34 ∨ x = 36 ∨ x = 92)) (h : ¬ (p = true ∧ 32 ≤ x ∧ x ≤ 126))  :
    (RunsTo Tryd.prog 67 [.code (bodyOf Tryd.f67)] (envOf [vU x, vB p] Tryd.f67.ntmps) qa15 80 (vS [92, 120, hexS.getD (x / 16).toNat 0, hexS.getD (x % 16).toNat 0]) qa16 120) := by
  obtain ⟨h4, h5⟩ := sh_at hx
  have E' := (⟨h4, h5⟩ : _ ∧ _)
  refine bcase (fun gg0 => (rEn baseO 300 (99) 900 80 (hI 12 16105472) ([]) [(qa14 x), (qa18 x), (qa19 x), (qa22 x), (qa25 x), (x == (92 : Int), false), (p, false), (qa8 x), (qa7 x)] (qa1 x) (oc9 ?_ ?_ ?_ ?_ ?_ ?_ gg0 ?_ ?_ okn) ?_)) fun gg0 => (bcase (fun gg1 => (rEn baseO 300 (99) 900 80 (hI 13 64425984) ([]) [(qa14 x), (qa18 x), (qa19 x), (qa22 x), (qa25 x), (x == (92 : Int), false), (p, true), (decide (x ≥ (32 : Int)), false), (qa8 x), (qa7 x)] (qa1 x) (oc1 ?_ (oc9 ?_ ?_ ?_ ?_ ?_ gg0 gg1 ?_ ?_ okn)) ?_)) fun gg1 => (rEn baseO 300 (99) 900 80 (hI 14 257708032) ([]) [(qa14 x), (qa18 x), (qa19 x), (qa22 x), (qa25 x), (x == (92 : Int), false), (p, true), (decide (x ≥ (32 : Int)), true), (decide (x ≤ (126 : Int)), false), (qa8 x), (qa7 x)] (qa1 x) (oc2 ?_ ?_ (oc9 ?_ ?_ ?_ ?_ gg0 gg1 ?_ ?_ ?_ okn)) ?_))
  all_goals try dsimp only [qa14, qa18, qa19, qa22, qa25, qa8, qa7, qa1] at *
  all_goals exact sc37

theorem tlT' (x : Int) (p : Bool) (hx : 0 ≤ x ∧ x < 256) : RunsTo Tryd.prog 67 [.code (bodyOf Tryd.f67)] (envOf [vU x, vB p] Tryd.f67.ntmps) (Sx.look ([] ++ ([]))) 80 (vS (toldI x p)) (Sx.look []) 120 := by
  unfold toldI
  split
  · rename_i h; exact tlN x p h
  · rename_i n1
    split
    · rename_i h; exact tlR x p h
    · rename_i n2
      split
      · rename_i h; exact tlT x p h
      · rename_i n3
        split
        · rename_i h; exact tlE x p hx h
        · rename_i n4
          split
          · rename_i h; exact tlC x p hx n1 n2 n3 n4 h
          · rename_i h; exact tlX x p hx n1 n2 n3 n4 h
def tlP : PC := { args := [.v (.vi .u8 0), .v (.vb 1)], heap := [], gs := [], G := 23, tp := 213, n := 80, n' := 120, cond := fun e => decide (0 ≤ eI e 0 [] ∧ eI e 0 [] < 256), v := fun e => vS (toldI (eI e 0 []) (eB e 1 [])), post := fun e => [] }
theorem tlP_pc : PC.Runs Tryd.prog 67 Tryd.f67 (bodyOf Tryd.f67) tlP := ⟨Tryd.func67, by kernel_rfl, (fun g hg => by first | (cases hg; done) | (revert g; show ∀ g ∈ ([] : List Nat), g < 23; decide)), fun e H hc => by
  have hc : (decide (0 ≤ eI e 0 [] ∧ eI e 0 [] < 256)) = true := hc
  try simp only [Bool.and_eq_true, decide_eq_true_eq, Nat.beq_eq] at hc
  exact tlT' (eI e 0 []) (eB e 1 []) hc⟩
def sumsQR : List (FuncId × Summ) := [(62, nmIP.summ 46), (63, ftP.summ 46)]
theorem baseQR : Base0 Tryd.prog sumsQR := ((baseO.cons Tryd.func63 (by kernel_rfl) (PC.summ_ok ftP_pc gtopG)).cons Tryd.func62 (by kernel_rfl) (PC.summ_ok nmIP_pc gtopG))

set_option maxHeartbeats 4000000 in
theorem qg0 (n M : Nat) (V L : Ix → List UInt8) (hM : n ≤ M) (hn : n ≤ 1000) (hb : lnB V L n = true)  (v : SV) (L' : HF) (next : RunsTo Tryd.prog 24 (headOf Tryd.f24 0) (envAt Tryd.f24.ntmps ([(0, vL 61 2 n), (5, vL 61 2 n), (6, vN n), (7, vN (0 : Nat))])) (Sx.look (prX 61 M V L ++ ([]))) 80 (v) (L') 330) :
    RunsTo Tryd.prog 24 [.code (bodyOf Tryd.f24)] (envOf [vL 61 2 n] Tryd.f24.ntmps) (Sx.look (prX 61 M V L ++ ([]))) 80 (v) (L') 330 := by
  refine rMo baseQR 300 (behind Tryd.f24 0) 900 80 (hI 0 0) ([]) [] (((0 = 0 ∧ n = n) ∧ (0 = 0 ∧ n = n) ∧ (n : Int) = (n : Int) ∧ (↑(0 : Nat) : Int) = (0 : Int)) ∧ True) next okn ?_
  all_goals clear next; exact sc6

set_option maxHeartbeats 4000000 in
theorem qgV (n M : Nat) (V L : Ix → List UInt8) (i : Nat) (hi : i < n) (hM : n ≤ M) (hn : n ≤ 1000) (hb : lnB V L n = true) (h1 : V [i] ≠ []) (h2 : L [i] = []) (h3 : namI (V [i]) = true)  (v : SV) (L' : HF) (next : RunsTo Tryd.prog 24 (headOf Tryd.f24 0) (envAt Tryd.f24.ntmps ([(0, vL 61 2 n), (5, vL 61 2 n), (6, vN n), (7, vN (i + 1 : Nat))])) (Sx.look (prX 61 M V L ++ ([]))) 80 (v) (L') 330) :
    RunsTo Tryd.prog 24 (headOf Tryd.f24 0) (envAt Tryd.f24.ntmps ([(0, vL 61 2 n), (5, vL 61 2 n), (6, vN n), (7, vN (i : Nat))])) (Sx.look (prX 61 M V L ++ ([]))) 80 (v) (L') 330 := by
  have hw : IntKind.i64.wrap ((i : Int) + 1) = ((i + 1 : Nat) : Int) := by rw [wr64 (by omega)]; rfl
  have hli := lnB_at hb hi
  have hji : IntKind.i64.wrap ((i : Int) - 1) = (i : Int) - 1 := by rw [wr64 (by omega)]
  have hjn : ((i : Int) - 1).toNat = i - 1 := by omega
  have E' := (⟨hw, hji, hjn, h2, h3⟩ : _ ∧ _ ∧ _ ∧ _ ∧ _)
  refine rMo baseQR 300 (behind Tryd.f24 0) 900 110 (hI 9 4437) ([]) [(qa11 i n), (qa4 i n), (qa2 M i), (qa2 M i), (!V [0 + (i : Int).toNat] == [], true), (!L [0 + (i : Int).toNat] == [], false), (decide ((V [0 + (i : Int).toNat]).length ≤ (100000 : Nat)), true), (!namI (V [0 + (i : Int).toNat]), false), (V [0 + (i : Int).toNat] == [], false)] (qa5 i n) next (oc9 ?_ ?_ ?_ ?_ ?_ ?_ ?_ ?_ ?_ okn) ?_
  all_goals clear next; try dsimp only [qa11, qa4, qa2, qa23, qa5]
  all_goals exact sc38

set_option maxHeartbeats 4000000 in
theorem qgL (n M : Nat) (V L : Ix → List UInt8) (i : Nat) (hi : i < n) (hM : n ≤ M) (hn : n ≤ 1000) (hb : lnB V L n = true) (h1 : V [i] = []) (h2 : L [i] ≠ []) (h3 : ¬ (0 < i ∧ V [i - 1] = []))  (v : SV) (L' : HF) (next : RunsTo Tryd.prog 24 (headOf Tryd.f24 0) (envAt Tryd.f24.ntmps ([(0, vL 61 2 n), (5, vL 61 2 n), (6, vN n), (7, vN (i + 1 : Nat))])) (Sx.look (prX 61 M V L ++ ([]))) 80 (v) (L') 330) :
    RunsTo Tryd.prog 24 (headOf Tryd.f24 0) (envAt Tryd.f24.ntmps ([(0, vL 61 2 n), (5, vL 61 2 n), (6, vN n), (7, vN (i : Nat))])) (Sx.look (prX 61 M V L ++ ([]))) 80 (v) (L') 330 := by
  have hw : IntKind.i64.wrap ((i : Int) + 1) = ((i + 1 : Nat) : Int) := by rw [wr64 (by omega)]; rfl
  have hli := lnB_at hb hi
  have hji : IntKind.i64.wrap ((i : Int) - 1) = (i : Int) - 1 := by rw [wr64 (by omega)]
  have hjn : ((i : Int) - 1).toNat = i - 1 := by omega
  have E' := (⟨hw, hji, hjn, h1⟩ : _ ∧ _ ∧ _ ∧ _)
  refine bcase (fun gg0 => (rMo baseQR 300 (behind Tryd.f24 0) 900 110 (hI 8 1109) ([]) [(qa11 i n), (qa4 i n), (qa2 M i), (qa2 M i), (qa26 V i), (V [0 + (i : Int).toNat] == [], true), (L [0 + (i : Int).toNat] == [], false), (decide ((i : Int) > 0), false)] (qa5 i n) next (oc8 ?_ ?_ ?_ ?_ ?_ ?_ ?_ gg0 okn) ?_)) fun gg0 => (rMo baseQR 300 (behind Tryd.f24 0) 900 110 (hI 12 1393749) ([]) [(qa11 i n), (qa4 i n), (qa2 M i), (qa2 M i), (qa26 V i), (V [0 + (i : Int).toNat] == [], true), (L [0 + (i : Int).toNat] == [], false), (decide ((i : Int) > 0), true), (qa21 i n), (qa13 M i), (qa13 M i), (V [0 + (IntKind.i64.wrap ((i : Int) - 1)).toNat] == [], false)] (qa5 i n) next (oc3 ?_ ?_ ?_ (oc9 ?_ ?_ ?_ ?_ gg0 ?_ ?_ ?_ ?_ okn)) ?_)
  all_goals clear next; try dsimp only [qa11, qa4, qa2, qa23, qa26, qa5, qa21, qa13] at *
  all_goals exact sc38

set_option maxHeartbeats 4000000 in
theorem qgF (n M : Nat) (V L : Ix → List UInt8) (i : Nat) (hi : i < n) (hM : n ≤ M) (hn : n ≤ 1000) (hb : lnB V L n = true) (h : rgtAt V L i = false)  :
    (RunsTo Tryd.prog 24 (headOf Tryd.f24 0) (envAt Tryd.f24.ntmps ([(0, vL 61 2 n), (5, vL 61 2 n), (6, vN n), (7, vN (i : Nat))])) (Sx.look (prX 61 M V L ++ ([]))) 80 (vB false) qa16 330) := by
  have hw : IntKind.i64.wrap ((i : Int) + 1) = ((i + 1 : Nat) : Int) := by rw [wr64 (by omega)]; rfl
  have hli := lnB_at hb hi
  have hji : IntKind.i64.wrap ((i : Int) - 1) = (i : Int) - 1 := by rw [wr64 (by omega)]
  have hjn : ((i : Int) - 1).toNat = i - 1 := by omega
  unfold rgtAt at h
  have E' := (⟨hw, hji, hjn⟩ : _ ∧ _ ∧ _)
  refine bcase (fun gg0 => (bcase (fun gg1 => (rEn baseQR 300 (99) 900 110 (hI 12 5588053) ([]) [(qa11 i n), (qa4 i n), (qa2 M i), (qa2 M i), (qa26 V i), (V [0 + (i : Int).toNat] == [], true), (L [0 + (i : Int).toNat] == [], false), (decide ((i : Int) > 0), true), (qa21 i n), (qa13 M i), (qa13 M i), (V [0 + (IntKind.i64.wrap ((i : Int) - 1)).toNat] == [], true)] qa17 (oc3 ?_ ?_ ?_ (oc9 ?_ gg0 ?_ gg1 ?_ ?_ ?_ ?_ ?_ okn)) ?_)) fun gg1 => (rEn baseQR 300 (99) 900 110 (hI 7 5205) ([]) [(qa11 i n), (qa4 i n), (qa2 M i), (qa2 M i), (qa26 V i), (V [0 + (i : Int).toNat] == [], true), (L [0 + (i : Int).toNat] == [], true)] qa17 (oc7 ?_ ?_ ?_ ?_ gg0 ?_ gg1 okn) ?_))) fun gg0 => (bcase (fun gg1 => (rEn baseQR 300 (99) 900 110 (hI 8 20821) ([]) [(qa11 i n), (qa4 i n), (qa2 M i), (qa2 M i), (!V [0 + (i : Int).toNat] == [], true), (!L [0 + (i : Int).toNat] == [], false), (decide ((V [0 + (i : Int).toNat]).length ≤ (100000 : Nat)), true), (!namI (V [0 + (i : Int).toNat]), true)] qa17 (oc8 ?_ ?_ ?_ ?_ gg0 gg1 ?_ ?_ okn) ?_)) fun gg1 => (rEn baseQR 300 (99) 900 110 (hI 6 1365) ([]) [(qa11 i n), (qa4 i n), (qa2 M i), (qa2 M i), (!V [0 + (i : Int).toNat] == [], true), (!L [0 + (i : Int).toNat] == [], true)] qa17 (oc6 ?_ ?_ ?_ ?_ gg0 gg1 okn) ?_))
  all_goals try dsimp only [qa11, qa4, qa2, qa23, qa26, qa21, qa13, qa17] at *
  all_goals exact sc38

set_option maxHeartbeats 4000000 in
theorem qgE (n M : Nat) (V L : Ix → List UInt8) (i : Nat) (hi : i = n) (hM : n ≤ M) (hn : n ≤ 1000)  :
    (RunsTo Tryd.prog 24 (headOf Tryd.f24 0) (envAt Tryd.f24.ntmps ([(0, vL 61 2 n), (5, vL 61 2 n), (6, vN n), (7, vN (i : Nat))])) (Sx.look (prX 61 M V L ++ ([]))) 80 (vB (fitsP (pcsOf n V L))) qa16 330) := by
  refine rEn baseQR 300 (99) 900 110 (hI 2 4) ([]) [(decide ((i : Int) < (n : Int)), false), (decide (n ≤ M) && decide (n ≤ (100000 : Nat)), true)] (fitsP (pcsOf n V L) = fitsP (pcsOf n V L) ∧ True) (oc2 ?_ ?_ okn) ?_
  all_goals exact sc39

theorem qgT (n M : Nat) (V L : Ix → List UInt8) (hM : n ≤ M) (hn : n ≤ 1000) (hb : lnB V L n = true) : RunsTo Tryd.prog 24 [.code (bodyOf Tryd.f24)] (envOf [vL 61 2 n] Tryd.f24.ntmps) (Sx.look (prX 61 M V L ++ ([]))) 80 (vB (rgtI n V L)) (Sx.look []) 330 := by
  refine qg0 n M V L hM hn hb _ _ ?_
  suffices q : ∀ (k i : Nat), i + k = n → (∀ j, j < i → rgtAt V L j = true) → RunsTo Tryd.prog 24 (headOf Tryd.f24 0) (envAt Tryd.f24.ntmps ([(0, vL 61 2 n), (5, vL 61 2 n), (6, vN n), (7, vN (i : Nat))])) (Sx.look (prX 61 M V L ++ ([]))) 80 (vB (rgtI n V L)) (Sx.look []) 330 from q n 0 (by omega) (fun j hj => by omega)
  intro k
  induction k with
  | zero =>
    intro i hi hall
    have e : i = n := by omega
    have ht : (List.range n).all (rgtAt V L) = true := List.all_eq_true.2 fun j hj => hall j (by have := List.mem_range.1 hj; omega)
    rw [rgtI, ht, Bool.true_and]
    exact qgE n M V L i e hM hn
  | succ k ih =>
    intro i hi hall
    cases h : rgtAt V L i with
    | false =>
      have ht : (List.range n).all (rgtAt V L) = false := by
        rw [List.all_eq_false]; exact ⟨i, List.mem_range.2 (by omega), by rw [h]; decide⟩
      rw [rgtI, ht, Bool.false_and]
      exact qgF n M V L i (by omega) hM hn hb h
    | true =>
      have q := ih (i + 1) (by omega) (fun j hj => by
        by_cases e : j = i
        · rw [e]; exact h
        · exact hall j (by omega))
      unfold rgtAt at h
      by_cases hv : V [i] ≠ []
      · rw [if_pos hv] at h
        simp only [Bool.and_eq_true, decide_eq_true_eq] at h
        exact qgV n M V L i (by omega) hM hn hb hv h.1 h.2 _ _ q
      · rw [if_neg hv] at h
        simp only [Bool.and_eq_true, decide_eq_true_eq, Bool.not_eq_true', Bool.and_eq_false_iff, decide_eq_false_iff_not] at h
        exact qgL n M V L i (by omega) hM hn hb (by simpa using hv) h.1 (by rintro ⟨a, b⟩; rcases h.2 with c | c <;> contradiction) _ _ q
def qgP : PC := { args := [.v (.vl 61 2 0)], heap := [⟨61, false, 2, .ta 4 (.tc (.vs 2) (.tc (.vs 3) .t0))⟩], gs := [], G := 23, tp := 213, n := 80, n' := 330, cond := fun e => decide (eN e 0 ≤ eN e 4) && (decide (eN e 0 ≤ 1000) && lnB (eS e 2) (eS e 3) (eN e 0)), v := fun e => vB (rgtI (eN e 0) (eS e 2) (eS e 3)), post := fun e => [] }
theorem qgP_pc : PC.Runs Tryd.prog 24 Tryd.f24 (bodyOf Tryd.f24) qgP := ⟨Tryd.func24, by kernel_rfl, (fun g hg => by first | (cases hg; done) | (revert g; show ∀ g ∈ ([] : List Nat), g < 23; decide)), fun e H hc => by
  have hc : (decide (eN e 0 ≤ eN e 4) && (decide (eN e 0 ≤ 1000) && lnB (eS e 2) (eS e 3) (eN e 0))) = true := hc
  try simp only [Bool.and_eq_true, decide_eq_true_eq, Nat.beq_eq] at hc
  exact qgT (eN e 0) (eN e 4) (eS e 2) (eS e 3) hc.1 hc.2.1 hc.2.2⟩
end Go.Proofs.YtaleenklamognaaDoor

set_option linter.unusedSimpArgs false
set_option linter.unusedVariables false
set_option maxRecDepth 100000
namespace Go.Proofs.YtaleenklamognaaDoor
open Go.Sx

open WordR
def bdE (l r : Nat) (o : List UInt8) : List Ent := [⟨l, true, none, 241000002, .tc (.vp l (fun _ => 0) []) (.tc (.vl r (fun _ => 0) 1 [] (fun _ => o.length)) .t0)⟩, ⟨r, true, none, 12000001, .ta o.length (.vi .u8 fun is => ((o.getD (is.headD 0) 0).toNat : Int))⟩]
def plA (op : Bool) (b : List UInt8) (k : Nat) : Bool := !op || decide (0 < k) || !goI ((b.getD k 0).toNat : Int)
/-- A literal's first bytes, told. -/
def tolds (op : Bool) (b : List UInt8) : Nat → List UInt8
  | 0 => []
  | k + 1 => tolds op b k ++ toldI ((b.getD k 0).toNat : Int) (plA op b k)
def quoA (V L : Ix → List UInt8) : Nat → List UInt8 × Bool
  | 0 => ([34], false)
  | i + 1 => if V [i] ≠ [] then ((quoA V L i).1 ++ (36 :: V [i]), ltrI (((V [i]).getD 0 0).toNat : Int)) else ((quoA V L i).1 ++ tolds (quoA V L i).2 (L [i]) (L [i]).length, false)
def quoI (n : Nat) (V L : Ix → List UInt8) : List UInt8 := (quoA V L n).1 ++ [34]
theorem toldI_len (x : Int) (p : Bool) : (toldI x p).length ≤ 4 := by
  unfold toldI; repeat' split
  all_goals simp
theorem tolds_len (op : Bool) (b : List UInt8) : ∀ k, (tolds op b k).length ≤ 4 * k
  | 0 => by simp [tolds]
  | k + 1 => by
    have := tolds_len op b k
    have := toldI_len ((b.getD k 0).toNat : Int) (plA op b k)
    rw [tolds, List.length_append]; omega
theorem quoA_len (V L : Ix → List UInt8) (n : Nat) (hb : lnB V L n = true) : ∀ i, i ≤ n → (quoA V L i).1.length ≤ 1 + 4001 * i
  | 0, _ => by simp [quoA]
  | i + 1, hi => by
    have ih := quoA_len V L n hb i (by omega)
    have hl := lnB_at hb (show i < n by omega)
    rw [quoA]
    split
    · simp only [List.length_append, List.length_cons]; omega
    · have := tolds_len (quoA V L i).2 (L [i]) (L [i]).length
      simp only [List.length_append]; omega
theorem bytes_is {B : Ix → Int} {l : List UInt8} {n : Nat} (hn : l.length = n) (h : ∀ j, j < n → B [j] = ((l.getD j 0).toNat : Int)) : bytesOf B [] 0 n = l := by
  apply List.ext_getElem
  · simp [bytesOf, hn]
  · intro j h1 h2
    simp only [bytesOf, List.getElem_map, List.getElem_range, List.nil_append, Nat.zero_add]
    rw [h j (by omega), List.getD_eq_getElem?_getD, List.getElem?_eq_getElem h2]
    simp
def sumsQB : List (FuncId × Summ) := [(100, bldCk 120), (69, bldStr 120 5), (24, qgP.summ 46), (66, bgP.summ 46), (68, goP.summ 46), (67, tlP.summ 46)]
theorem baseQB : Base0 Tryd.prog sumsQB := ((((((baseO.cons Tryd.func67 (by kernel_rfl) (PC.summ_ok tlP_pc gtopG)).cons Tryd.func68 (by kernel_rfl) (PC.summ_ok goP_pc gtopG)).cons Tryd.func66 (by kernel_rfl) (PC.summ_ok bgP_pc gtopG)).cons Tryd.func24 (by kernel_rfl) (PC.summ_ok qgP_pc gtopG)).cons Tryd.func69 (by kernel_rfl) bdStr).cons Tryd.func100 (by kernel_rfl) bdCk)

variable (M : Nat) (V : Ix → List UInt8) (b : List UInt8) (i : Nat) (is : List Nat) (k n : Nat) (o : List UInt8) (op : Bool)
abbrev qb1 := (↑(b.getD (0 + (k : Int).toNat) (0 : UInt8)).toNat : Int)
abbrev qb2 := 0 = 0 ∧ op = op ∧ (0 = 0 ∧ n = n) ∧ (n : Int) = (n : Int) ∧ (i : Int) = (i : Int) ∧ (0 = 0 ∧ b.length = b.length) ∧ (↑b.length : Int) = (↑b.length : Int) ∧ (↑(k + (1 : Nat)) : Int) = IntKind.i64.wrap ((k : Int) + 1)
abbrev qb4 := (↑(b.getD k (0 : UInt8)).toNat : Int)
abbrev qb16 := o ++ toldI (qb4 b k) true
abbrev qb19 := List.headD is (0 : Nat)
abbrev qb6 := (↑(o.getD (qb19 is) (0 : UInt8)).toNat : Int)
abbrev qb10 := (↑(b.getD i (0 : UInt8)).toNat : Int)
abbrev qb3 (b : List UInt8) (i k n : Nat) (o : List UInt8) (op : Bool) := ((qb2 b i k n op) ∧ (0 = 0 ∧ 0 = 0 ∧ (qb16 b k o).length = o.length + (toldI (qb1 b k) true).length) ∧ ((qb16 b k o).length = o.length + (toldI (qb1 b k) true).length ∧ ∀ (i : Nat), i < (qb16 b k o).length → (↑((qb16 b k o).getD i (0 : UInt8)).toNat : Int) = appF o.length (0 : Nat) (fun is => (qb6 is o)) (fun is => (↑((toldI (qb1 b k) true).getD (qb19 is) (0 : UInt8)).toNat : Int)) [i]) ∧ b.length = b.length ∧ ∀ (i : Nat), i < b.length → (qb10 b i) = (qb10 b i))
abbrev qb5 := ((0 + (k : Int).toNat).blt b.length, true)
abbrev qb7 := (decide (0 ≤ (k : Int) ∧ (k : Int) < (↑b.length : Int)), true)
abbrev qb8 := toldI (qb1 b k) !goI (qb1 b k)
abbrev qb9 := ((0 + o.length).ble o.length, true)
abbrev qb11 := (decide (0 ≤ (qb1 b k) ∧ (qb1 b k) < 256), true)
abbrev qb12 := (decide ((k : Int) < (↑b.length : Int)), true)
abbrev qb13 := (decide (((2 : Nat) * (o.length + (toldI (qb1 b k) true).length) + (192 : Nat)) * (1 : Nat) ≤ (281474976710656 : Nat)), true)
abbrev qb14 := [(36 : UInt8)] ++ V [0 + (i : Int).toNat]
abbrev qb15 := (↑(o.getD i (0 : UInt8)).toNat : Int)
abbrev qb17 := (decide (((2 : Nat) * (o.length + (qb8 b k).length) + (192 : Nat)) * (1 : Nat) ≤ (281474976710656 : Nat)), true)
abbrev qb18 := ((0 + (i : Int).toNat).blt M, true)
set_option maxHeartbeats 4000000 in
theorem q0 (n M : Nat) (V L : Ix → List UInt8) (hM : n ≤ M) (hn : n ≤ 100) (hb : lnB V L n = true) (hr : rgtI n V L = true)  (v : SV) (L' : HF) (next : RunsTo Tryd.prog 25 (headOf Tryd.f25 0) (envAt Tryd.f25.ntmps ([(3, vP 101), (4, vB false), (13, vL 61 2 n), (14, vN n), (15, vN (0 : Nat))])) (Sx.look (prX 61 M V L ++ (bdE 101 102 ([34])))) 80 (v) (L') 520) :
    RunsTo Tryd.prog 25 [.code (bodyOf Tryd.f25)] (envOf [vL 61 2 n] Tryd.f25.ntmps) (Sx.look (prX 61 M V L ++ ([]))) 80 (v) (L') 520 := by
  have E' := hr
  refine rMo baseQB 500 (behind Tryd.f25 0) 900 80 (hI 4 241) ([((101 : Nat), Rn.to (330 : Nat)), ((102 : Nat), Rn.to (332 : Nat))]) [(decide (n ≤ M) && (decide (n ≤ (1000 : Nat)) && lnB V L n), true), (!rgtI n V L, false)] ((0 = 0 ∧ false = false ∧ (0 = 0 ∧ n = n) ∧ (n : Int) = (n : Int) ∧ (↑(0 : Nat) : Int) = (0 : Int)) ∧ (0 = 0 ∧ 0 = 0 ∧ 1 = 1) ∧ 1 = 1 ∧ ∀ (i : Nat), i < (1 : Nat) → (↑([(34 : UInt8)].getD i (0 : UInt8)).toNat : Int) = (34 : Int)) next (oc2 ?_ ?_ okn) ?_
  all_goals clear next; exact sc40

set_option maxHeartbeats 4000000 in
theorem qF (n M : Nat) (V L : Ix → List UInt8) (hM : n ≤ M) (hn : n ≤ 100) (hb : lnB V L n = true) (hr : rgtI n V L = false)  :
    (RunsTo Tryd.prog 25 [.code (bodyOf Tryd.f25)] (envOf [vL 61 2 n] Tryd.f25.ntmps) (Sx.look (prX 61 M V L ++ ([]))) 80 (vS []) (Sx.look ([])) 520) := by
  have E' := hr
  refine rEn baseQB 500 (99) 900 80 (hI 2 5) ([]) [(decide (n ≤ M) && (decide (n ≤ (1000 : Nat)) && lnB V L n), true), (!rgtI n V L, true)] (([] : List UInt8) = [] ∧ True) (oc2 ?_ ?_ okn) ?_
  all_goals exact sc41

set_option maxHeartbeats 4000000 in
theorem qV (n M : Nat) (V L : Ix → List UInt8) (o : List UInt8) (op : Bool) (i : Nat) (hi : i < n) (hM : n ≤ M) (hn : n ≤ 100) (hb : lnB V L n = true) (ho : o.length ≤ 900000) (h : V [i] ≠ [])  (v : SV) (L' : HF) (next : RunsTo Tryd.prog 25 (headOf Tryd.f25 0) (envAt Tryd.f25.ntmps ([(3, vP 101), (4, vB (ltrI (((V [i]).getD 0 0).toNat : Int))), (13, vL 61 2 n), (14, vN n), (15, vN (i + 1 : Nat))])) (Sx.look (prX 61 M V L ++ (bdE 101 102 (o ++ (36 :: V [i]))))) 80 (v) (L') 520) :
    RunsTo Tryd.prog 25 (headOf Tryd.f25 0) (envAt Tryd.f25.ntmps ([(3, vP 101), (4, vB op), (13, vL 61 2 n), (14, vN n), (15, vN (i : Nat))])) (Sx.look (prX 61 M V L ++ (bdE 101 102 (o)))) 80 (v) (L') 520 := by
  have hw : IntKind.i64.wrap ((i : Int) + 1) = ((i + 1 : Nat) : Int) := by rw [wr64 (by omega)]; rfl
  have hli := lnB_at hb hi
  have hp := List.length_pos_iff.2 h
  have hap := app_bytes o (36 :: V [i]) (fun is => (((36 :: V [i]).getD (is.headD 0) 0).toNat : Int)) (fun j hj => rfl)
  have E' := hw
  refine rMo baseQB 500 (behind Tryd.f25 0) 900 110 (hI 10 873813) ([((102 : Nat), Rn.to (111 : Nat))]) [(decide ((i : Int) < (n : Int)), true), (decide (0 ≤ (i : Int) ∧ (i : Int) < (n : Int)), true), (qb18 M i), (qb18 M i), (!V [0 + (i : Int).toNat] == [], true), (decide (1 + (V [0 + (i : Int).toNat]).length ≤ (9223372036854775807 : Nat)), true), (qb9 o), (decide (((2 : Nat) * (o.length + (qb14 V i).length) + (192 : Nat)) * (1 : Nat) ≤ (281474976710656 : Nat)), true), (decide ((0 : Int) ≤ 0 ∧ (0 : Int) < (↑(V [0 + (i : Int).toNat]).length : Int)), true)] ((0 = 0 ∧ ltrI (↑((V [i]).getD (0 : Nat) (0 : UInt8)).toNat : Int) = ltrI (↑((V [0 + (i : Int).toNat]).getD (0 : Nat) (0 : UInt8)).toNat : Int) ∧ (0 = 0 ∧ n = n) ∧ (n : Int) = (n : Int) ∧ (↑(i + (1 : Nat)) : Int) = IntKind.i64.wrap ((i : Int) + 1)) ∧ (0 = 0 ∧ 0 = 0 ∧ (o ++ (36 : UInt8) :: V [i]).length = o.length + (qb14 V i).length) ∧ (o ++ (36 : UInt8) :: V [i]).length = o.length + (qb14 V i).length ∧ ∀ (i_1 : Nat), i_1 < (o ++ (36 : UInt8) :: V [i]).length → (↑((o ++ (36 : UInt8) :: V [i]).getD i_1 (0 : UInt8)).toNat : Int) = appF o.length (0 : Nat) (fun is => (qb6 is o)) (fun is => (↑((qb14 V i).getD (qb19 is) (0 : UInt8)).toNat : Int)) [i_1]) next (oc9 ?_ ?_ ?_ ?_ ?_ ?_ ?_ ?_ ?_ okn) ?_
  all_goals clear next; try dsimp only [qb18, qb9, qb14, qb6, qb19]
  all_goals exact sc42

set_option maxHeartbeats 4000000 in
theorem qL (n M : Nat) (V L : Ix → List UInt8) (b o : List UInt8) (op : Bool) (i : Nat) (hi : i < n) (hM : n ≤ M) (hn : n ≤ 100) (hb : lnB V L n = true) (ho : o.length ≤ 900000) (h : V [i] = []) (hB : L [i] = b)  (v : SV) (L' : HF) (next : RunsTo Tryd.prog 25 (headOf Tryd.f25 1) (envAt Tryd.f25.ntmps ([(3, vP 101), (4, vB op), (13, vL 61 2 n), (14, vN n), (15, vN (i : Nat)), (32, vL 103 1 b.length), (33, vN b.length), (34, vN (0 : Nat))])) (Sx.look (prX 61 M V L ++ (bdE 101 102 (o) ++ rwB 103 b))) 80 (v) (L') 520) :
    RunsTo Tryd.prog 25 (headOf Tryd.f25 0) (envAt Tryd.f25.ntmps ([(3, vP 101), (4, vB op), (13, vL 61 2 n), (14, vN n), (15, vN (i : Nat))])) (Sx.look (prX 61 M V L ++ (bdE 101 102 (o)))) 80 (v) (L') 520 := by
  have hw : IntKind.i64.wrap ((i : Int) + 1) = ((i + 1 : Nat) : Int) := by rw [wr64 (by omega)]; rfl
  have hli := lnB_at hb hi
  have E' := (⟨hw, h, hB⟩ : _ ∧ _ ∧ _)
  refine rMo baseQB 500 (behind Tryd.f25 1) 900 110 (hI 5 85) ([((103 : Nat), Rn.to (111 : Nat))]) [(decide ((i : Int) < (n : Int)), true), (decide (0 ≤ (i : Int) ∧ (i : Int) < (n : Int)), true), (qb18 M i), (qb18 M i), (!V [0 + (i : Int).toNat] == [], false)] ((0 = 0 ∧ op = op ∧ (0 = 0 ∧ n = n) ∧ (n : Int) = (n : Int) ∧ (i : Int) = (i : Int) ∧ (0 = 0 ∧ b.length = (L [0 + (i : Int).toNat]).length) ∧ (↑b.length : Int) = (↑(L [0 + (i : Int).toNat]).length : Int) ∧ (↑(0 : Nat) : Int) = (0 : Int)) ∧ (0 = 0 ∧ 0 = 0 ∧ o.length = o.length) ∧ (o.length = o.length ∧ ∀ (i : Nat), i < o.length → (qb15 i o) = (qb15 i o)) ∧ b.length = (L [0 + (i : Int).toNat]).length ∧ ∀ (i_1 : Nat), i_1 < b.length → (↑(b.getD i_1 (0 : UInt8)).toNat : Int) = (↑((L [0 + (i : Int).toNat]).getD i_1 (0 : UInt8)).toNat : Int)) next (oc5 ?_ ?_ ?_ ?_ ?_ okn) ?_
  all_goals clear next; try dsimp only [qb18, qb15]
  all_goals exact sc41

set_option maxHeartbeats 4000000 in
theorem qT1 (n M : Nat) (V L : Ix → List UInt8) (b o : List UInt8) (op : Bool) (i k : Nat) (hk : k < b.length) (hbl : b.length ≤ 1000) (ho : o.length ≤ 900000) (h : op = false)  (v : SV) (L' : HF) (next : RunsTo Tryd.prog 25 (headOf Tryd.f25 1) (envAt Tryd.f25.ntmps ([(3, vP 101), (4, vB op), (13, vL 61 2 n), (14, vN n), (15, vN (i : Nat)), (32, vL 103 1 b.length), (33, vN b.length), (34, vN (k + 1 : Nat))])) (Sx.look (prX 61 M V L ++ (bdE 101 102 (o ++ toldI ((b.getD k 0).toNat : Int) true) ++ rwB 103 b))) 80 (v) (L') 520) :
    RunsTo Tryd.prog 25 (headOf Tryd.f25 1) (envAt Tryd.f25.ntmps ([(3, vP 101), (4, vB op), (13, vL 61 2 n), (14, vN n), (15, vN (i : Nat)), (32, vL 103 1 b.length), (33, vN b.length), (34, vN (k : Nat))])) (Sx.look (prX 61 M V L ++ (bdE 101 102 (o) ++ rwB 103 b))) 80 (v) (L') 520 := by
  have hw : IntKind.i64.wrap ((k : Int) + 1) = ((k + 1 : Nat) : Int) := by rw [wr64 (by omega)]; rfl
  have hu := u8nat (b.getD k 0)
  have hap := app_bytes o (toldI ((b.getD k 0).toNat : Int) true) (fun is => (((toldI ((b.getD k 0).toNat : Int) true).getD (is.headD 0) 0).toNat : Int)) (fun j hj => rfl)
  have htl := toldI_len ((b.getD k 0).toNat : Int) true
  have E' := (⟨hw, h⟩ : _ ∧ _)
  refine rMo baseQB 500 (behind Tryd.f25 1) 900 110 (hI 8 21845) ([((102 : Nat), Rn.to (150 : Nat))]) [(qb12 b k), (qb7 b k), (qb5 b k), (qb5 b k), (!op, true), (qb11 b k), (qb9 o), (qb13 b k o)] (qb3 b i k n o op) next (oc8 ?_ ?_ ?_ ?_ ?_ ?_ ?_ ?_ okn) ?_
  all_goals clear next; try dsimp only [qb12, qb7, qb5, qb11, qb1, qb9, qb13, qb3, qb2, qb16, qb4, qb6, qb19, qb10]
  all_goals exact sc42

set_option maxHeartbeats 4000000 in
theorem qT2 (n M : Nat) (V L : Ix → List UInt8) (b o : List UInt8) (op : Bool) (i k : Nat) (hk : k < b.length) (hbl : b.length ≤ 1000) (ho : o.length ≤ 900000) (h : op = true) (h0 : 0 < k)  (v : SV) (L' : HF) (next : RunsTo Tryd.prog 25 (headOf Tryd.f25 1) (envAt Tryd.f25.ntmps ([(3, vP 101), (4, vB op), (13, vL 61 2 n), (14, vN n), (15, vN (i : Nat)), (32, vL 103 1 b.length), (33, vN b.length), (34, vN (k + 1 : Nat))])) (Sx.look (prX 61 M V L ++ (bdE 101 102 (o ++ toldI ((b.getD k 0).toNat : Int) true) ++ rwB 103 b))) 80 (v) (L') 520) :
    RunsTo Tryd.prog 25 (headOf Tryd.f25 1) (envAt Tryd.f25.ntmps ([(3, vP 101), (4, vB op), (13, vL 61 2 n), (14, vN n), (15, vN (i : Nat)), (32, vL 103 1 b.length), (33, vN b.length), (34, vN (k : Nat))])) (Sx.look (prX 61 M V L ++ (bdE 101 102 (o) ++ rwB 103 b))) 80 (v) (L') 520 := by
  have hw : IntKind.i64.wrap ((k : Int) + 1) = ((k + 1 : Nat) : Int) := by rw [wr64 (by omega)]; rfl
  have hu := u8nat (b.getD k 0)
  have hap := app_bytes o (toldI ((b.getD k 0).toNat : Int) true) (fun is => (((toldI ((b.getD k 0).toNat : Int) true).getD (is.headD 0) 0).toNat : Int)) (fun j hj => rfl)
  have htl := toldI_len ((b.getD k 0).toNat : Int) true
  have E' := (⟨hw, h⟩ : _ ∧ _)
  refine rMo baseQB 500 (behind Tryd.f25 1) 900 110 (hI 9 87125) ([((102 : Nat), Rn.to (150 : Nat))]) [(qb12 b k), (qb7 b k), (qb5 b k), (qb5 b k), (!op, false), (decide ((k : Int) > 0), true), (qb11 b k), (qb9 o), (qb13 b k o)] (qb3 b i k n o op) next (oc9 ?_ ?_ ?_ ?_ ?_ ?_ ?_ ?_ ?_ okn) ?_
  all_goals clear next; try dsimp only [qb12, qb7, qb5, qb11, qb1, qb9, qb13, qb3, qb2, qb16, qb4, qb6, qb19, qb10]
  all_goals exact sc42

set_option maxHeartbeats 4000000 in
theorem qT3 (n M : Nat) (V L : Ix → List UInt8) (b o : List UInt8) (op : Bool) (i k : Nat) (hk : k < b.length) (hbl : b.length ≤ 1000) (ho : o.length ≤ 900000) (h : op = true) (h0 : k = 0) (h1 : goI ((b.getD k 0).toNat : Int) = true)  (v : SV) (L' : HF) (next : RunsTo Tryd.prog 25 (headOf Tryd.f25 1) (envAt Tryd.f25.ntmps ([(3, vP 101), (4, vB op), (13, vL 61 2 n), (14, vN n), (15, vN (i : Nat)), (32, vL 103 1 b.length), (33, vN b.length), (34, vN (k + 1 : Nat))])) (Sx.look (prX 61 M V L ++ (bdE 101 102 (o ++ toldI ((b.getD k 0).toNat : Int) false) ++ rwB 103 b))) 80 (v) (L') 520) :
    RunsTo Tryd.prog 25 (headOf Tryd.f25 1) (envAt Tryd.f25.ntmps ([(3, vP 101), (4, vB op), (13, vL 61 2 n), (14, vN n), (15, vN (i : Nat)), (32, vL 103 1 b.length), (33, vN b.length), (34, vN (k : Nat))])) (Sx.look (prX 61 M V L ++ (bdE 101 102 (o) ++ rwB 103 b))) 80 (v) (L') 520 := by
  have hw : IntKind.i64.wrap ((k : Int) + 1) = ((k + 1 : Nat) : Int) := by rw [wr64 (by omega)]; rfl
  have hu := u8nat (b.getD k 0)
  have hap := app_bytes o (toldI ((b.getD k 0).toNat : Int) false) (fun is => (((toldI ((b.getD k 0).toNat : Int) false).getD (is.headD 0) 0).toNat : Int)) (fun j hj => rfl)
  have htl := toldI_len ((b.getD k 0).toNat : Int) false
  have E' := (⟨hw, h, h1⟩ : _ ∧ _ ∧ _)
  refine rMo baseQB 500 (behind Tryd.f25 1) 900 110 (hI 10 356437) ([((102 : Nat), Rn.to (180 : Nat))]) [(qb12 b k), (qb7 b k), (qb5 b k), (qb5 b k), (!op, false), (decide ((k : Int) > 0), false), (qb11 b k), (qb9 o), (qb17 b k o)] ((qb2 b i k n op) ∧ (0 = 0 ∧ 0 = 0 ∧ (o ++ toldI (qb4 b k) false).length = o.length + (qb8 b k).length) ∧ ((o ++ toldI (qb4 b k) false).length = o.length + (qb8 b k).length ∧ ∀ (i : Nat), i < (o ++ toldI (qb4 b k) false).length → (↑((o ++ toldI (qb4 b k) false).getD i (0 : UInt8)).toNat : Int) = appF o.length (0 : Nat) (fun is => (qb6 is o)) (fun is => (↑((qb8 b k).getD (qb19 is) (0 : UInt8)).toNat : Int)) [i]) ∧ b.length = b.length ∧ ∀ (i : Nat), i < b.length → (qb10 b i) = (qb10 b i)) next (oc9 ?_ ?_ ?_ ?_ ?_ ?_ ?_ ?_ ?_ okn) ?_
  all_goals clear next; try dsimp only [qb12, qb7, qb5, qb11, qb1, qb9, qb17, qb8, qb2, qb4, qb6, qb19, qb10]
  all_goals exact sc42

set_option maxHeartbeats 4000000 in
theorem qT4 (n M : Nat) (V L : Ix → List UInt8) (b o : List UInt8) (op : Bool) (i k : Nat) (hk : k < b.length) (hbl : b.length ≤ 1000) (ho : o.length ≤ 900000) (h : op = true) (h0 : k = 0) (h1 : goI ((b.getD k 0).toNat : Int) = false)  (v : SV) (L' : HF) (next : RunsTo Tryd.prog 25 (headOf Tryd.f25 1) (envAt Tryd.f25.ntmps ([(3, vP 101), (4, vB op), (13, vL 61 2 n), (14, vN n), (15, vN (i : Nat)), (32, vL 103 1 b.length), (33, vN b.length), (34, vN (k + 1 : Nat))])) (Sx.look (prX 61 M V L ++ (bdE 101 102 (o ++ toldI ((b.getD k 0).toNat : Int) true) ++ rwB 103 b))) 80 (v) (L') 520) :
    RunsTo Tryd.prog 25 (headOf Tryd.f25 1) (envAt Tryd.f25.ntmps ([(3, vP 101), (4, vB op), (13, vL 61 2 n), (14, vN n), (15, vN (i : Nat)), (32, vL 103 1 b.length), (33, vN b.length), (34, vN (k : Nat))])) (Sx.look (prX 61 M V L ++ (bdE 101 102 (o) ++ rwB 103 b))) 80 (v) (L') 520 := by
  have hw : IntKind.i64.wrap ((k : Int) + 1) = ((k + 1 : Nat) : Int) := by rw [wr64 (by omega)]; rfl
  have hu := u8nat (b.getD k 0)
  have hap := app_bytes o (toldI ((b.getD k 0).toNat : Int) true) (fun is => (((toldI ((b.getD k 0).toNat : Int) true).getD (is.headD 0) 0).toNat : Int)) (fun j hj => rfl)
  have htl := toldI_len ((b.getD k 0).toNat : Int) true
  have E' := (⟨hw, h, h1⟩ : _ ∧ _ ∧ _)
  refine rMo baseQB 500 (behind Tryd.f25 1) 900 110 (hI 10 356437) ([((102 : Nat), Rn.to (180 : Nat))]) [(qb12 b k), (qb7 b k), (qb5 b k), (qb5 b k), (!op, false), (decide ((k : Int) > 0), false), (qb11 b k), (qb9 o), (qb17 b k o)] ((qb2 b i k n op) ∧ (0 = 0 ∧ 0 = 0 ∧ (qb16 b k o).length = o.length + (qb8 b k).length) ∧ ((qb16 b k o).length = o.length + (qb8 b k).length ∧ ∀ (i : Nat), i < (qb16 b k o).length → (↑((qb16 b k o).getD i (0 : UInt8)).toNat : Int) = appF o.length (0 : Nat) (fun is => (qb6 is o)) (fun is => (↑((qb8 b k).getD (qb19 is) (0 : UInt8)).toNat : Int)) [i]) ∧ b.length = b.length ∧ ∀ (i : Nat), i < b.length → (qb10 b i) = (qb10 b i)) next (oc9 ?_ ?_ ?_ ?_ ?_ ?_ ?_ ?_ ?_ okn) ?_
  all_goals clear next; try dsimp only [qb12, qb7, qb5, qb11, qb1, qb9, qb17, qb8, qb2, qb16, qb4, qb6, qb19, qb10]
  all_goals exact sc42

set_option maxHeartbeats 4000000 in
theorem qE (n M : Nat) (V L : Ix → List UInt8) (b o : List UInt8) (op : Bool) (i k : Nat) (hi : i < n) (hn : n ≤ 100) (hk : k = b.length) (ho : o.length ≤ 900000)  (v : SV) (L' : HF) (next : RunsTo Tryd.prog 25 (headOf Tryd.f25 0) (envAt Tryd.f25.ntmps ([(3, vP 101), (4, vB false), (13, vL 61 2 n), (14, vN n), (15, vN (i + 1 : Nat))])) (Sx.look (prX 61 M V L ++ (bdE 101 102 (o)))) 80 (v) (L') 520) :
    RunsTo Tryd.prog 25 (headOf Tryd.f25 1) (envAt Tryd.f25.ntmps ([(3, vP 101), (4, vB op), (13, vL 61 2 n), (14, vN n), (15, vN (i : Nat)), (32, vL 103 1 b.length), (33, vN b.length), (34, vN (k : Nat))])) (Sx.look (prX 61 M V L ++ (bdE 101 102 (o) ++ rwB 103 b))) 80 (v) (L') 520 := by
  have hw : IntKind.i64.wrap ((i : Int) + 1) = ((i + 1 : Nat) : Int) := by rw [wr64 (by omega)]; rfl
  have E' := hw
  refine rMo baseQB 500 (behind Tryd.f25 0) 900 110 (hI 1 0) ([]) [(decide ((k : Int) < (↑b.length : Int)), false)] ((0 = 0 ∧ false = false ∧ (0 = 0 ∧ n = n) ∧ (n : Int) = (n : Int) ∧ (↑(i + (1 : Nat)) : Int) = IntKind.i64.wrap ((i : Int) + 1)) ∧ (0 = 0 ∧ 0 = 0 ∧ o.length = o.length) ∧ o.length = o.length ∧ ∀ (i : Nat), i < o.length → (qb15 i o) = (qb15 i o)) next (oc1 ?_ okn) ?_
  all_goals clear next; try dsimp only [qb15]
  all_goals exact sc41

set_option maxHeartbeats 4000000 in
theorem qZ (n M : Nat) (V L : Ix → List UInt8) (o : List UInt8) (op : Bool) (i : Nat) (hi : i = n) (ho : o.length ≤ 900000)  :
    (RunsTo Tryd.prog 25 (headOf Tryd.f25 0) (envAt Tryd.f25.ntmps ([(3, vP 101), (4, vB op), (13, vL 61 2 n), (14, vN n), (15, vN (i : Nat))])) (Sx.look (prX 61 M V L ++ (bdE 101 102 (o)))) 80 (vS (o ++ [34])) (Sx.look ([])) 520) := by
  have hap := app_byte o 34 (fun _ => 34) rfl
  refine rEn baseQB 500 (99) 900 110 (hI 7 5980) ([]) [(decide ((i : Int) < (n : Int)), false), (qb9 o), (decide (((2 : Nat) * (o.length + (1 : Nat)) + (192 : Nat)) * (1 : Nat) ≤ (281474976710656 : Nat)), true), ((o.length + (1 : Nat)).ble (o.length + (1 : Nat)), true), ((o.length + (1 : Nat)).ble (1000000 : Nat), true)] (o ++ [(34 : UInt8)] = bytesOf (appF o.length (0 : Nat) (fun is => (qb6 is o)) fun js => (34 : Int)) [] (0 : Nat) (o.length + (1 : Nat)) ∧ True) (oc5 ?_ ?_ ?_ ?_ ?_ okn) ?_
  all_goals try dsimp only [qb9, qb6, qb19]
  all_goals exact sc43

theorem qT (n M : Nat) (V L : Ix → List UInt8) (b o : List UInt8) (op : Bool) (i k : Nat) (v : SV) (L' : HF) (hk : k < b.length) (hbl : b.length ≤ 1000) (ho : o.length ≤ 900000) (q : RunsTo Tryd.prog 25 (headOf Tryd.f25 1) (envAt Tryd.f25.ntmps ([(3, vP 101), (4, vB op), (13, vL 61 2 n), (14, vN n), (15, vN (i : Nat)), (32, vL 103 1 b.length), (33, vN b.length), (34, vN (k + 1 : Nat))])) (Sx.look (prX 61 M V L ++ (bdE 101 102 (o ++ toldI ((b.getD k 0).toNat : Int) (plA op b k)) ++ rwB 103 b))) 80 (v) (L') 520) : RunsTo Tryd.prog 25 (headOf Tryd.f25 1) (envAt Tryd.f25.ntmps ([(3, vP 101), (4, vB op), (13, vL 61 2 n), (14, vN n), (15, vN (i : Nat)), (32, vL 103 1 b.length), (33, vN b.length), (34, vN (k : Nat))])) (Sx.look (prX 61 M V L ++ (bdE 101 102 (o) ++ rwB 103 b))) 80 (v) (L') 520 := by
  cases hop : op with
  | false =>
    have e : plA op b k = true := by simp [plA, hop]
    rw [e, hop] at q; exact qT1 n M V L b o false i k hk hbl ho rfl v L' q
  | true =>
    by_cases h0 : 0 < k
    · have e : plA op b k = true := by simp [plA, h0]
      rw [e, hop] at q; exact qT2 n M V L b o true i k hk hbl ho rfl h0 v L' q
    · cases h1 : goI ((b.getD k 0).toNat : Int) with
      | true =>
        have e : plA op b k = false := by rw [plA, hop, h1, decide_eq_false h0]; rfl
        rw [e, hop] at q; exact qT3 n M V L b o true i k hk hbl ho rfl (by omega) h1 v L' q
      | false =>
        have e : plA op b k = true := by rw [plA, hop, h1, decide_eq_false h0]; rfl
        rw [e, hop] at q; exact qT4 n M V L b o true i k hk hbl ho rfl (by omega) h1 v L' q
theorem qI (n M : Nat) (V L : Ix → List UInt8) (b o : List UInt8) (op : Bool) (i : Nat) (v : SV) (L' : HF) (hi : i < n) (hn : n ≤ 100) (hbl : b.length ≤ 1000) (ho : o.length ≤ 800000) (q : RunsTo Tryd.prog 25 (headOf Tryd.f25 0) (envAt Tryd.f25.ntmps ([(3, vP 101), (4, vB false), (13, vL 61 2 n), (14, vN n), (15, vN (i + 1 : Nat))])) (Sx.look (prX 61 M V L ++ (bdE 101 102 (o ++ tolds op b b.length)))) 80 (v) (L') 520) : RunsTo Tryd.prog 25 (headOf Tryd.f25 1) (envAt Tryd.f25.ntmps ([(3, vP 101), (4, vB op), (13, vL 61 2 n), (14, vN n), (15, vN (i : Nat)), (32, vL 103 1 b.length), (33, vN b.length), (34, vN (0 : Nat))])) (Sx.look (prX 61 M V L ++ (bdE 101 102 (o) ++ rwB 103 b))) 80 (v) (L') 520 := by
  suffices z : ∀ (j k : Nat), k + j = b.length → RunsTo Tryd.prog 25 (headOf Tryd.f25 1) (envAt Tryd.f25.ntmps ([(3, vP 101), (4, vB op), (13, vL 61 2 n), (14, vN n), (15, vN (i : Nat)), (32, vL 103 1 b.length), (33, vN b.length), (34, vN (k : Nat))])) (Sx.look (prX 61 M V L ++ (bdE 101 102 (o ++ tolds op b k) ++ rwB 103 b))) 80 (v) (L') 520 from by have := z b.length 0 (by omega); rw [show o ++ tolds op b 0 = o by simp [tolds]] at this; exact this
  intro j
  induction j with
  | zero =>
    intro k hk
    have := tolds_len op b k
    have e : k = b.length := by omega
    subst e
    exact qE n M V L b _ op i _ hi hn rfl (by rw [List.length_append]; omega) v L' q
  | succ j ih =>
    intro k hk
    have := tolds_len op b k
    refine qT n M V L b _ op i k v L' (by omega) hbl (by rw [List.length_append]; omega) ?_
    have z := ih (k + 1) (by omega)
    rw [tolds, ← List.append_assoc o] at z
    exact z
theorem qqT (n M : Nat) (V L : Ix → List UInt8) (hM : n ≤ M) (hn : n ≤ 100) (hb : lnB V L n = true) : RunsTo Tryd.prog 25 [.code (bodyOf Tryd.f25)] (envOf [vL 61 2 n] Tryd.f25.ntmps) (Sx.look (prX 61 M V L ++ ([]))) 80 (vS (if rgtI n V L = true then quoI n V L else [])) (Sx.look []) 520 := by
  cases hr : rgtI n V L with
  | false => exact qF n M V L hM hn hb hr
  | true =>
    refine q0 n M V L hM hn hb hr _ _ ?_
    suffices z : ∀ (j i : Nat), i + j = n → RunsTo Tryd.prog 25 (headOf Tryd.f25 0) (envAt Tryd.f25.ntmps ([(3, vP 101), (4, vB (quoA V L i).2), (13, vL 61 2 n), (14, vN n), (15, vN (i : Nat))])) (Sx.look (prX 61 M V L ++ (bdE 101 102 ((quoA V L i).1)))) 80 (vS (quoI n V L)) (Sx.look []) 520 from z n 0 (by omega)
    intro j
    induction j with
    | zero =>
      intro i hi
      have hl := quoA_len V L n hb i (by omega)
      have e : i = n := by omega
      subst e
      exact qZ i M V L _ _ _ rfl (by omega)
    | succ j ih =>
      intro i hi
      have hl := quoA_len V L n hb i (by omega)
      have hli := lnB_at hb (show i < n by omega)
      have z := ih (i + 1) (by omega)
      rw [quoA] at z
      by_cases h : V [i] ≠ []
      · rw [if_pos h] at z
        exact qV n M V L _ _ i (by omega) hM hn hb (by omega) h _ _ z
      · rw [if_neg h] at z
        have h : V [i] = [] := by simpa using h
        refine qL n M V L (L [i]) _ _ i (by omega) hM hn hb (by omega) h rfl _ _ ?_
        exact qI n M V L (L [i]) _ _ i _ _ (by omega) hn hli.2 (by omega) z
def qtP : PC := { args := [.v (.vl 61 2 0)], heap := [⟨61, false, 2, .ta 4 (.tc (.vs 2) (.tc (.vs 3) .t0))⟩], gs := [], G := 23, tp := 213, n := 80, n' := 520, cond := fun e => decide (eN e 0 ≤ eN e 4) && (decide (eN e 0 ≤ 100) && lnB (eS e 2) (eS e 3) (eN e 0)), v := fun e => vS (if rgtI (eN e 0) (eS e 2) (eS e 3) = true then quoI (eN e 0) (eS e 2) (eS e 3) else []), post := fun e => [] }
theorem qtP_pc : PC.Runs Tryd.prog 25 Tryd.f25 (bodyOf Tryd.f25) qtP := ⟨Tryd.func25, by kernel_rfl, (fun g hg => by first | (cases hg; done) | (revert g; show ∀ g ∈ ([] : List Nat), g < 23; decide)), fun e H hc => by
  have hc : (decide (eN e 0 ≤ eN e 4) && (decide (eN e 0 ≤ 100) && lnB (eS e 2) (eS e 3) (eN e 0))) = true := hc
  try simp only [Bool.and_eq_true, decide_eq_true_eq, Nat.beq_eq] at hc
  exact qqT (eN e 0) (eN e 4) (eS e 2) (eS e 3) hc.1 hc.2.1 hc.2.2⟩
end Go.Proofs.YtaleenklamognaaDoor

set_option linter.unusedSimpArgs false
set_option linter.unusedVariables false
set_option maxRecDepth 100000
namespace Go.Proofs.YtaleenklamognaaDoor
open Go.Sx

open WordR
def rrAt (V L : Ix → List UInt8) (i : Nat) : Bool :=
  (decide (V [i] ≠ []) != decide (L [i] ≠ [])) && ((decide (V [i] = []) || namI (V [i])) && (decide ((L [i]).length ≤ 400) && !(decide (0 < i) && (decide (L [i] ≠ []) && decide (L [i - 1] ≠ [])))))
def rrI (n : Nat) (V L : Ix → List UInt8) : Bool := (List.range n).all (rrAt V L) && decide (n ≤ 40)
def sumsQD : List (FuncId × Summ) := [(53, lrP.summ 46), (54, rsP.summ 46)]
theorem baseQD : Base0 Tryd.prog sumsQD := ((baseO.cons Tryd.func54 (by kernel_rfl) (PC.summ_ok rsP_pc gtopG)).cons Tryd.func53 (by kernel_rfl) (PC.summ_ok lrP_pc gtopG))

variable (L : Ix → List UInt8) (M : Nat) (V : Ix → List UInt8) (i n : Nat) (s : List UInt8)
abbrev qc8 := (↑(V [0 + (i : Int).toNat]).length : Int)
abbrev qc7 := (↑(L [0 + (i : Int).toNat]).length : Int)
abbrev qc1 := (decide ((qc8 V i) > 0) == decide ((qc7 L i) > 0), false)
abbrev qc2 := RunsTo Tryd.prog 22 (headOf Tryd.f22 0) (envAt Tryd.f22.ntmps ([(0, vL 61 2 n), (5, vL 61 2 n), (6, vN n), (7, vN (i : Nat))])) (Sx.look (prX 61 M V L ++ ([]))) 80 (vB false) (Sx.look ([])) 320
abbrev qc3 := ((0 = 0 ∧ n = n) ∧ (0 = 0 ∧ n = n) ∧ (n : Int) = (n : Int) ∧ (↑(i + (1 : Nat)) : Int) = IntKind.i64.wrap ((i : Int) + 1)) ∧ True
abbrev qc4 := ((0 + (i : Int).toNat).blt M, true)
abbrev qc5 := (decide (0 ≤ (i : Int) ∧ (i : Int) < (n : Int)), true)
abbrev qc6 := (decide ((0 : Int) ≤ 0) && (decide (Int.toNat (0 : Int) ≤ s.length) && decide (s.length ≤ (100000 : Nat))), true)
abbrev qc9 := (decide ((i : Int) < (n : Int)), true)
abbrev qc10 := (↑s.length : Int)
abbrev qc11 := ((0 + (IntKind.i64.wrap ((i : Int) - 1)).toNat).blt M, true)
abbrev qc12 := false = false ∧ True
abbrev qc13 := RunsTo Tryd.prog 61 [.code (bodyOf Tryd.f61)] (envOf [vS s] Tryd.f61.ntmps) (Sx.look ([] ++ ([]))) 80 (vB false) (Sx.look ([])) 170
abbrev qc14 := (↑(s.getD (0 : Nat) (0 : UInt8)).toNat : Int)
abbrev qc15 := (↑(spanR (pfI true) (List.drop (Int.toNat (0 : Int)) s)) : Int)
abbrev qc16 := (decide (0 ≤ IntKind.i64.wrap ((i : Int) - 1) ∧ IntKind.i64.wrap ((i : Int) - 1) < (n : Int)), true)
abbrev qc17 := (decide ((qc7 L i) > 400), false)
set_option maxHeartbeats 4000000 in
theorem rn0 (s : List UInt8) (h : s.length = 0 ∨ 24 < s.length)  :
    (qc13 s) := by
  refine bcase (fun gg0 => (rEn baseQD 300 (99) 900 80 (hI 2 4) ([]) [((qc10 s) == 0, false), (decide ((qc10 s) > 24), true)] qc12 (oc2 gg0 ?_ okn) ?_)) fun gg0 => (rEn baseQD 300 (99) 900 80 (hI 1 1) ([]) [((qc10 s) == 0, true)] qc12 (oc1 gg0 okn) ?_)
  all_goals try dsimp only [qc10, qc12] at *
  all_goals exact sc44

set_option maxHeartbeats 4000000 in
theorem rn1 (s : List UInt8) (h1 : 0 < s.length) (h2 : s.length ≤ 24) (h3 : spanR goI s ≠ s.length)  :
    (qc13 s) := by
  have h4 : (0 : Int).toNat = 0 := rfl
  have E' := h4
  refine rEn baseQD 300 (99) 900 80 (hI 4 80) ([]) [((qc10 s) == 0, false), (decide ((qc10 s) > 24), false), (qc6 s), ((qc15 s) != (qc10 s), true)] qc12 (oc4 ?_ ?_ ?_ ?_ okn) ?_
  all_goals try dsimp only [qc10, qc6, qc15, qc12]
  all_goals exact sc45

set_option maxHeartbeats 4000000 in
theorem rn2 (s : List UInt8) (h1 : 0 < s.length) (h2 : s.length ≤ 24) (h3 : spanR goI s = s.length)  :
    (RunsTo Tryd.prog 61 [.code (bodyOf Tryd.f61)] (envOf [vS s] Tryd.f61.ntmps) (Sx.look ([] ++ ([]))) 80 (vB (ltrI ((s.getD 0 0).toNat : Int) || decide (s.length = 1))) (Sx.look ([])) 170) := by
  have h4 : (0 : Int).toNat = 0 := rfl
  have E' := (⟨h3, h4⟩ : _ ∧ _)
  refine bcase (fun gg0 => (rEn baseQD 300 (99) 900 80 (hI 7 3344) ([]) [((qc10 s) == 0, false), (decide ((qc10 s) > 24), false), (qc6 s), ((qc15 s) != (qc10 s), false), (decide ((0 : Int) ≤ 0 ∧ (0 : Int) < (qc10 s)), true), (ltrI (qc14 s), false)] ((ltrI (qc14 s) || decide (s.length = (1 : Nat))) = ((qc10 s) == 1) ∧ True) (oc6 ?_ ?_ ?_ ?_ ?_ gg0 okn) ?_)) fun gg0 => (rEn baseQD 300 (99) 900 80 (hI 7 7440) ([]) [((qc10 s) == 0, false), (decide ((qc10 s) > 24), false), (qc6 s), ((qc15 s) != (qc10 s), false), (decide ((0 : Int) ≤ 0 ∧ (0 : Int) < (qc10 s)), true), (ltrI (qc14 s), true)] ((ltrI (qc14 s) || decide (s.length = (1 : Nat))) = true ∧ True) (oc6 ?_ ?_ ?_ ?_ ?_ gg0 okn) ?_)
  all_goals try dsimp only [qc10, qc6, qc15, qc14] at *
  all_goals exact sc46

theorem rnT (s : List UInt8) : RunsTo Tryd.prog 61 [.code (bodyOf Tryd.f61)] (envOf [vS s] Tryd.f61.ntmps) (Sx.look ([] ++ ([]))) 80 (vB (namI s)) (Sx.look []) 170 := by
  by_cases h : s.length = 0 ∨ 24 < s.length
  · have q := rn0 s h
    rw [show namI s = false by
      unfold namI
      rcases h with h | h
      · have : s = [] := List.length_eq_zero_iff.1 h
        subst this; decide
      · rw [if_neg (by omega)]
        split
        · rfl
        · simp; omega]
    exact q
  · by_cases h3 : spanR goI s = s.length
    · have q := rn2 s (by omega) (by omega) h3
      rw [show namI s = (ltrI ((s.getD 0 0).toNat : Int) || decide (s.length = 1)) by
        have hg : goI ((s.getD 0 0).toNat : Int) = true := spn_at (p := goI) s 0 (by rw [h3]; omega)
        have hne : s ≠ [] := by intro e; rw [e] at h; simp at h
        unfold namI
        by_cases h1 : s.length = 1
        · by_cases hf : figI ((s.getD 0 0).toNat : Int) = true
          · rw [if_pos ⟨h1, hf⟩]; simp [h1]
          · rw [if_neg (by rintro ⟨_, b⟩; exact hf b), if_neg (by omega)]
            have hl : ltrI ((s.getD 0 0).toNat : Int) = true := by
              unfold goI at hg
              cases hq : ltrI ((s.getD 0 0).toNat : Int) with
              | true => rfl
              | false => rw [hq, Bool.false_or] at hg; exact absurd hg hf
            rw [hl, decide_eq_true hne, decide_eq_true (show s.length ≤ 24 by omega)]; rfl
        · rw [if_neg (by rintro ⟨a, _⟩; exact h1 a), if_neg (by omega)]
          rw [decide_eq_true hne, decide_eq_true (show s.length ≤ 24 by omega), decide_eq_false h1]; simp]
      exact q
    · have q := rn1 s (by omega) (by omega) h3
      have hle := span_le goI s
      rw [show namI s = false by
        unfold namI
        rw [if_neg ?_, if_pos (by omega)]
        rintro ⟨a, b⟩
        apply h3
        have : goI ((s.getD 0 0).toNat : Int) = true := by unfold goI; rw [b]; simp
        exact spn_all s (fun j hj => by rw [show j = 0 by omega]; exact this)]
      exact q
def rnP : PC := { args := [.v (.vs 0)], heap := [], gs := [], G := 23, tp := 213, n := 80, n' := 170, cond := fun e => true, v := fun e => vB (namI (eS e 0 [])), post := fun e => [] }
theorem rnP_pc : PC.Runs Tryd.prog 61 Tryd.f61 (bodyOf Tryd.f61) rnP := ⟨Tryd.func61, by kernel_rfl, (fun g hg => by first | (cases hg; done) | (revert g; show ∀ g ∈ ([] : List Nat), g < 23; decide)), fun e H hc => by
  have hc : (true) = true := hc
  try simp only [Bool.and_eq_true, decide_eq_true_eq, Nat.beq_eq] at hc
  exact rnT (eS e 0 [])⟩
def sumsQE : List (FuncId × Summ) := [(61, rnP.summ 46)]
theorem baseQE : Base0 Tryd.prog sumsQE := (baseO.cons Tryd.func61 (by kernel_rfl) (PC.summ_ok rnP_pc gtopG))

set_option maxHeartbeats 4000000 in
theorem rr0 (n M : Nat) (V L : Ix → List UInt8) (hM : n ≤ M) (hn : n ≤ 1000)  (v : SV) (L' : HF) (next : RunsTo Tryd.prog 22 (headOf Tryd.f22 0) (envAt Tryd.f22.ntmps ([(0, vL 61 2 n), (5, vL 61 2 n), (6, vN n), (7, vN (0 : Nat))])) (Sx.look (prX 61 M V L ++ ([]))) 80 (v) (L') 320) :
    RunsTo Tryd.prog 22 [.code (bodyOf Tryd.f22)] (envOf [vL 61 2 n] Tryd.f22.ntmps) (Sx.look (prX 61 M V L ++ ([]))) 80 (v) (L') 320 := by
  refine rMo baseQE 300 (behind Tryd.f22 0) 900 80 (hI 0 0) ([]) [] (((0 = 0 ∧ n = n) ∧ (0 = 0 ∧ n = n) ∧ (n : Int) = (n : Int) ∧ (↑(0 : Nat) : Int) = (0 : Int)) ∧ True) next okn ?_
  all_goals clear next; exact sc47

set_option maxHeartbeats 4000000 in
theorem rrV (n M : Nat) (V L : Ix → List UInt8) (i : Nat) (hi : i < n) (hM : n ≤ M) (hn : n ≤ 1000) (h1 : 0 < (V [i]).length) (h2 : L [i] = []) (h3 : namI (V [i]) = true)  (v : SV) (L' : HF) (next : RunsTo Tryd.prog 22 (headOf Tryd.f22 0) (envAt Tryd.f22.ntmps ([(0, vL 61 2 n), (5, vL 61 2 n), (6, vN n), (7, vN (i + 1 : Nat))])) (Sx.look (prX 61 M V L ++ ([]))) 80 (v) (L') 320) :
    RunsTo Tryd.prog 22 (headOf Tryd.f22 0) (envAt Tryd.f22.ntmps ([(0, vL 61 2 n), (5, vL 61 2 n), (6, vN n), (7, vN (i : Nat))])) (Sx.look (prX 61 M V L ++ ([]))) 80 (v) (L') 320 := by
  have hw : IntKind.i64.wrap ((i : Int) + 1) = ((i + 1 : Nat) : Int) := by rw [wr64 (by omega)]; rfl
  have hji : 0 < i → IntKind.i64.wrap ((i : Int) - 1) = ((i - 1 : Nat) : Int) := fun h => by rw [wr64 (by omega)]; omega
  have hvl : V [i] ≠ [] ↔ 0 < (V [i]).length := List.length_pos_iff.symm
  have hll : L [i] ≠ [] ↔ 0 < (L [i]).length := List.length_pos_iff.symm
  have hlj : L [i - 1] ≠ [] ↔ 0 < (L [i - 1]).length := List.length_pos_iff.symm
  have E' := (⟨hw, h2, h3, hji⟩ : _ ∧ _ ∧ _ ∧ _)
  refine bcase (fun gg0 => (rMo baseQE 300 (behind Tryd.f22 0) 900 110 (hI 10 13397) ([]) [(qc9 i n), (qc5 i n), (qc4 M i), (qc4 M i), (qc1 L V i), (decide ((qc8 V i) > 0), true), (!namI (V [0 + (i : Int).toNat]), false), (qc17 L i), (decide ((i : Int) > 0), false)] (qc3 i n) next (oc9 ?_ ?_ ?_ ?_ ?_ ?_ ?_ ?_ gg0 okn) ?_)) fun gg0 => (rMo baseQE 300 (behind Tryd.f22 0) 900 110 (hI 11 275541) ([]) [(qc9 i n), (qc5 i n), (qc4 M i), (qc4 M i), (qc1 L V i), (decide ((qc8 V i) > 0), true), (!namI (V [0 + (i : Int).toNat]), false), (qc17 L i), (decide ((i : Int) > 0), true), (decide ((qc7 L i) > 0), false)] (qc3 i n) next (oc1 ?_ (oc9 ?_ ?_ ?_ ?_ ?_ ?_ ?_ gg0 ?_ okn)) ?_)
  all_goals clear next; try dsimp only [qc9, qc5, qc4, qc1, qc8, qc7, qc17, qc3] at *
  all_goals exact sc48

set_option maxHeartbeats 4000000 in
theorem rrL (n M : Nat) (V L : Ix → List UInt8) (i : Nat) (hi : i < n) (hM : n ≤ M) (hn : n ≤ 1000) (h1 : V [i] = []) (h2 : 0 < (L [i]).length) (h4 : (L [i]).length ≤ 400) (h3 : 0 < i → L [i - 1] = [])  (v : SV) (L' : HF) (next : RunsTo Tryd.prog 22 (headOf Tryd.f22 0) (envAt Tryd.f22.ntmps ([(0, vL 61 2 n), (5, vL 61 2 n), (6, vN n), (7, vN (i + 1 : Nat))])) (Sx.look (prX 61 M V L ++ ([]))) 80 (v) (L') 320) :
    RunsTo Tryd.prog 22 (headOf Tryd.f22 0) (envAt Tryd.f22.ntmps ([(0, vL 61 2 n), (5, vL 61 2 n), (6, vN n), (7, vN (i : Nat))])) (Sx.look (prX 61 M V L ++ ([]))) 80 (v) (L') 320 := by
  have hw : IntKind.i64.wrap ((i : Int) + 1) = ((i + 1 : Nat) : Int) := by rw [wr64 (by omega)]; rfl
  have hji : 0 < i → IntKind.i64.wrap ((i : Int) - 1) = ((i - 1 : Nat) : Int) := fun h => by rw [wr64 (by omega)]; omega
  have hvl : V [i] ≠ [] ↔ 0 < (V [i]).length := List.length_pos_iff.symm
  have hll : L [i] ≠ [] ↔ 0 < (L [i]).length := List.length_pos_iff.symm
  have hlj : L [i - 1] ≠ [] ↔ 0 < (L [i - 1]).length := List.length_pos_iff.symm
  have E' := (⟨hw, h1, h3, hji⟩ : _ ∧ _ ∧ _ ∧ _)
  refine bcase (fun gg0 => (rMo baseQE 300 (behind Tryd.f22 0) 900 110 (hI 8 85) ([]) [(qc9 i n), (qc5 i n), (qc4 M i), (qc4 M i), (qc1 L V i), (decide ((qc8 V i) > 0), false), (qc17 L i), (decide ((i : Int) > 0), false)] (qc3 i n) next (oc8 ?_ ?_ ?_ ?_ ?_ ?_ ?_ gg0 okn) ?_)) fun gg0 => (rMo baseQE 300 (behind Tryd.f22 0) 900 110 (hI 13 5587029) ([]) [(qc9 i n), (qc5 i n), (qc4 M i), (qc4 M i), (qc1 L V i), (decide ((qc8 V i) > 0), false), (qc17 L i), (decide ((i : Int) > 0), true), (decide ((qc7 L i) > 0), true), (qc16 i n), (qc11 M i), (qc11 M i), (decide ((↑(L [0 + (IntKind.i64.wrap ((i : Int) - 1)).toNat]).length : Int) > 0), false)] (qc3 i n) next (oc4 ?_ ?_ ?_ ?_ (oc9 ?_ ?_ ?_ gg0 ?_ ?_ ?_ ?_ ?_ okn)) ?_)
  all_goals clear next; try dsimp only [qc9, qc5, qc4, qc1, qc8, qc7, qc17, qc3, qc16, qc11] at *
  all_goals exact sc48

set_option maxHeartbeats 4000000 in
theorem rrA (n M : Nat) (V L : Ix → List UInt8) (i : Nat) (hi : i < n) (hM : n ≤ M) (hn : n ≤ 1000) (h : (0 < (V [i]).length) = (0 < (L [i]).length))  :
    (qc2 L M V i n) := by
  have hw : IntKind.i64.wrap ((i : Int) + 1) = ((i + 1 : Nat) : Int) := by rw [wr64 (by omega)]; rfl
  have hji : 0 < i → IntKind.i64.wrap ((i : Int) - 1) = ((i - 1 : Nat) : Int) := fun h => by rw [wr64 (by omega)]; omega
  have hvl : V [i] ≠ [] ↔ 0 < (V [i]).length := List.length_pos_iff.symm
  have hll : L [i] ≠ [] ↔ 0 < (L [i]).length := List.length_pos_iff.symm
  have hlj : L [i - 1] ≠ [] ↔ 0 < (L [i - 1]).length := List.length_pos_iff.symm
  have E' := (⟨hw, hji⟩ : _ ∧ _)
  refine rEn baseQE 300 (99) 900 110 (hI 5 341) ([]) [(qc9 i n), (qc5 i n), (qc4 M i), (qc4 M i), (decide ((qc8 V i) > 0) == decide ((qc7 L i) > 0), true)] qc12 (oc5 ?_ ?_ ?_ ?_ ?_ okn) ?_
  all_goals try dsimp only [qc9, qc5, qc4, qc8, qc7, qc12]
  all_goals exact sc49

set_option maxHeartbeats 4000000 in
theorem rrB (n M : Nat) (V L : Ix → List UInt8) (i : Nat) (hi : i < n) (hM : n ≤ M) (hn : n ≤ 1000) (h1 : 0 < (V [i]).length) (h2 : L [i] = []) (h3 : namI (V [i]) = false)  :
    (qc2 L M V i n) := by
  have hw : IntKind.i64.wrap ((i : Int) + 1) = ((i + 1 : Nat) : Int) := by rw [wr64 (by omega)]; rfl
  have hji : 0 < i → IntKind.i64.wrap ((i : Int) - 1) = ((i - 1 : Nat) : Int) := fun h => by rw [wr64 (by omega)]; omega
  have hvl : V [i] ≠ [] ↔ 0 < (V [i]).length := List.length_pos_iff.symm
  have hll : L [i] ≠ [] ↔ 0 < (L [i]).length := List.length_pos_iff.symm
  have hlj : L [i - 1] ≠ [] ↔ 0 < (L [i - 1]).length := List.length_pos_iff.symm
  have E' := (⟨h2, h3, hw, hji⟩ : _ ∧ _ ∧ _ ∧ _)
  refine rEn baseQE 300 (99) 900 110 (hI 8 29781) ([]) [(qc9 i n), (qc5 i n), (qc4 M i), (qc4 M i), (qc1 L V i), (decide ((qc8 V i) > 0), true), (!namI (V [0 + (i : Int).toNat]), true)] qc12 (oc7 ?_ ?_ ?_ ?_ ?_ ?_ ?_ okn) ?_
  all_goals try dsimp only [qc9, qc5, qc4, qc1, qc8, qc7, qc12]
  all_goals exact sc48

set_option maxHeartbeats 4000000 in
theorem rrC (n M : Nat) (V L : Ix → List UInt8) (i : Nat) (hi : i < n) (hM : n ≤ M) (hn : n ≤ 1000) (h1 : V [i] = []) (h2 : 400 < (L [i]).length)  :
    (qc2 L M V i n) := by
  have hw : IntKind.i64.wrap ((i : Int) + 1) = ((i + 1 : Nat) : Int) := by rw [wr64 (by omega)]; rfl
  have hji : 0 < i → IntKind.i64.wrap ((i : Int) - 1) = ((i - 1 : Nat) : Int) := fun h => by rw [wr64 (by omega)]; omega
  have hvl : V [i] ≠ [] ↔ 0 < (V [i]).length := List.length_pos_iff.symm
  have hll : L [i] ≠ [] ↔ 0 < (L [i]).length := List.length_pos_iff.symm
  have hlj : L [i - 1] ≠ [] ↔ 0 < (L [i - 1]).length := List.length_pos_iff.symm
  have E' := (⟨h1, hw, hji⟩ : _ ∧ _ ∧ _)
  refine rEn baseQE 300 (99) 900 110 (hI 7 4181) ([]) [(qc9 i n), (qc5 i n), (qc4 M i), (qc4 M i), (qc1 L V i), (decide ((qc8 V i) > 0), false), (decide ((qc7 L i) > 400), true)] qc12 (oc7 ?_ ?_ ?_ ?_ ?_ ?_ ?_ okn) ?_
  all_goals try dsimp only [qc9, qc5, qc4, qc1, qc8, qc7, qc12]
  all_goals exact sc48

set_option maxHeartbeats 4000000 in
theorem rrD (n M : Nat) (V L : Ix → List UInt8) (i : Nat) (hi : i < n) (hM : n ≤ M) (hn : n ≤ 1000) (h1 : V [i] = []) (h2 : 0 < (L [i]).length) (h4 : (L [i]).length ≤ 400) (h0 : 0 < i) (h3 : 0 < (L [i - 1]).length)  :
    (qc2 L M V i n) := by
  have hw : IntKind.i64.wrap ((i : Int) + 1) = ((i + 1 : Nat) : Int) := by rw [wr64 (by omega)]; rfl
  have hji : 0 < i → IntKind.i64.wrap ((i : Int) - 1) = ((i - 1 : Nat) : Int) := fun h => by rw [wr64 (by omega)]; omega
  have hvl : V [i] ≠ [] ↔ 0 < (V [i]).length := List.length_pos_iff.symm
  have hll : L [i] ≠ [] ↔ 0 < (L [i]).length := List.length_pos_iff.symm
  have hlj : L [i - 1] ≠ [] ↔ 0 < (L [i - 1]).length := List.length_pos_iff.symm
  have E' := (⟨h1, hw, hji⟩ : _ ∧ _ ∧ _)
  refine rEn baseQE 300 (99) 900 110 (hI 13 22364245) ([]) [(qc9 i n), (qc5 i n), (qc4 M i), (qc4 M i), (qc1 L V i), (decide ((qc8 V i) > 0), false), (qc17 L i), (decide ((i : Int) > 0), true), (decide ((qc7 L i) > 0), true), (qc16 i n), (qc11 M i), (qc11 M i), (decide ((↑(L [0 + (IntKind.i64.wrap ((i : Int) - 1)).toNat]).length : Int) > 0), true)] qc12 (oc4 ?_ ?_ ?_ ?_ (oc9 ?_ ?_ ?_ ?_ ?_ ?_ ?_ ?_ ?_ okn)) ?_
  all_goals try dsimp only [qc9, qc5, qc4, qc1, qc8, qc7, qc17, qc16, qc11, qc12]
  all_goals exact sc48

set_option maxHeartbeats 4000000 in
theorem rrE (n M : Nat) (V L : Ix → List UInt8) (i : Nat) (hi : i = n) (hM : n ≤ M) (hn : n ≤ 1000)  :
    (RunsTo Tryd.prog 22 (headOf Tryd.f22 0) (envAt Tryd.f22.ntmps ([(0, vL 61 2 n), (5, vL 61 2 n), (6, vN n), (7, vN (i : Nat))])) (Sx.look (prX 61 M V L ++ ([]))) 80 (vB (decide (n ≤ 40))) (Sx.look ([])) 320) := by
  refine rEn baseQE 300 (99) 900 110 (hI 1 0) ([]) [(decide ((i : Int) < (n : Int)), false)] (decide (n ≤ (40 : Nat)) = decide ((n : Int) ≤ 40) ∧ True) (oc1 ?_ okn) ?_
  all_goals exact sc50

theorem rrT (n M : Nat) (V L : Ix → List UInt8) (hM : n ≤ M) (hn : n ≤ 1000) : RunsTo Tryd.prog 22 [.code (bodyOf Tryd.f22)] (envOf [vL 61 2 n] Tryd.f22.ntmps) (Sx.look (prX 61 M V L ++ ([]))) 80 (vB (rrI n V L)) (Sx.look []) 320 := by
  refine rr0 n M V L hM hn _ _ ?_
  suffices q : ∀ (k i : Nat), i + k = n → (∀ j, j < i → rrAt V L j = true) → RunsTo Tryd.prog 22 (headOf Tryd.f22 0) (envAt Tryd.f22.ntmps ([(0, vL 61 2 n), (5, vL 61 2 n), (6, vN n), (7, vN (i : Nat))])) (Sx.look (prX 61 M V L ++ ([]))) 80 (vB (rrI n V L)) (Sx.look []) 320 from q n 0 (by omega) (fun j hj => by omega)
  intro k
  induction k with
  | zero =>
    intro i hi hall
    have e : i = n := by omega
    have ht : (List.range n).all (rrAt V L) = true := List.all_eq_true.2 fun j hj => hall j (by have := List.mem_range.1 hj; omega)
    rw [rrI, ht, Bool.true_and]
    exact rrE n M V L i e hM hn
  | succ k ih =>
    intro i hi hall
    have stop : rrAt V L i = false → rrI n V L = false := fun h => by
      have ht : (List.range n).all (rrAt V L) = false := by
        rw [List.all_eq_false]; exact ⟨i, List.mem_range.2 (by omega), by rw [h]; decide⟩
      rw [rrI, ht, Bool.false_and]
    have go : rrAt V L i = true → RunsTo Tryd.prog 22 (headOf Tryd.f22 0) (envAt Tryd.f22.ntmps ([(0, vL 61 2 n), (5, vL 61 2 n), (6, vN n), (7, vN (i + 1 : Nat))])) (Sx.look (prX 61 M V L ++ ([]))) 80 (vB (rrI n V L)) (Sx.look []) 320 := fun h => ih (i + 1) (by omega) (fun j hj => by
        by_cases e : j = i
        · rw [e]; exact h
        · exact hall j (by omega))
    have hin : i < n := by omega
    have pv : V [i] ≠ [] ↔ 0 < (V [i]).length := List.length_pos_iff.symm
    have pl : L [i] ≠ [] ↔ 0 < (L [i]).length := List.length_pos_iff.symm
    by_cases hv : V [i] = []
    · by_cases hl : L [i] = []
      · rw [stop (by simp [rrAt, hv, hl])]
        exact rrA n M V L i hin hM hn (by simp [hv, hl])
      · by_cases h4 : (L [i]).length ≤ 400
        · by_cases h3 : 0 < i ∧ L [i - 1] ≠ []
          · rw [stop (by simp [rrAt, hv, hl, h3.1, h3.2])]
            exact rrD n M V L i hin hM hn hv (pl.1 hl) h4 h3.1 (List.length_pos_iff.2 h3.2)
          · exact rrL n M V L i hin hM hn hv (pl.1 hl) h4 (fun h => by
              by_cases e : L [i - 1] = []
              · exact e
              · exact absurd ⟨h, e⟩ h3) _ _ (go (by
                have : ¬ (0 < i ∧ ¬ L [i - 1] = []) := h3
                simp [rrAt, hv, hl, h4]; rcases Nat.eq_zero_or_pos i with a | a
                · exact .inl a
                · exact .inr (Classical.byContradiction fun c => this ⟨a, c⟩)))
        · rw [stop (by simp [rrAt, hv, hl, h4])]
          exact rrC n M V L i hin hM hn hv (by omega)
    · by_cases hl : L [i] = []
      · cases hm : namI (V [i]) with
        | true => exact rrV n M V L i hin hM hn (pv.1 hv) hl hm _ _ (go (by simp [rrAt, hv, hl, hm]))
        | false =>
          rw [stop (by simp [rrAt, hv, hl, hm])]
          exact rrB n M V L i hin hM hn (pv.1 hv) hl hm
      · rw [stop (by simp [rrAt, hv, hl])]
        exact rrA n M V L i hin hM hn (by simp [pv.1 hv, pl.1 hl])
def rrP : PC := { args := [.v (.vl 61 2 0)], heap := [⟨61, false, 2, .ta 4 (.tc (.vs 2) (.tc (.vs 3) .t0))⟩], gs := [], G := 23, tp := 213, n := 80, n' := 320, cond := fun e => decide (eN e 0 ≤ eN e 4) && decide (eN e 0 ≤ 1000), v := fun e => vB (rrI (eN e 0) (eS e 2) (eS e 3)), post := fun e => [] }
theorem rrP_pc : PC.Runs Tryd.prog 22 Tryd.f22 (bodyOf Tryd.f22) rrP := ⟨Tryd.func22, by kernel_rfl, (fun g hg => by first | (cases hg; done) | (revert g; show ∀ g ∈ ([] : List Nat), g < 23; decide)), fun e H hc => by
  have hc : (decide (eN e 0 ≤ eN e 4) && decide (eN e 0 ≤ 1000)) = true := hc
  try simp only [Bool.and_eq_true, decide_eq_true_eq, Nat.beq_eq] at hc
  exact rrT (eN e 0) (eN e 4) (eS e 2) (eS e 3) hc.1 hc.2⟩
end Go.Proofs.YtaleenklamognaaDoor

