/- Words: names, told bytes, right pieces. -/
import Derived.Test.YtaleenklamognaaDoorUaC
import Derived.Test.YtaleenklamognaaDoorUbC
set_option linter.unusedSimpArgs false
set_option linter.unusedVariables false
set_option maxRecDepth 100000
namespace Go.Proofs.YtaleenklamognaaDoor
open Go.Sx

open WordR
def rwB (l : Nat) (b : List UInt8) : List Ent := [⟨l, true, none, 1, .ta b.length (.vi .u8 fun is => ((b.getD (is.headD 0) 0).toNat : Int))⟩]
def namI (s : List UInt8) : Bool := if s.length = 1 ∧ figI ((s.getD 0 0).toNat : Int) = true then true else if spanR goI s < s.length then false else decide (s ≠ []) && decide (s.length ≤ 24) && ltrI ((s.getD 0 0).toNat : Int)
def hexS : List UInt8 := [48, 49, 50, 51, 52, 53, 54, 55, 56, 57, 97, 98, 99, 100, 101, 102]
def toldI (x : Int) (p : Bool) : List UInt8 :=
  if x = 10 then [92, 110] else if x = 13 then [92, 114] else if x = 9 then [92, 116] else if x = 34 ∨ x = 36 ∨ x = 92 then [92, UInt8.ofNat x.toNat]
  else if p = true ∧ 32 ≤ x ∧ x ≤ 126 then [UInt8.ofNat x.toNat] else [92, 120, hexS.getD (x / 16).toNat 0, hexS.getD (x % 16).toNat 0]
def rgtAt (V L : Ix → List UInt8) (i : Nat) : Bool :=
  if V [i] ≠ [] then decide (L [i] = []) && namI (V [i]) else decide (L [i] ≠ []) && !(decide (0 < i) && decide (V [i - 1] = []))
def rgtI (n : Nat) (V L : Ix → List UInt8) : Bool := (List.range n).all (rgtAt V L) && fitsP (pcsOf n V L)
def lnB (V L : Ix → List UInt8) (n : Nat) : Bool := (List.range n).all fun i => decide ((V [i]).length ≤ 1000 ∧ (L [i]).length ≤ 1000)
def sumsQN : List (FuncId × Summ) := [(66, bgP.summ 46), (91, fgP.summ 46), (68, goP.summ 46)]
theorem baseQN : Base0 Tryd.prog sumsQN := (((baseO.cons Tryd.func68 (by kernel_rfl) (PC.summ_ok goP_pc gtopG)).cons Tryd.func91 (by kernel_rfl) (PC.summ_ok fgP_pc gtopG)).cons Tryd.func66 (by kernel_rfl) (PC.summ_ok bgP_pc gtopG))

variable (M : Nat) (V : Ix → List UInt8) (i n : Nat) (s : List UInt8) (x : Int)
abbrev qa1 := [(92 : UInt8), (120 : UInt8), hexS.getD (x / (16 : Int)).toNat (0 : UInt8), hexS.getD (x % (16 : Int)).toNat (0 : UInt8)] = [(92 : UInt8), (120 : UInt8)] ++ bytesOf (upd (upd (fun is => (0 : Int)) [(0 : Nat)] (↑([(48 : UInt8), (49 : UInt8), (50 : UInt8), (51 : UInt8), (52 : UInt8), (53 : UInt8), (54 : UInt8), (55 : UInt8), (56 : UInt8), (57 : UInt8), (97 : UInt8), (98 : UInt8), (99 : UInt8), (100 : UInt8), (101 : UInt8), (102 : UInt8)].getD (ishr IntKind.u8 x (4 : Int)).toNat (0 : UInt8)).toNat : Int)) [(1 : Nat)] (↑([(48 : UInt8), (49 : UInt8), (50 : UInt8), (51 : UInt8), (52 : UInt8), (53 : UInt8), (54 : UInt8), (55 : UInt8), (56 : UInt8), (57 : UInt8), (97 : UInt8), (98 : UInt8), (99 : UInt8), (100 : UInt8), (101 : UInt8), (102 : UInt8)].getD (iand IntKind.u8 x (15 : Int)).toNat (0 : UInt8)).toNat : Int)) [] (0 : Nat) (2 : Nat) ∧ True
abbrev qa23 := 0 + (i : Int).toNat
abbrev qa2 := ((qa23 i).blt M, true)
abbrev qa3 := [(92 : UInt8), UInt8.ofNat x.toNat] = bytesOf (upd (upd (fun is => (0 : Int)) [(0 : Nat)] (92 : Int)) [(1 : Nat)] x) [] (0 : Nat) (2 : Nat) ∧ True
abbrev qa4 := (decide (0 ≤ (i : Int) ∧ (i : Int) < (n : Int)), true)
abbrev qa5 := ((0 = 0 ∧ n = n) ∧ (0 = 0 ∧ n = n) ∧ (n : Int) = (n : Int) ∧ (↑(i + (1 : Nat)) : Int) = IntKind.i64.wrap ((i : Int) + 1)) ∧ True
abbrev qa9 := (↑s.length : Int)
abbrev qa24 := (↑(s.getD i (0 : UInt8)).toNat : Int)
abbrev qa6 := ((s = s ∧ (0 = 0 ∧ s.length = s.length) ∧ (qa9 s) = (qa9 s) ∧ (↑(0 : Nat) : Int) = (0 : Int)) ∧ s.length = s.length ∧ ∀ (i : Nat), i < s.length → (qa24 i s) = (qa24 i s))
abbrev qa7 := (decide ((0 : Int) ≤ iand IntKind.u8 x (15 : Int) ∧ iand IntKind.u8 x (15 : Int) < (↑(16 : Nat) : Int)), true)
abbrev qa8 := (decide ((0 : Int) ≤ ishr IntKind.u8 x (4 : Int) ∧ ishr IntKind.u8 x (4 : Int) < (↑(16 : Nat) : Int)), true)
abbrev qa16 := Sx.look ([])
abbrev qa10 := RunsTo Tryd.prog 62 (headOf Tryd.f62 0) (envAt Tryd.f62.ntmps ([(0, vS s), (14, vL 101 1 s.length), (15, vN s.length), (16, vN (i : Nat))])) (Sx.look ([] ++ (rwB 101 s))) 80 (vB false) qa16 160
abbrev qa11 := (decide ((i : Int) < (n : Int)), true)
abbrev qa12 := (↑(s.getD (0 : Nat) (0 : UInt8)).toNat : Int)
abbrev qa13 := ((0 + (IntKind.i64.wrap ((i : Int) - 1)).toNat).blt M, true)
abbrev qa14 := (x == (10 : Int), false)
abbrev qa15 := Sx.look ([] ++ ([]))
abbrev qa17 := false = false ∧ True
abbrev qa18 := (x == (13 : Int), false)
abbrev qa19 := (x == (9 : Int), false)
abbrev qa20 := (decide ((0 : Int) ≤ 0 ∧ (0 : Int) < (qa9 s)), true)
abbrev qa21 := (decide (0 ≤ IntKind.i64.wrap ((i : Int) - 1) ∧ IntKind.i64.wrap ((i : Int) - 1) < (n : Int)), true)
abbrev qa22 := (x == (34 : Int), false)
abbrev qa25 := (x == (36 : Int), false)
abbrev qa26 := (!V [0 + (i : Int).toNat] == [], false)
abbrev qa27 := decide (s ≠ []) && decide (s.length ≤ (24 : Nat)) && ltrI (qa12 s)
set_option maxHeartbeats 4000000 in
theorem nm1 (s : List UInt8) (hl : s.length = 1) (hf : figI ((s.getD 0 0).toNat : Int) = true)  :
    (RunsTo Tryd.prog 62 [.code (bodyOf Tryd.f62)] (envOf [vS s] Tryd.f62.ntmps) qa15 80 (YES) qa16 160) := by
  have E' := (⟨hl, hf⟩ : _ ∧ _)
  refine rEn baseQN 300 (99) 900 80 (hI 4 117) ([]) [((qa9 s) == 1, true), (qa20 s), (figI (qa12 s), true)] (true = true ∧ True) (oc3 ?_ ?_ ?_ okn) ?_
  all_goals try dsimp only [qa9, qa20, qa12]
  all_goals exact sc7

set_option maxHeartbeats 4000000 in
theorem nm0 (s : List UInt8) (hl : s.length ≠ 1) (hs : s.length ≤ 100000)  (v : SV) (L' : HF) (next : RunsTo Tryd.prog 62 (headOf Tryd.f62 0) (envAt Tryd.f62.ntmps ([(0, vS s), (14, vL 101 1 s.length), (15, vN s.length), (16, vN (0 : Nat))])) (Sx.look ([] ++ (rwB 101 s))) 80 (v) (L') 160) :
    RunsTo Tryd.prog 62 [.code (bodyOf Tryd.f62)] (envOf [vS s] Tryd.f62.ntmps) (Sx.look ([] ++ ([]))) 80 (v) (L') 160 := by
  refine rMo baseQN 300 (behind Tryd.f62 0) 900 80 (hI 1 0) ([((101 : Nat), Rn.to (80 : Nat))]) [((qa9 s) == 1, false)] (qa6 s) next (oc1 ?_ okn) ?_
  all_goals clear next; try dsimp only [qa9, qa6, qa24]
  all_goals exact sc6

set_option maxHeartbeats 4000000 in
theorem nm0b (s : List UInt8) (hl : s.length = 1) (hf : figI ((s.getD 0 0).toNat : Int) = false) (hs : s.length ≤ 100000)  (v : SV) (L' : HF) (next : RunsTo Tryd.prog 62 (headOf Tryd.f62 0) (envAt Tryd.f62.ntmps ([(0, vS s), (14, vL 101 1 s.length), (15, vN s.length), (16, vN (0 : Nat))])) (Sx.look ([] ++ (rwB 101 s))) 80 (v) (L') 160) :
    RunsTo Tryd.prog 62 [.code (bodyOf Tryd.f62)] (envOf [vS s] Tryd.f62.ntmps) (Sx.look ([] ++ ([]))) 80 (v) (L') 160 := by
  have E' := (⟨hl, hf⟩ : _ ∧ _)
  refine rMo baseQN 300 (behind Tryd.f62 0) 900 80 (hI 4 53) ([((101 : Nat), Rn.to (90 : Nat))]) [((qa9 s) == 1, true), (qa20 s), (figI (qa12 s), false)] (qa6 s) next (oc3 ?_ ?_ ?_ okn) ?_
  all_goals clear next; try dsimp only [qa9, qa20, qa12, qa6, qa24]
  all_goals exact sc7

set_option maxHeartbeats 4000000 in
theorem nm2 (s : List UInt8) (i : Nat) (hi : i < s.length) (hs : s.length ≤ 100000) (h : goI ((s.getD i 0).toNat : Int) = true)  (v : SV) (L' : HF) (next : RunsTo Tryd.prog 62 (headOf Tryd.f62 0) (envAt Tryd.f62.ntmps ([(0, vS s), (14, vL 101 1 s.length), (15, vN s.length), (16, vN (i + 1 : Nat))])) (Sx.look ([] ++ (rwB 101 s))) 80 (v) (L') 160) :
    RunsTo Tryd.prog 62 (headOf Tryd.f62 0) (envAt Tryd.f62.ntmps ([(0, vS s), (14, vL 101 1 s.length), (15, vN s.length), (16, vN (i : Nat))])) (Sx.look ([] ++ (rwB 101 s))) 80 (v) (L') 160 := by
  have hw : IntKind.i64.wrap ((i : Int) + 1) = ((i + 1 : Nat) : Int) := by rw [wr64 (by omega)]; rfl
  have E' := (⟨hw, h⟩ : _ ∧ _)
  refine rMo baseQN 300 (behind Tryd.f62 0) 900 110 (hI 6 853) ([]) [(decide ((i : Int) < (qa9 s)), true), (decide (0 ≤ (i : Int) ∧ (i : Int) < (qa9 s)), true), ((qa23 i).blt s.length, true), ((qa23 i).blt s.length, true), (!goI (↑(s.getD (qa23 i) (0 : UInt8)).toNat : Int), false)] ((s = s ∧ (0 = 0 ∧ s.length = s.length) ∧ (qa9 s) = (qa9 s) ∧ (↑(i + (1 : Nat)) : Int) = IntKind.i64.wrap ((i : Int) + 1)) ∧ s.length = s.length ∧ ∀ (i : Nat), i < s.length → (qa24 i s) = (qa24 i s)) next (oc5 ?_ ?_ ?_ ?_ ?_ okn) ?_
  all_goals clear next; try dsimp only [qa9, qa23, qa24]
  all_goals exact sc7

set_option maxHeartbeats 4000000 in
theorem nm3 (s : List UInt8) (i : Nat) (hi : i < s.length) (h : goI ((s.getD i 0).toNat : Int) = false)  :
    (qa10 i s) := by
  have E' := h
  refine rEn baseQN 300 (99) 900 110 (hI 6 1877) ([]) [(decide ((i : Int) < (qa9 s)), true), (decide (0 ≤ (i : Int) ∧ (i : Int) < (qa9 s)), true), ((qa23 i).blt s.length, true), ((qa23 i).blt s.length, true), (!goI (↑(s.getD (qa23 i) (0 : UInt8)).toNat : Int), true)] qa17 (oc5 ?_ ?_ ?_ ?_ ?_ okn) ?_
  all_goals try dsimp only [qa9, qa23, qa17]
  all_goals exact sc7

set_option maxHeartbeats 4000000 in
theorem nm4e (s : List UInt8) (i : Nat) (hi : i = s.length) (h : s = [])  :
    (qa10 i s) := by
  refine rEn baseQN 300 (99) 900 110 (hI 2 0) ([]) [(decide ((i : Int) < (qa9 s)), false), (!s == [], false)] qa17 (oc2 ?_ ?_ okn) ?_
  all_goals try dsimp only [qa9, qa17]
  all_goals exact sc6

set_option maxHeartbeats 4000000 in
theorem nm4 (s : List UInt8) (i : Nat) (hi : i = s.length) (h : s ≠ []) (hp : 0 < s.length)  :
    (RunsTo Tryd.prog 62 (headOf Tryd.f62 0) (envAt Tryd.f62.ntmps ([(0, vS s), (14, vL 101 1 s.length), (15, vN s.length), (16, vN (i : Nat))])) (Sx.look ([] ++ (rwB 101 s))) 80 (vB (decide (s ≠ []) && decide (s.length ≤ 24) && ltrI ((s.getD 0 0).toNat : Int))) qa16 160) := by
  refine bcase (fun gg0 => (rEn baseQN 300 (99) 900 110 (hI 3 4) ([]) [(decide ((i : Int) < (qa9 s)), false), (!s == [], true), (decide ((qa9 s) ≤ 24), false)] ((qa27 s) = false ∧ True) (oc3 ?_ ?_ gg0 okn) ?_)) fun gg0 => (rEn baseQN 300 (99) 900 110 (hI 5 852) ([]) [(decide ((i : Int) < (qa9 s)), false), (!s == [], true), (decide ((qa9 s) ≤ 24), true), (qa20 s)] ((qa27 s) = ltrI (qa12 s) ∧ True) (oc4 ?_ ?_ gg0 ?_ okn) ?_)
  all_goals try dsimp only [qa9, qa27, qa12, qa20] at *
  all_goals exact sc31

theorem lnB_at {V L : Ix → List UInt8} {n i : Nat} (h : lnB V L n = true) (hi : i < n) : (V [i]).length ≤ 1000 ∧ (L [i]).length ≤ 1000 := of_decide_eq_true (List.all_eq_true.1 h i (List.mem_range.2 hi))
theorem spn_all {p : Int → Bool} : ∀ (s : List UInt8), (∀ j, j < s.length → p ((s.getD j 0).toNat : Int) = true) → spanR p s = s.length
  | [], _ => rfl
  | c :: r, h => by
    have h0 := h 0 (by simp)
    rw [spanR, if_pos (by simpa [nat] using h0), spn_all r (fun j hj => by have := h (j + 1) (by simp; omega); simpa using this)]; rfl
theorem spn_at {p : Int → Bool} : ∀ (s : List UInt8) (j : Nat), j < spanR p s → p ((s.getD j 0).toNat : Int) = true
  | [], j, h => by simp [spanR] at h
  | c :: r, j, h => by
    rw [spanR] at h
    by_cases hc : p (nat c) = true
    · rw [if_pos hc] at h
      cases j with
      | zero => simpa [nat] using hc
      | succ j => have := spn_at (p := p) r j (by omega); simpa using this
    · rw [if_neg hc] at h; omega
theorem spn_take {p : Int → Bool} (s : List UInt8) {i : Nat} (hi : i < s.length) (hp : spanR p (s.take i) = i) (h : p ((s.getD i 0).toNat : Int) = true) : spanR p (s.take (i + 1)) = i + 1 := by
  have := spn_all (p := p) (s.take (i + 1)) (fun j hj => by
    have hj' : j < i + 1 := by simp at hj; omega
    have e : (s.take (i + 1)).getD j 0 = s.getD j 0 := by simp [List.getD_eq_getElem?_getD, List.getElem?_take, hj']
    rw [e]
    by_cases hji : j = i
    · rw [hji]; exact h
    · have q := spn_at (p := p) (s.take i) j (by omega)
      have e2 : (s.take i).getD j 0 = s.getD j 0 := by simp [List.getD_eq_getElem?_getD, List.getElem?_take, show j < i by omega]
      rw [e2] at q; exact q)
  rw [this]; simp; omega
theorem spn_stop {p : Int → Bool} (s : List UInt8) {i : Nat} (hi : i < s.length) (h : p ((s.getD i 0).toNat : Int) = false) : spanR p s < s.length := by
  rcases Nat.lt_or_ge (spanR p s) s.length with h1 | h1
  · exact h1
  · have := spn_at (p := p) s i (by omega)
    rw [h] at this; cases this
theorem nmT (s : List UInt8) (hs : s.length ≤ 100000) : RunsTo Tryd.prog 62 [.code (bodyOf Tryd.f62)] (envOf [vS s] Tryd.f62.ntmps) (Sx.look ([] ++ ([]))) 80 (vB (namI s)) (Sx.look []) 160 := by
  by_cases hl : s.length = 1 ∧ figI ((s.getD 0 0).toNat : Int) = true
  · have := nm1 s hl.1 hl.2
    rw [namI, if_pos hl]; exact this
  · have go : ∀ v L', (RunsTo Tryd.prog 62 (headOf Tryd.f62 0) (envAt Tryd.f62.ntmps ([(0, vS s), (14, vL 101 1 s.length), (15, vN s.length), (16, vN (0 : Nat))])) (Sx.look ([] ++ (rwB 101 s))) 80 (v) (L') 160) → RunsTo Tryd.prog 62 [.code (bodyOf Tryd.f62)] (envOf [vS s] Tryd.f62.ntmps) (Sx.look ([] ++ ([]))) 80 (v) (L') 160 := fun v L' q => by
      by_cases h1 : s.length = 1
      · refine nm0b s h1 ?_ hs v L' q
        cases h2 : figI ((s.getD 0 0).toNat : Int) with
        | false => rfl
        | true => exact absurd ⟨h1, h2⟩ hl
      · exact nm0 s h1 hs v L' q
    refine go _ _ ?_
    suffices q : ∀ (k i : Nat), i + k = s.length → spanR goI (s.take i) = i → RunsTo Tryd.prog 62 (headOf Tryd.f62 0) (envAt Tryd.f62.ntmps ([(0, vS s), (14, vL 101 1 s.length), (15, vN s.length), (16, vN (i : Nat))])) (Sx.look ([] ++ (rwB 101 s))) 80 (vB (namI s)) (Sx.look []) 160 from q s.length 0 (by omega) (by simp [spanR])
    intro k
    induction k with
    | zero =>
      intro i hi hp
      have e : i = s.length := by omega
      subst e
      rw [List.take_length] at hp
      rw [namI, if_neg hl, if_neg (by omega)]
      by_cases h0 : s = []
      · have := nm4e s _ rfl h0
        rw [show (decide (s ≠ []) && decide (s.length ≤ 24) && ltrI ((s.getD 0 0).toNat : Int)) = false by simp [h0]]
        exact this
      · exact nm4 s _ rfl h0 (List.length_pos_iff.2 h0)
    | succ k ih =>
      intro i hi hp
      by_cases h : goI ((s.getD i 0).toNat : Int) = true
      · refine nm2 s i (by omega) hs h _ _ (ih (i + 1) (by omega) ?_)
        exact spn_take s (by omega) hp h
      · have h : goI ((s.getD i 0).toNat : Int) = false := by simpa using h
        rw [namI, if_neg hl, if_pos (spn_stop s (by omega) h)]
        exact nm3 s i (by omega) h
def nmIP : PC := { args := [.v (.vs 0)], heap := [], gs := [], G := 23, tp := 213, n := 80, n' := 160, cond := fun e => decide ((eS e 0 []).length ≤ 100000), v := fun e => vB (namI (eS e 0 [])), post := fun e => [] }
theorem nmIP_pc : PC.Runs Tryd.prog 62 Tryd.f62 (bodyOf Tryd.f62) nmIP := ⟨Tryd.func62, by kernel_rfl, (fun g hg => by first | (cases hg; done) | (revert g; show ∀ g ∈ ([] : List Nat), g < 23; decide)), fun e H hc => by
  have hc : (decide ((eS e 0 []).length ≤ 100000)) = true := hc
  try simp only [Bool.and_eq_true, decide_eq_true_eq, Nat.beq_eq] at hc
  exact nmT (eS e 0 []) hc⟩
theorem sh_all : ((List.range 256).all fun n => decide (ishr .u8 (n : Int) 4 = (n : Int) / 16 ∧ iand .u8 (n : Int) 15 = (n : Int) % 16)) = true := by kernel_rfl
theorem sh_at {x : Int} (h : 0 ≤ x ∧ x < 256) : ishr .u8 x 4 = x / 16 ∧ iand .u8 x 15 = x % 16 := by
  obtain ⟨n, rfl⟩ : ∃ n : Nat, x = (n : Int) := ⟨x.toNat, by omega⟩
  exact of_decide_eq_true (List.all_eq_true.1 sh_all n (List.mem_range.2 (by omega)))

set_option maxHeartbeats 4000000 in
theorem tlN (x : Int) (p : Bool) (h : x = 10)  :
    (RunsTo Tryd.prog 67 [.code (bodyOf Tryd.f67)] (envOf [vU x, vB p] Tryd.f67.ntmps) qa15 80 (vS [92, 110]) qa16 120) := by
  refine rEn baseO 300 (99) 900 80 (hI 1 1) ([]) [(x == (10 : Int), true)] ([(92 : UInt8), (110 : UInt8)] = [(92 : UInt8), (110 : UInt8)] ∧ True) (oc1 ?_ okn) ?_
  all_goals exact sc32

set_option maxHeartbeats 4000000 in
theorem tlR (x : Int) (p : Bool) (h : x = 13)  :
    (RunsTo Tryd.prog 67 [.code (bodyOf Tryd.f67)] (envOf [vU x, vB p] Tryd.f67.ntmps) qa15 80 (vS [92, 114]) qa16 120) := by
  refine rEn baseO 300 (99) 900 80 (hI 2 4) ([]) [(qa14 x), (x == (13 : Int), true)] ([(92 : UInt8), (114 : UInt8)] = [(92 : UInt8), (114 : UInt8)] ∧ True) (oc2 ?_ ?_ okn) ?_
  all_goals try dsimp only [qa14]
  all_goals exact sc32

set_option maxHeartbeats 4000000 in
theorem tlT (x : Int) (p : Bool) (h : x = 9)  :
    (RunsTo Tryd.prog 67 [.code (bodyOf Tryd.f67)] (envOf [vU x, vB p] Tryd.f67.ntmps) qa15 80 (vS [92, 116]) qa16 120) := by
  refine rEn baseO 300 (99) 900 80 (hI 3 16) ([]) [(qa14 x), (qa18 x), (x == (9 : Int), true)] ([(92 : UInt8), (116 : UInt8)] = [(92 : UInt8), (116 : UInt8)] ∧ True) (oc3 ?_ ?_ ?_ okn) ?_
  all_goals try dsimp only [qa14, qa18]
  all_goals exact sc32

set_option maxHeartbeats 4000000 in
theorem tlE (x : Int) (p : Bool) (hx : 0 ≤ x ∧ x < 256) (h : x = 34 ∨ x = 36 ∨ x = 92)  :
    (RunsTo Tryd.prog 67 [.code (bodyOf Tryd.f67)] (envOf [vU x, vB p] Tryd.f67.ntmps) qa15 80 (vS [92, UInt8.ofNat x.toNat]) qa16 120) := by
  refine bcase (fun gg0 => (bcase (fun gg1 => (rEn baseO 300 (99) 900 80 (hI 7 13312) ([]) [(qa14 x), (qa18 x), (qa19 x), (qa22 x), (qa25 x), (x == (92 : Int), true)] (qa3 x) (oc6 ?_ ?_ ?_ gg0 gg1 ?_ okn) ?_)) fun gg1 => (rEn baseO 300 (99) 900 80 (hI 6 3328) ([]) [(qa14 x), (qa18 x), (qa19 x), (qa22 x), (x == (36 : Int), true)] (qa3 x) (oc5 ?_ ?_ ?_ gg0 gg1 okn) ?_))) fun gg0 => (rEn baseO 300 (99) 900 80 (hI 5 832) ([]) [(qa14 x), (qa18 x), (qa19 x), (x == (34 : Int), true)] (qa3 x) (oc4 ?_ ?_ ?_ gg0 okn) ?_)
  all_goals try dsimp only [qa14, qa18, qa19, qa22, qa25, qa3] at *
  all_goals exact sc32

set_option maxHeartbeats 4000000 in
theorem tlC (x : Int) (p : Bool) (hx : 0 ≤ x ∧ x < 256) (n1 : x ≠ 10) (n2 : x ≠ 13) (n3 : x ≠ 9) (n4 : ¬ (x = 34 ∨ x = 36 ∨ x = 92)) (h : p = true ∧ 32 ≤ x ∧ x ≤ 126)  :
    (RunsTo Tryd.prog 67 [.code (bodyOf Tryd.f67)] (envOf [vU x, vB p] Tryd.f67.ntmps) qa15 80 (vS [UInt8.ofNat x.toNat]) qa16 120) := by
  refine rEn baseO 300 (99) 900 80 (hI 10 872448) ([]) [(qa14 x), (qa18 x), (qa19 x), (qa22 x), (qa25 x), (x == (92 : Int), false), (p, true), (decide (x ≥ (32 : Int)), true), (decide (x ≤ (126 : Int)), true)] ([UInt8.ofNat x.toNat] = bytesOf (fun is => x) [] (0 : Nat) (1 : Nat) ∧ True) (oc9 ?_ ?_ ?_ ?_ ?_ ?_ ?_ ?_ ?_ okn) ?_
  all_goals try dsimp only [qa14, qa18, qa19, qa22, qa25]
  all_goals exact sc32

set_option maxHeartbeats 4000000 in
theorem tlX (x : Int) (p : Bool) (hx : 0 ≤ x ∧ x < 256) (n1 : x ≠ 10) (n2 : x ≠ 13) (n3 : x ≠ 9) (n4 : ¬ (x = 34 ∨ x = 36 ∨ x = 92)) (h : ¬ (p = true ∧ 32 ≤ x ∧ x ≤ 126))  :
    (RunsTo Tryd.prog 67 [.code (bodyOf Tryd.f67)] (envOf [vU x, vB p] Tryd.f67.ntmps) qa15 80 (vS [92, 120, hexS.getD (x / 16).toNat 0, hexS.getD (x % 16).toNat 0]) qa16 120) := by
  obtain ⟨h4, h5⟩ := sh_at hx
  have E' := (⟨h4, h5⟩ : _ ∧ _)
  refine bcase (fun gg0 => (rEn baseO 300 (99) 900 80 (hI 12 16105472) ([]) [(qa14 x), (qa18 x), (qa19 x), (qa22 x), (qa25 x), (x == (92 : Int), false), (p, false), (qa8 x), (qa7 x)] (qa1 x) (oc9 ?_ ?_ ?_ ?_ ?_ ?_ gg0 ?_ ?_ okn) ?_)) fun gg0 => (bcase (fun gg1 => (rEn baseO 300 (99) 900 80 (hI 13 64425984) ([]) [(qa14 x), (qa18 x), (qa19 x), (qa22 x), (qa25 x), (x == (92 : Int), false), (p, true), (decide (x ≥ (32 : Int)), false), (qa8 x), (qa7 x)] (qa1 x) (oc1 ?_ (oc9 ?_ ?_ ?_ ?_ ?_ gg0 gg1 ?_ ?_ okn)) ?_)) fun gg1 => (rEn baseO 300 (99) 900 80 (hI 14 257708032) ([]) [(qa14 x), (qa18 x), (qa19 x), (qa22 x), (qa25 x), (x == (92 : Int), false), (p, true), (decide (x ≥ (32 : Int)), true), (decide (x ≤ (126 : Int)), false), (qa8 x), (qa7 x)] (qa1 x) (oc2 ?_ ?_ (oc9 ?_ ?_ ?_ ?_ gg0 gg1 ?_ ?_ ?_ okn)) ?_))
  all_goals try dsimp only [qa14, qa18, qa19, qa22, qa25, qa8, qa7, qa1] at *
  all_goals exact sc33

theorem tlT' (x : Int) (p : Bool) (hx : 0 ≤ x ∧ x < 256) : RunsTo Tryd.prog 67 [.code (bodyOf Tryd.f67)] (envOf [vU x, vB p] Tryd.f67.ntmps) (Sx.look ([] ++ ([]))) 80 (vS (toldI x p)) (Sx.look []) 120 := by
  unfold toldI
  split
  · rename_i h; exact tlN x p h
  · rename_i n1
    split
    · rename_i h; exact tlR x p h
    · rename_i n2
      split
      · rename_i h; exact tlT x p h
      · rename_i n3
        split
        · rename_i h; exact tlE x p hx h
        · rename_i n4
          split
          · rename_i h; exact tlC x p hx n1 n2 n3 n4 h
          · rename_i h; exact tlX x p hx n1 n2 n3 n4 h
def tlP : PC := { args := [.v (.vi .u8 0), .v (.vb 1)], heap := [], gs := [], G := 23, tp := 213, n := 80, n' := 120, cond := fun e => decide (0 ≤ eI e 0 [] ∧ eI e 0 [] < 256), v := fun e => vS (toldI (eI e 0 []) (eB e 1 [])), post := fun e => [] }
theorem tlP_pc : PC.Runs Tryd.prog 67 Tryd.f67 (bodyOf Tryd.f67) tlP := ⟨Tryd.func67, by kernel_rfl, (fun g hg => by first | (cases hg; done) | (revert g; show ∀ g ∈ ([] : List Nat), g < 23; decide)), fun e H hc => by
  have hc : (decide (0 ≤ eI e 0 [] ∧ eI e 0 [] < 256)) = true := hc
  try simp only [Bool.and_eq_true, decide_eq_true_eq, Nat.beq_eq] at hc
  exact tlT' (eI e 0 []) (eB e 1 []) hc⟩
def sumsQR : List (FuncId × Summ) := [(62, nmIP.summ 46), (63, ftP.summ 46)]
theorem baseQR : Base0 Tryd.prog sumsQR := ((baseO.cons Tryd.func63 (by kernel_rfl) (PC.summ_ok ftP_pc gtopG)).cons Tryd.func62 (by kernel_rfl) (PC.summ_ok nmIP_pc gtopG))

set_option maxHeartbeats 4000000 in
theorem qg0 (n M : Nat) (V L : Ix → List UInt8) (hM : n ≤ M) (hn : n ≤ 1000) (hb : lnB V L n = true)  (v : SV) (L' : HF) (next : RunsTo Tryd.prog 24 (headOf Tryd.f24 0) (envAt Tryd.f24.ntmps ([(0, vL 61 2 n), (5, vL 61 2 n), (6, vN n), (7, vN (0 : Nat))])) (Sx.look (prX 61 M V L ++ ([]))) 80 (v) (L') 330) :
    RunsTo Tryd.prog 24 [.code (bodyOf Tryd.f24)] (envOf [vL 61 2 n] Tryd.f24.ntmps) (Sx.look (prX 61 M V L ++ ([]))) 80 (v) (L') 330 := by
  refine rMo baseQR 300 (behind Tryd.f24 0) 900 80 (hI 0 0) ([]) [] (((0 = 0 ∧ n = n) ∧ (0 = 0 ∧ n = n) ∧ (n : Int) = (n : Int) ∧ (↑(0 : Nat) : Int) = (0 : Int)) ∧ True) next okn ?_
  all_goals clear next; exact sc6

set_option maxHeartbeats 4000000 in
theorem qgV (n M : Nat) (V L : Ix → List UInt8) (i : Nat) (hi : i < n) (hM : n ≤ M) (hn : n ≤ 1000) (hb : lnB V L n = true) (h1 : V [i] ≠ []) (h2 : L [i] = []) (h3 : namI (V [i]) = true)  (v : SV) (L' : HF) (next : RunsTo Tryd.prog 24 (headOf Tryd.f24 0) (envAt Tryd.f24.ntmps ([(0, vL 61 2 n), (5, vL 61 2 n), (6, vN n), (7, vN (i + 1 : Nat))])) (Sx.look (prX 61 M V L ++ ([]))) 80 (v) (L') 330) :
    RunsTo Tryd.prog 24 (headOf Tryd.f24 0) (envAt Tryd.f24.ntmps ([(0, vL 61 2 n), (5, vL 61 2 n), (6, vN n), (7, vN (i : Nat))])) (Sx.look (prX 61 M V L ++ ([]))) 80 (v) (L') 330 := by
  have hw : IntKind.i64.wrap ((i : Int) + 1) = ((i + 1 : Nat) : Int) := by rw [wr64 (by omega)]; rfl
  have hli := lnB_at hb hi
  have hji : IntKind.i64.wrap ((i : Int) - 1) = (i : Int) - 1 := by rw [wr64 (by omega)]
  have hjn : ((i : Int) - 1).toNat = i - 1 := by omega
  have E' := (⟨hw, hji, hjn, h2, h3⟩ : _ ∧ _ ∧ _ ∧ _ ∧ _)
  refine rMo baseQR 300 (behind Tryd.f24 0) 900 110 (hI 9 4437) ([]) [(qa11 i n), (qa4 i n), (qa2 M i), (qa2 M i), (!V [0 + (i : Int).toNat] == [], true), (!L [0 + (i : Int).toNat] == [], false), (decide ((V [0 + (i : Int).toNat]).length ≤ (100000 : Nat)), true), (!namI (V [0 + (i : Int).toNat]), false), (V [0 + (i : Int).toNat] == [], false)] (qa5 i n) next (oc9 ?_ ?_ ?_ ?_ ?_ ?_ ?_ ?_ ?_ okn) ?_
  all_goals clear next; try dsimp only [qa11, qa4, qa2, qa23, qa5]
  all_goals exact sc34

set_option maxHeartbeats 4000000 in
theorem qgL (n M : Nat) (V L : Ix → List UInt8) (i : Nat) (hi : i < n) (hM : n ≤ M) (hn : n ≤ 1000) (hb : lnB V L n = true) (h1 : V [i] = []) (h2 : L [i] ≠ []) (h3 : ¬ (0 < i ∧ V [i - 1] = []))  (v : SV) (L' : HF) (next : RunsTo Tryd.prog 24 (headOf Tryd.f24 0) (envAt Tryd.f24.ntmps ([(0, vL 61 2 n), (5, vL 61 2 n), (6, vN n), (7, vN (i + 1 : Nat))])) (Sx.look (prX 61 M V L ++ ([]))) 80 (v) (L') 330) :
    RunsTo Tryd.prog 24 (headOf Tryd.f24 0) (envAt Tryd.f24.ntmps ([(0, vL 61 2 n), (5, vL 61 2 n), (6, vN n), (7, vN (i : Nat))])) (Sx.look (prX 61 M V L ++ ([]))) 80 (v) (L') 330 := by
  have hw : IntKind.i64.wrap ((i : Int) + 1) = ((i + 1 : Nat) : Int) := by rw [wr64 (by omega)]; rfl
  have hli := lnB_at hb hi
  have hji : IntKind.i64.wrap ((i : Int) - 1) = (i : Int) - 1 := by rw [wr64 (by omega)]
  have hjn : ((i : Int) - 1).toNat = i - 1 := by omega
  have E' := (⟨hw, hji, hjn, h1⟩ : _ ∧ _ ∧ _ ∧ _)
  refine bcase (fun gg0 => (rMo baseQR 300 (behind Tryd.f24 0) 900 110 (hI 8 1109) ([]) [(qa11 i n), (qa4 i n), (qa2 M i), (qa2 M i), (qa26 V i), (V [0 + (i : Int).toNat] == [], true), (L [0 + (i : Int).toNat] == [], false), (decide ((i : Int) > 0), false)] (qa5 i n) next (oc8 ?_ ?_ ?_ ?_ ?_ ?_ ?_ gg0 okn) ?_)) fun gg0 => (rMo baseQR 300 (behind Tryd.f24 0) 900 110 (hI 12 1393749) ([]) [(qa11 i n), (qa4 i n), (qa2 M i), (qa2 M i), (qa26 V i), (V [0 + (i : Int).toNat] == [], true), (L [0 + (i : Int).toNat] == [], false), (decide ((i : Int) > 0), true), (qa21 i n), (qa13 M i), (qa13 M i), (V [0 + (IntKind.i64.wrap ((i : Int) - 1)).toNat] == [], false)] (qa5 i n) next (oc3 ?_ ?_ ?_ (oc9 ?_ ?_ ?_ ?_ gg0 ?_ ?_ ?_ ?_ okn)) ?_)
  all_goals clear next; try dsimp only [qa11, qa4, qa2, qa23, qa26, qa5, qa21, qa13] at *
  all_goals exact sc34

set_option maxHeartbeats 4000000 in
theorem qgF (n M : Nat) (V L : Ix → List UInt8) (i : Nat) (hi : i < n) (hM : n ≤ M) (hn : n ≤ 1000) (hb : lnB V L n = true) (h : rgtAt V L i = false)  :
    (RunsTo Tryd.prog 24 (headOf Tryd.f24 0) (envAt Tryd.f24.ntmps ([(0, vL 61 2 n), (5, vL 61 2 n), (6, vN n), (7, vN (i : Nat))])) (Sx.look (prX 61 M V L ++ ([]))) 80 (vB false) qa16 330) := by
  have hw : IntKind.i64.wrap ((i : Int) + 1) = ((i + 1 : Nat) : Int) := by rw [wr64 (by omega)]; rfl
  have hli := lnB_at hb hi
  have hji : IntKind.i64.wrap ((i : Int) - 1) = (i : Int) - 1 := by rw [wr64 (by omega)]
  have hjn : ((i : Int) - 1).toNat = i - 1 := by omega
  unfold rgtAt at h
  have E' := (⟨hw, hji, hjn⟩ : _ ∧ _ ∧ _)
  refine bcase (fun gg0 => (bcase (fun gg1 => (rEn baseQR 300 (99) 900 110 (hI 12 5588053) ([]) [(qa11 i n), (qa4 i n), (qa2 M i), (qa2 M i), (qa26 V i), (V [0 + (i : Int).toNat] == [], true), (L [0 + (i : Int).toNat] == [], false), (decide ((i : Int) > 0), true), (qa21 i n), (qa13 M i), (qa13 M i), (V [0 + (IntKind.i64.wrap ((i : Int) - 1)).toNat] == [], true)] qa17 (oc3 ?_ ?_ ?_ (oc9 ?_ gg0 ?_ gg1 ?_ ?_ ?_ ?_ ?_ okn)) ?_)) fun gg1 => (rEn baseQR 300 (99) 900 110 (hI 7 5205) ([]) [(qa11 i n), (qa4 i n), (qa2 M i), (qa2 M i), (qa26 V i), (V [0 + (i : Int).toNat] == [], true), (L [0 + (i : Int).toNat] == [], true)] qa17 (oc7 ?_ ?_ ?_ ?_ gg0 ?_ gg1 okn) ?_))) fun gg0 => (bcase (fun gg1 => (rEn baseQR 300 (99) 900 110 (hI 8 20821) ([]) [(qa11 i n), (qa4 i n), (qa2 M i), (qa2 M i), (!V [0 + (i : Int).toNat] == [], true), (!L [0 + (i : Int).toNat] == [], false), (decide ((V [0 + (i : Int).toNat]).length ≤ (100000 : Nat)), true), (!namI (V [0 + (i : Int).toNat]), true)] qa17 (oc8 ?_ ?_ ?_ ?_ gg0 gg1 ?_ ?_ okn) ?_)) fun gg1 => (rEn baseQR 300 (99) 900 110 (hI 6 1365) ([]) [(qa11 i n), (qa4 i n), (qa2 M i), (qa2 M i), (!V [0 + (i : Int).toNat] == [], true), (!L [0 + (i : Int).toNat] == [], true)] qa17 (oc6 ?_ ?_ ?_ ?_ gg0 gg1 okn) ?_))
  all_goals try dsimp only [qa11, qa4, qa2, qa23, qa26, qa21, qa13, qa17] at *
  all_goals exact sc34

set_option maxHeartbeats 4000000 in
theorem qgE (n M : Nat) (V L : Ix → List UInt8) (i : Nat) (hi : i = n) (hM : n ≤ M) (hn : n ≤ 1000)  :
    (RunsTo Tryd.prog 24 (headOf Tryd.f24 0) (envAt Tryd.f24.ntmps ([(0, vL 61 2 n), (5, vL 61 2 n), (6, vN n), (7, vN (i : Nat))])) (Sx.look (prX 61 M V L ++ ([]))) 80 (vB (fitsP (pcsOf n V L))) qa16 330) := by
  refine rEn baseQR 300 (99) 900 110 (hI 2 4) ([]) [(decide ((i : Int) < (n : Int)), false), (decide (n ≤ M) && decide (n ≤ (100000 : Nat)), true)] (fitsP (pcsOf n V L) = fitsP (pcsOf n V L) ∧ True) (oc2 ?_ ?_ okn) ?_
  all_goals exact sc35

theorem qgT (n M : Nat) (V L : Ix → List UInt8) (hM : n ≤ M) (hn : n ≤ 1000) (hb : lnB V L n = true) : RunsTo Tryd.prog 24 [.code (bodyOf Tryd.f24)] (envOf [vL 61 2 n] Tryd.f24.ntmps) (Sx.look (prX 61 M V L ++ ([]))) 80 (vB (rgtI n V L)) (Sx.look []) 330 := by
  refine qg0 n M V L hM hn hb _ _ ?_
  suffices q : ∀ (k i : Nat), i + k = n → (∀ j, j < i → rgtAt V L j = true) → RunsTo Tryd.prog 24 (headOf Tryd.f24 0) (envAt Tryd.f24.ntmps ([(0, vL 61 2 n), (5, vL 61 2 n), (6, vN n), (7, vN (i : Nat))])) (Sx.look (prX 61 M V L ++ ([]))) 80 (vB (rgtI n V L)) (Sx.look []) 330 from q n 0 (by omega) (fun j hj => by omega)
  intro k
  induction k with
  | zero =>
    intro i hi hall
    have e : i = n := by omega
    have ht : (List.range n).all (rgtAt V L) = true := List.all_eq_true.2 fun j hj => hall j (by have := List.mem_range.1 hj; omega)
    rw [rgtI, ht, Bool.true_and]
    exact qgE n M V L i e hM hn
  | succ k ih =>
    intro i hi hall
    cases h : rgtAt V L i with
    | false =>
      have ht : (List.range n).all (rgtAt V L) = false := by
        rw [List.all_eq_false]; exact ⟨i, List.mem_range.2 (by omega), by rw [h]; decide⟩
      rw [rgtI, ht, Bool.false_and]
      exact qgF n M V L i (by omega) hM hn hb h
    | true =>
      have q := ih (i + 1) (by omega) (fun j hj => by
        by_cases e : j = i
        · rw [e]; exact h
        · exact hall j (by omega))
      unfold rgtAt at h
      by_cases hv : V [i] ≠ []
      · rw [if_pos hv] at h
        simp only [Bool.and_eq_true, decide_eq_true_eq] at h
        exact qgV n M V L i (by omega) hM hn hb hv h.1 h.2 _ _ q
      · rw [if_neg hv] at h
        simp only [Bool.and_eq_true, decide_eq_true_eq, Bool.not_eq_true', Bool.and_eq_false_iff, decide_eq_false_iff_not] at h
        exact qgL n M V L i (by omega) hM hn hb (by simpa using hv) h.1 (by rintro ⟨a, b⟩; rcases h.2 with c | c <;> contradiction) _ _ q
def qgP : PC := { args := [.v (.vl 61 2 0)], heap := [⟨61, false, 2, .ta 4 (.tc (.vs 2) (.tc (.vs 3) .t0))⟩], gs := [], G := 23, tp := 213, n := 80, n' := 330, cond := fun e => decide (eN e 0 ≤ eN e 4) && (decide (eN e 0 ≤ 1000) && lnB (eS e 2) (eS e 3) (eN e 0)), v := fun e => vB (rgtI (eN e 0) (eS e 2) (eS e 3)), post := fun e => [] }
theorem qgP_pc : PC.Runs Tryd.prog 24 Tryd.f24 (bodyOf Tryd.f24) qgP := ⟨Tryd.func24, by kernel_rfl, (fun g hg => by first | (cases hg; done) | (revert g; show ∀ g ∈ ([] : List Nat), g < 23; decide)), fun e H hc => by
  have hc : (decide (eN e 0 ≤ eN e 4) && (decide (eN e 0 ≤ 1000) && lnB (eS e 2) (eS e 3) (eN e 0))) = true := hc
  try simp only [Bool.and_eq_true, decide_eq_true_eq, Nat.beq_eq] at hc
  exact qgT (eN e 0) (eN e 4) (eS e 2) (eS e 3) hc.1 hc.2.1 hc.2.2⟩
end Go.Proofs.YtaleenklamognaaDoor

set_option linter.unusedSimpArgs false
set_option linter.unusedVariables false

namespace WordR
def hexW : List UInt8 := [48, 49, 50, 51, 52, 53, 54, 55, 56, 57, 97, 98, 99, 100, 101, 102]
def toldW (x : Int) (p : Bool) : List UInt8 :=
  if x = 10 then [92, 110] else if x = 13 then [92, 114] else if x = 9 then [92, 116] else if x = 34 ∨ x = 36 ∨ x = 92 then [92, UInt8.ofNat x.toNat]
  else if p = true ∧ 32 ≤ x ∧ x ≤ 126 then [UInt8.ofNat x.toNat] else [92, 120, hexW.getD (x / 16).toNat 0, hexW.getD (x % 16).toNat 0]
/-- A told byte is read as it was, whatever follows. -/
def oneOK (c : UInt8) (p : Bool) : Bool := (match toldW (nat c) p with
  | [a] => decide (a ≠ 34 ∧ a ≠ 36 ∧ a ≠ 10 ∧ a ≠ 92 ∧ a = c)
  | [92, d] => decide ((d = 110 ∧ c = 10) ∨ (d = 114 ∧ c = 13) ∨ (d = 116 ∧ c = 9) ∨ ((d = 92 ∨ d = 34 ∨ d = 36) ∧ d = c))
  | [92, 120, u, v] => decide (0 ≤ hexI (nat u) ∧ 0 ≤ hexI (nat v) ∧ UInt8.ofNat (16 * hexI (nat u) + hexI (nat v)).toNat = c)
  | _ => false)
theorem one_all : ((List.range 256).all fun n => oneOK (UInt8.ofNat n) true && oneOK (UInt8.ofNat n) false) = true := by decide +kernel
theorem one_at (c : UInt8) (p : Bool) : oneOK c p = true := by
  have h := List.all_eq_true.1 one_all c.toNat (List.mem_range.2 c.toNat_lt)
  simp only [Bool.and_eq_true, UInt8.ofNat_toNat] at h
  cases p
  · exact h.2
  · exact h.1
theorem told_read (c : UInt8) (p : Bool) (r : List UInt8) : toldW (nat c) p ≠ [] ∧ oneR (toldW (nat c) p ++ r) = .byte c (toldW (nat c) p).length ∧ (toldW (nat c) p ++ r).headD 0 ≠ 34 := by
  have h := one_at c p
  unfold oneOK at h
  revert h
  generalize toldW (nat c) p = t
  intro h
  split at h
  · replace h := of_decide_eq_true h
    obtain ⟨h1, h2, h3, h4, rfl⟩ := h
    refine ⟨by simp, ?_, by simpa using h1⟩
    simp [oneR, h2, h3, h4]
  · rename_i d
    replace h := of_decide_eq_true h
    refine ⟨by simp, ?_, by simp⟩
    rcases h with ⟨rfl, rfl⟩ | ⟨rfl, rfl⟩ | ⟨rfl, rfl⟩ | ⟨h, rfl⟩
    · rfl
    · rfl
    · rfl
    · rcases h with rfl | rfl | rfl <;> rfl
  · rename_i u v
    replace h := of_decide_eq_true h
    refine ⟨by simp, ?_, by simp⟩
    obtain ⟨h1, h2, h3⟩ := h
    have e : oneR (92 :: 120 :: u :: v :: r) = hexR (u :: v :: r) := rfl
    show oneR (92 :: 120 :: u :: v :: r) = _
    rw [e, hexR, if_neg (by omega), if_neg (by omega), h3]; rfl
  · simp at h
end WordR

namespace WordR
def toldL (op : Bool) : List UInt8 → List UInt8
  | [] => []
  | c :: r => toldW (nat c) (!op || !goI (nat c)) ++ r.flatMap fun c => toldW (nat c) true
def bodyL : Bool → List Pc → List UInt8
  | _, [] => []
  | op, p :: r => if p.var ≠ [] then (36 :: p.var) ++ bodyL (ltrI (nat (p.var.headD 0))) r else toldL op p.lit ++ bodyL false r
def namL (s : List UInt8) : Bool := (decide (s.length = 1) && figI (nat (s.headD 0))) || (decide (spanR goI s = s.length) && decide (s.length ≤ 24) && ltrI (nat (s.headD 0)) && decide (s ≠ []))
/-- Right pieces behind a literal (pl) or not. -/
def okL' : Bool → List Pc → Bool
  | _, [] => true
  | pl, p :: r => if p.var ≠ [] then decide (p.lit = []) && namL p.var && okL' false r else decide (p.lit ≠ []) && !pl && okL' true r
def headOK (c : UInt8) : Bool := !goI (nat ((toldW (nat c) (!goI (nat c))).headD 0))
theorem head_all : ((List.range 256).all fun n => headOK (UInt8.ofNat n)) = true := by decide +kernel
theorem head_at (c : UInt8) : headOK c = true := by
  have h := List.all_eq_true.1 head_all c.toNat (List.mem_range.2 c.toNat_lt)
  simpa only [UInt8.ofNat_toNat] using h
theorem textR_told (c : UInt8) (p : Bool) (r : List UInt8) (f : Nat) (P : List Pc) (n : Nat) (hf : fitsP (litP P c) = true) :
    textR (f + 1) (toldW (nat c) p ++ r) P n = textR f r (litP P c) (n + (toldW (nat c) p).length) := by
  obtain ⟨h1, h2, h3⟩ := told_read c p r
  cases ht : toldW (nat c) p ++ r with
  | nil => exact absurd (List.append_eq_nil_iff.1 ht).1 h1
  | cons d q =>
    rw [ht] at h2 h3
    rw [textR, if_neg (by simpa using h3), h2]
    simp only [hf, if_true]
    rw [← ht, List.drop_left']
    rfl
theorem litP_new : ∀ (Q : List Pc) (c : UInt8), (Q = [] ∨ (Q.getLast?.map (·.var)) ≠ some []) → litP Q c = Q ++ [⟨[], [c]⟩]
  | [], c, _ => rfl
  | [p], c, h => by
    have h : p.var ≠ [] := by
      rcases h with h | h
      · cases h
      · simpa using h
    rw [litP, if_neg h]; rfl
  | p :: q :: r, c, h => by
    rw [litP, litP_new (q :: r) c (.inr (h.elim (fun h => by cases h) (fun h => by simpa using h)))]; rfl
theorem litP_more : ∀ (Q : List Pc) (b : List UInt8) (c : UInt8), litP (Q ++ [⟨[], b⟩]) c = Q ++ [⟨[], b ++ [c]⟩]
  | [], b, c => rfl
  | [p], b, c => rfl
  | p :: q :: r, b, c => by
    show litP (p :: q :: (r ++ [⟨[], b⟩])) c = _
    rw [litP]
    have := litP_more (q :: r) b c
    rw [List.cons_append] at this
    rw [this]; rfl
theorem fits_app {Q : List Pc} {b : List UInt8} (h : fitsP (Q ++ [⟨[], b⟩]) = true) {b' : List UInt8} (hb : b'.length ≤ b.length) : fitsP (Q ++ [⟨[], b'⟩]) = true := by
  unfold fitsP at *
  simp only [Bool.and_eq_true, decide_eq_true_eq, List.length_append, List.length_singleton, List.all_append, List.all_cons, List.all_nil, Bool.and_true] at *
  exact ⟨h.1, h.2.1, by omega⟩
/-- The further bytes of a literal. -/
theorem text_more (Q : List Pc) : ∀ (r b : List UInt8) (z : List UInt8) (f n : Nat), fitsP (Q ++ [⟨[], b ++ r⟩]) = true →
    textR (f + r.length) ((r.flatMap fun c => toldW (nat c) true) ++ z) (Q ++ [⟨[], b⟩]) n = textR f z (Q ++ [⟨[], b ++ r⟩]) (n + (r.flatMap fun c => toldW (nat c) true).length)
  | [], b, z, f, n, _ => by simp
  | c :: r, b, z, f, n, hf => by
    have hf1 : fitsP (Q ++ [⟨[], b ++ [c]⟩]) = true := fits_app hf (by simp)
    rw [List.flatMap_cons, List.append_assoc, List.length_cons, ← Nat.add_assoc, textR_told c true _ _ _ _ (by rw [litP_more]; exact hf1), litP_more]
    have := text_more Q r (b ++ [c]) z f (n + (toldW (nat c) true).length) (by simpa using hf)
    rw [this]
    simp [Nat.add_assoc]
theorem text_lit (Q : List Pc) (op : Bool) (b : List UInt8) (hb : b ≠ []) (z : List UInt8) (f n : Nat) (hq : Q = [] ∨ (Q.getLast?.map (·.var)) ≠ some []) (hf : fitsP (Q ++ [⟨[], b⟩]) = true) :
    textR (f + b.length) (toldL op b ++ z) Q n = textR f z (Q ++ [⟨[], b⟩]) (n + (toldL op b).length) := by
  cases b with
  | nil => exact absurd rfl hb
  | cons c r =>
    rw [toldL, List.append_assoc, List.length_cons, ← Nat.add_assoc, textR_told c _ _ _ _ _ (by rw [litP_new Q c hq]; exact fits_app hf (by simp)), litP_new Q c hq]
    have := text_more Q r [c] z f (n + (toldW (nat c) (!op || !goI (nat c))).length) (by simpa using hf)
    rw [this]
    simp [Nat.add_assoc]
theorem span_app {p : Int → Bool} : ∀ (s z : List UInt8), spanR p s = s.length → (z = [] ∨ p (nat (z.headD 0)) = false) → spanR p (s ++ z) = s.length
  | [], z, _, h => by
    cases z with
    | nil => rfl
    | cons a b =>
      have : p (nat a) = false := h.elim (fun h => by cases h) (fun h => by simpa using h)
      simp [spanR, this]
  | c :: s, z, hs, h => by
    rw [spanR] at hs
    by_cases hc : p (nat c) = true
    · rw [if_pos hc] at hs
      rw [List.cons_append, spanR, if_pos hc, span_app s z (by simpa using hs) h]; rfl
    · rw [if_neg hc] at hs; cases hs
theorem body_head (r : List Pc) (pl : Bool) (h : okL' pl r = true) (z : List UInt8) : goI (nat ((bodyL true r ++ 34 :: z).headD 0)) = false := by
  cases r with
  | nil => show goI (nat 34) = false; decide
  | cons p r =>
    rw [bodyL]
    by_cases hv : p.var ≠ []
    · rw [if_pos hv]; show goI (nat 36) = false; decide
    · rw [if_neg hv]
      rw [okL', if_neg hv] at h
      simp only [Bool.and_eq_true, decide_eq_true_eq] at h
      cases hl : p.lit with
      | nil => exact absurd hl h.1.1
      | cons c q =>
        have hk := head_at c
        unfold headOK at hk
        simp only [Bool.not_eq_true'] at hk
        rw [toldL]
        have hne := (told_read c (!true || !goI (nat c)) []).1
        cases ht : toldW (nat c) (!true || !goI (nat c)) with
        | nil => exact absurd ht hne
        | cons a b =>
          have e : (!true || !goI (nat c)) = !goI (nat c) := by simp
          rw [e] at ht
          rw [ht] at hk
          simpa using hk
theorem text_var (Q : List Pc) (v z : List UInt8) (f n : Nat) (hv : namL v = true) (hz : ltrI (nat (v.headD 0)) = true → goI (nat (z.headD 0)) = false ∨ z = []) (hf : fitsP (Q ++ [⟨v, []⟩]) = true) :
    textR (f + 1) (36 :: v ++ z) Q n = textR f z (Q ++ [⟨v, []⟩]) (n + (36 :: v).length) := by
  have key : oneR (36 :: (v ++ z)) = .var v (v.length + 1) := by
    show varR (v ++ z) = _
    unfold namL at hv
    simp only [Bool.or_eq_true, Bool.and_eq_true, decide_eq_true_eq] at hv
    cases v with
    | nil => exact hv.elim (fun h => by simp at h) (fun h => absurd rfl h.2)
    | cons d w =>
      rcases hv with ⟨h1, h2⟩ | ⟨⟨⟨h1, h2⟩, h3⟩, _⟩
      · have : w = [] := by simpa using h1
        subst this
        have h2 : figI (nat d) = true := by simpa using h2
        show varR (d :: ([] ++ z)) = _
        rw [varR, if_pos h2]; rfl
      · have h3' : ltrI (nat d) = true := by simpa using h3
        have hs := span_app (p := goI) (d :: w) z h1 ((hz h3).elim .inr .inl)
        have hnf : figI (nat d) = false := by
          cases hq : figI (nat d) with
          | false => rfl
          | true => unfold figI at hq; unfold ltrI at h3'; simp at hq h3'; omega
        have hs' : spanR goI (d :: (w ++ z)) = (d :: w).length := hs
        show varR (d :: (w ++ z)) = _
        rw [varR, if_neg (by rw [hnf]; decide), if_neg (by rw [h3']; decide), if_neg (by rw [hs']; omega), hs']
        have : (d :: (w ++ z)).take (d :: w).length = d :: w := by
          show ((d :: w) ++ z).take (d :: w).length = _
          rw [List.take_left']; rfl
        rw [this]
  show textR (f + 1) (36 :: (v ++ z)) Q n = _
  rw [textR, if_neg (by decide), key]
  simp only [hf, if_true]
  rw [show (36 :: (v ++ z)).drop (v.length + 1) = z by simp]
  rfl
theorem fits_pre {Q R : List Pc} (h : fitsP (Q ++ R) = true) : fitsP Q = true := by
  unfold fitsP at *
  simp only [Bool.and_eq_true, decide_eq_true_eq, List.length_append, List.all_append] at *
  exact ⟨by omega, h.2.1⟩
/-- Quoted pieces are read as these. -/
theorem text_all : ∀ (R Q : List Pc) (op pl : Bool) (z : List UInt8) (f n : Nat), okL' pl R = true → fitsP (Q ++ R) = true → (pl = false → Q = [] ∨ (Q.getLast?.map (·.var)) ≠ some []) → (bodyL op R).length ≤ f →
    textR (f + 1) (bodyL op R ++ 34 :: z) Q n = .ok ⟨3, [], 0, Q ++ R, 0⟩ (n + (bodyL op R).length + 1)
  | [], Q, op, pl, z, f, n, _, _, _, _ => by simp [bodyL, textR]
  | p :: R, Q, op, pl, z, f, n, hok, hf, hq, hfu => by
    rw [bodyL] at hfu ⊢
    rw [okL'] at hok
    by_cases hv : p.var ≠ []
    · rw [if_pos hv] at hfu hok ⊢
      simp only [Bool.and_eq_true, decide_eq_true_eq] at hok
      have hp : p = ⟨p.var, []⟩ := by cases p; simp_all
      have hf' : fitsP ((Q ++ [p]) ++ R) = true := by simpa using hf
      have hl : (36 :: p.var ++ bodyL (ltrI (nat (p.var.headD 0))) R).length = 1 + p.var.length + (bodyL (ltrI (nat (p.var.headD 0))) R).length := by simp only [List.length_append, List.length_cons]; omega
      obtain ⟨f', rfl⟩ : ∃ f', f = f' + 1 := ⟨f - 1, by omega⟩
      rw [List.append_assoc, text_var Q p.var _ (f' + 1) n hok.1.2 (fun hlt => .inl (by rw [hlt]; exact body_head R false hok.2 z)) (by rw [← hp]; exact fits_pre hf'), ← hp]
      have := text_all R (Q ++ [p]) (ltrI (nat (p.var.headD 0))) false z f' (n + (36 :: p.var).length) hok.2 hf' (fun _ => .inr (by simpa using hv)) (by omega)
      rw [this]
      simp [Nat.add_assoc, Nat.add_comm, Nat.add_left_comm]
    · rw [if_neg hv] at hfu hok ⊢
      simp only [Bool.and_eq_true, decide_eq_true_eq, Bool.not_eq_true'] at hok
      have hv' : p.var = [] := by simpa using hv
      have hp : p = ⟨[], p.lit⟩ := by cases p; simp_all
      have hf' : fitsP ((Q ++ [p]) ++ R) = true := by simpa using hf
      have hll : ∀ (l : List UInt8) (o : Bool), l.length ≤ (toldL o l).length := by
        intro l o
        cases l with
        | nil => simp
        | cons c r =>
          have h1 : ∀ q : List UInt8, q.length ≤ (q.flatMap fun c => toldW (nat c) true).length := by
            intro q
            induction q with
            | nil => simp
            | cons a b ih =>
              have := List.length_pos_iff.2 (told_read a true []).1
              simp only [List.flatMap_cons, List.length_append, List.length_cons]; omega
          have := h1 r
          have h2 := List.length_pos_iff.2 (told_read c (!o || !goI (nat c)) []).1
          simp only [toldL, List.length_append, List.length_cons]; omega
      have hl0 := hll p.lit op
      have hl : (toldL op p.lit ++ bodyL false R).length = (toldL op p.lit).length + (bodyL false R).length := by simp
      obtain ⟨f', rfl⟩ : ∃ f', f = f' + p.lit.length := ⟨f - p.lit.length, by omega⟩
      rw [List.append_assoc, show f' + p.lit.length + 1 = (f' + 1) + p.lit.length by omega, text_lit Q op p.lit hok.1.1 _ (f' + 1) n (hq hok.1.2) (by rw [← hp]; exact fits_pre hf'), ← hp]
      have := text_all R (Q ++ [p]) false true z f' (n + (toldL op p.lit).length) hok.2 hf' (fun h => by cases h) (by omega)
      rw [this]
      simp [Nat.add_assoc]
def blanks (b : List UInt8) : Bool := b.all fun c => blI (nat c)
theorem gap_bl : ∀ (b z : List UInt8), blanks b = true → gapR false (b ++ 34 :: z) = b.length
  | [], z, _ => by simp [gapR]; decide
  | c :: b, z, h => by
    simp only [blanks, List.all_cons, Bool.and_eq_true] at h
    rw [List.cons_append, gapR, if_pos h.1, gap_bl b z h.2]; rfl
/-- Quoted right pieces between gaps are one token of these. -/
theorem split_quoted (b : List UInt8) (R : List Pc) (hb : blanks b = true) (hok : okL' false R = true) (hf : fitsP R = true) (z : List UInt8) (hz : gapR false z = z.length)
    (hl : (b ++ (34 :: (bodyL false R ++ 34 :: z))).length ≤ 4000) :
    splitS (b ++ (34 :: (bodyL false R ++ 34 :: z))) = ([⟨3, [], 0, R, b.length⟩], 0, 0) := by
  unfold splitS
  rw [if_neg (by omega)]
  have hlen : (b ++ (34 :: (bodyL false R ++ 34 :: z))).length = b.length + (bodyL false R).length + z.length + 2 := by simp; omega
  rw [splitR, gap_bl b _ hb, List.drop_left']
  · show (match tokR (34 :: (bodyL false R ++ 34 :: z)) with | .err e => _ | .ok t n => _) = _
    have ht : tokR (34 :: (bodyL false R ++ 34 :: z)) = .ok ⟨3, [], 0, R, 0⟩ (1 + (bodyL false R).length + 1) := by
      rw [tokR, if_neg (by decide), if_neg (by decide), if_neg (by decide), if_pos rfl]
      have := text_all R [] false false z ((bodyL false R ++ 34 :: z).length) 1 hok hf (fun _ => .inl rfl) (by simp)
      simpa using this
    rw [ht]
    simp only
    have hd : (34 :: (bodyL false R ++ 34 :: z)).drop (1 + (bodyL false R).length + 1) = z := by
      rw [show 1 + (bodyL false R).length + 1 = ((bodyL false R).length + 1) + 1 by omega, List.drop_succ_cons, List.drop_append, List.drop_of_length_le (by omega)]
      simp
    rw [hd]
    obtain ⟨m, hm⟩ : ∃ m, (b ++ (34 :: (bodyL false R ++ 34 :: z))).length = m + 1 := ⟨b.length + (bodyL false R).length + z.length + 1, by omega⟩
    rw [hm, splitR, hz, List.drop_length]
    simp
  · rfl
end WordR

set_option linter.unusedSimpArgs false
set_option linter.unusedVariables false
set_option maxRecDepth 100000
namespace Go.Proofs.YtaleenklamognaaDoor
open Go.Sx

open WordR
def bdT (l r : Nat) (o : List UInt8) : List Ent := [⟨l, true, none, 241000002, .tc (.vp l (fun _ => 0) []) (.tc (.vl r (fun _ => 0) 1 [] (fun _ => o.length)) .t0)⟩, ⟨r, true, none, 12000001, .ta o.length (.vi .u8 fun is => ((o.getD (is.headD 0) 0).toNat : Int))⟩]
/-- A text's first bytes, told. -/
def tolT (b : List UInt8) : Nat → List UInt8
  | 0 => [34]
  | k + 1 => tolT b k ++ toldI ((b.getD k 0).toNat : Int) true
def quoT (b : List UInt8) : List UInt8 := tolT b b.length ++ [34]
theorem toldI_le (x : Int) (p : Bool) : (toldI x p).length ≤ 4 := by
  unfold toldI; repeat' split
  all_goals simp
theorem tolT_len (b : List UInt8) : ∀ k, (tolT b k).length ≤ 1 + 4 * k
  | 0 => by simp [tolT]
  | k + 1 => by
    have := tolT_len b k
    have := toldI_le ((b.getD k 0).toNat : Int) true
    rw [tolT, List.length_append]; omega
theorem bytes_is {B : Ix → Int} {l : List UInt8} {n : Nat} (hn : l.length = n) (h : ∀ j, j < n → B [j] = ((l.getD j 0).toNat : Int)) : bytesOf B [] 0 n = l := by
  apply List.ext_getElem
  · simp [bytesOf, hn]
  · intro j h1 h2
    simp only [bytesOf, List.getElem_map, List.getElem_range, List.nil_append, Nat.zero_add]
    rw [h j (by omega), List.getD_eq_getElem?_getD, List.getElem?_eq_getElem h2]
    simp

variable (b : List UInt8) (i : Nat) (x : Int)
abbrev ta1 := [(92 : UInt8), (120 : UInt8), hexS.getD (x / (16 : Int)).toNat (0 : UInt8), hexS.getD (x % (16 : Int)).toNat (0 : UInt8)] = [(92 : UInt8), (120 : UInt8)] ++ bytesOf (upd (upd (fun is => (0 : Int)) [(0 : Nat)] (↑([(48 : UInt8), (49 : UInt8), (50 : UInt8), (51 : UInt8), (52 : UInt8), (53 : UInt8), (54 : UInt8), (55 : UInt8), (56 : UInt8), (57 : UInt8), (97 : UInt8), (98 : UInt8), (99 : UInt8), (100 : UInt8), (101 : UInt8), (102 : UInt8)].getD (ishr IntKind.u8 x (4 : Int)).toNat (0 : UInt8)).toNat : Int)) [(1 : Nat)] (↑([(48 : UInt8), (49 : UInt8), (50 : UInt8), (51 : UInt8), (52 : UInt8), (53 : UInt8), (54 : UInt8), (55 : UInt8), (56 : UInt8), (57 : UInt8), (97 : UInt8), (98 : UInt8), (99 : UInt8), (100 : UInt8), (101 : UInt8), (102 : UInt8)].getD (iand IntKind.u8 x (15 : Int)).toNat (0 : UInt8)).toNat : Int)) [] (0 : Nat) (2 : Nat) ∧ True
abbrev ta2 := [(92 : UInt8), UInt8.ofNat x.toNat] = bytesOf (upd (upd (fun is => (0 : Int)) [(0 : Nat)] (92 : Int)) [(1 : Nat)] x) [] (0 : Nat) (2 : Nat) ∧ True
abbrev ta3 := (↑(b.getD (0 + (i : Int).toNat) (0 : UInt8)).toNat : Int)
abbrev ta4 := (↑(b.getD i (0 : UInt8)).toNat : Int)
abbrev ta5 := (x == (10 : Int), false)
abbrev ta6 := (decide ((0 : Int) ≤ iand IntKind.u8 x (15 : Int) ∧ iand IntKind.u8 x (15 : Int) < (↑(16 : Nat) : Int)), true)
abbrev ta7 := (decide ((0 : Int) ≤ ishr IntKind.u8 x (4 : Int) ∧ ishr IntKind.u8 x (4 : Int) < (↑(16 : Nat) : Int)), true)
abbrev ta8 := Sx.look ([] ++ ([]))
abbrev ta9 := (x == (13 : Int), false)
abbrev ta10 := (x == (9 : Int), false)
abbrev ta11 := Sx.look ([])
abbrev ta12 := (x == (34 : Int), false)
abbrev ta13 := (↑b.length : Int)
set_option maxHeartbeats 4000000 in
theorem ttN (x : Int) (h : x = 10)  :
    (RunsTo Tryd.prog 83 [.code (bodyOf Tryd.f83)] (envOf [vU x] Tryd.f83.ntmps) ta8 80 (vS [92, 110]) ta11 120) := by
  refine rEn baseO 300 (99) 900 80 (hI 1 1) ([]) [(x == (10 : Int), true)] ([(92 : UInt8), (110 : UInt8)] = [(92 : UInt8), (110 : UInt8)] ∧ True) (oc1 ?_ okn) ?_
  all_goals exact sc32

set_option maxHeartbeats 4000000 in
theorem ttR (x : Int) (h : x = 13)  :
    (RunsTo Tryd.prog 83 [.code (bodyOf Tryd.f83)] (envOf [vU x] Tryd.f83.ntmps) ta8 80 (vS [92, 114]) ta11 120) := by
  refine rEn baseO 300 (99) 900 80 (hI 2 4) ([]) [(ta5 x), (x == (13 : Int), true)] ([(92 : UInt8), (114 : UInt8)] = [(92 : UInt8), (114 : UInt8)] ∧ True) (oc2 ?_ ?_ okn) ?_
  all_goals try dsimp only [ta5]
  all_goals exact sc32

set_option maxHeartbeats 4000000 in
theorem ttT (x : Int) (h : x = 9)  :
    (RunsTo Tryd.prog 83 [.code (bodyOf Tryd.f83)] (envOf [vU x] Tryd.f83.ntmps) ta8 80 (vS [92, 116]) ta11 120) := by
  refine rEn baseO 300 (99) 900 80 (hI 3 16) ([]) [(ta5 x), (ta9 x), (x == (9 : Int), true)] ([(92 : UInt8), (116 : UInt8)] = [(92 : UInt8), (116 : UInt8)] ∧ True) (oc3 ?_ ?_ ?_ okn) ?_
  all_goals try dsimp only [ta5, ta9]
  all_goals exact sc32

set_option maxHeartbeats 4000000 in
theorem ttE (x : Int) (hx : 0 ≤ x ∧ x < 256) (h : x = 34 ∨ x = 36 ∨ x = 92)  :
    (RunsTo Tryd.prog 83 [.code (bodyOf Tryd.f83)] (envOf [vU x] Tryd.f83.ntmps) ta8 80 (vS [92, UInt8.ofNat x.toNat]) ta11 120) := by
  refine bcase (fun gg0 => (bcase (fun gg1 => (rEn baseO 300 (99) 900 80 (hI 7 13312) ([]) [(ta5 x), (ta9 x), (ta10 x), (ta12 x), (x == (36 : Int), false), (x == (92 : Int), true)] (ta2 x) (oc6 ?_ ?_ ?_ gg0 gg1 ?_ okn) ?_)) fun gg1 => (rEn baseO 300 (99) 900 80 (hI 6 3328) ([]) [(ta5 x), (ta9 x), (ta10 x), (ta12 x), (x == (36 : Int), true)] (ta2 x) (oc5 ?_ ?_ ?_ gg0 gg1 okn) ?_))) fun gg0 => (rEn baseO 300 (99) 900 80 (hI 5 832) ([]) [(ta5 x), (ta9 x), (ta10 x), (x == (34 : Int), true)] (ta2 x) (oc4 ?_ ?_ ?_ gg0 okn) ?_)
  all_goals try dsimp only [ta5, ta9, ta10, ta12, ta2] at *
  all_goals exact sc32

set_option maxHeartbeats 4000000 in
theorem ttC (x : Int) (hx : 0 ≤ x ∧ x < 256) (n1 : x ≠ 10) (n2 : x ≠ 13) (n3 : x ≠ 9) (n4 : ¬ (x = 34 ∨ x = 36 ∨ x = 92)) (h : 32 ≤ x ∧ x ≤ 126)  :
    (RunsTo Tryd.prog 83 [.code (bodyOf Tryd.f83)] (envOf [vU x] Tryd.f83.ntmps) ta8 80 (vS [UInt8.ofNat x.toNat]) ta11 120) := by
  refine rEn baseO 300 (99) 900 80 (hI 9 217088) ([]) [(ta5 x), (ta9 x), (ta10 x), (ta12 x), (x == (36 : Int), false), (x == (92 : Int), false), (decide (x ≥ (32 : Int)), true), (decide (x ≤ (126 : Int)), true)] ([UInt8.ofNat x.toNat] = bytesOf (fun is => x) [] (0 : Nat) (1 : Nat) ∧ True) (oc8 ?_ ?_ ?_ ?_ ?_ ?_ ?_ ?_ okn) ?_
  all_goals try dsimp only [ta5, ta9, ta10, ta12]
  all_goals exact sc32

set_option maxHeartbeats 4000000 in
theorem ttX (x : Int) (hx : 0 ≤ x ∧ x < 256) (n1 : x ≠ 10) (n2 : x ≠ 13) (n3 : x ≠ 9) (n4 : ¬ (x = 34 ∨ x = 36 ∨ x = 92)) (h : ¬ (32 ≤ x ∧ x ≤ 126))  :
    (RunsTo Tryd.prog 83 [.code (bodyOf Tryd.f83)] (envOf [vU x] Tryd.f83.ntmps) ta8 80 (vS [92, 120, hexS.getD (x / 16).toNat 0, hexS.getD (x % 16).toNat 0]) ta11 120) := by
  obtain ⟨h4, h5⟩ := sh_at hx
  have E' := (⟨h4, h5⟩ : _ ∧ _)
  refine bcase (fun gg0 => (rEn baseO 300 (99) 900 80 (hI 12 16105472) ([]) [(ta5 x), (ta9 x), (ta10 x), (ta12 x), (x == (36 : Int), false), (x == (92 : Int), false), (decide (x ≥ (32 : Int)), false), (ta7 x), (ta6 x)] (ta1 x) (oc9 ?_ ?_ ?_ ?_ ?_ ?_ gg0 ?_ ?_ okn) ?_)) fun gg0 => (rEn baseO 300 (99) 900 80 (hI 13 64425984) ([]) [(ta5 x), (ta9 x), (ta10 x), (ta12 x), (x == (36 : Int), false), (x == (92 : Int), false), (decide (x ≥ (32 : Int)), true), (decide (x ≤ (126 : Int)), false), (ta7 x), (ta6 x)] (ta1 x) (oc1 ?_ (oc9 ?_ ?_ ?_ ?_ ?_ gg0 ?_ ?_ ?_ okn)) ?_)
  all_goals try dsimp only [ta5, ta9, ta10, ta12, ta7, ta6, ta1] at *
  all_goals exact sc33

theorem ttT' (x : Int) (hx : 0 ≤ x ∧ x < 256) : RunsTo Tryd.prog 83 [.code (bodyOf Tryd.f83)] (envOf [vU x] Tryd.f83.ntmps) (Sx.look ([] ++ ([]))) 80 (vS (toldI x true)) (Sx.look []) 120 := by
  unfold toldI
  split
  · rename_i h; exact ttN x h
  · rename_i n1
    split
    · rename_i h; exact ttR x h
    · rename_i n2
      split
      · rename_i h; exact ttT x h
      · rename_i n3
        split
        · rename_i h; exact ttE x hx h
        · rename_i n4
          split
          · rename_i h; exact ttC x hx n1 n2 n3 n4 h.2
          · rename_i h; exact ttX x hx n1 n2 n3 n4 (fun q => h ⟨rfl, q⟩)
def ttP : PC := { args := [.v (.vi .u8 0)], heap := [], gs := [], G := 23, tp := 213, n := 80, n' := 120, cond := fun e => decide (0 ≤ eI e 0 [] ∧ eI e 0 [] < 256), v := fun e => vS (toldI (eI e 0 []) true), post := fun e => [] }
theorem ttP_pc : PC.Runs Tryd.prog 83 Tryd.f83 (bodyOf Tryd.f83) ttP := ⟨Tryd.func83, by kernel_rfl, (fun g hg => by first | (cases hg; done) | (revert g; show ∀ g ∈ ([] : List Nat), g < 23; decide)), fun e H hc => by
  have hc : (decide (0 ≤ eI e 0 [] ∧ eI e 0 [] < 256)) = true := hc
  try simp only [Bool.and_eq_true, decide_eq_true_eq, Nat.beq_eq] at hc
  exact ttT' (eI e 0 []) hc⟩
def sumsTQ : List (FuncId × Summ) := [(100, bldCk 120), (69, bldStr 120 5), (83, ttP.summ 46)]
theorem baseTQ : Base0 Tryd.prog sumsTQ := (((baseO.cons Tryd.func83 (by kernel_rfl) (PC.summ_ok ttP_pc gtopG)).cons Tryd.func69 (by kernel_rfl) bdStr).cons Tryd.func100 (by kernel_rfl) bdCk)

set_option maxHeartbeats 4000000 in
theorem tq0 (b : List UInt8) (hb : b.length ≤ 100000)  (v : SV) (L' : HF) (next : RunsTo Tryd.prog 46 (headOf Tryd.f46 0) (envAt Tryd.f46.ntmps ([(3, vP 101), (8, vL 103 1 b.length), (9, vN b.length), (10, vN (0 : Nat))])) (Sx.look ([] ++ (bdT 101 102 ([34]) ++ rwB 103 b))) 80 (v) (L') 320) :
    RunsTo Tryd.prog 46 [.code (bodyOf Tryd.f46)] (envOf [vS b] Tryd.f46.ntmps) (Sx.look ([] ++ ([]))) 80 (v) (L') 320 := by
  refine rMo baseTQ 500 (behind Tryd.f46 0) 900 80 (hI 2 15) ([((101 : Nat), Rn.to (80 : Nat)), ((103 : Nat), Rn.to (83 : Nat)), ((102 : Nat), Rn.to (82 : Nat))]) [] ((0 = 0 ∧ (0 = 0 ∧ b.length = b.length) ∧ (ta13 b) = (ta13 b) ∧ (↑(0 : Nat) : Int) = (0 : Int)) ∧ (0 = 0 ∧ 0 = 0 ∧ 1 = 1) ∧ (1 = 1 ∧ ∀ (i : Nat), i < (1 : Nat) → (↑([(34 : UInt8)].getD i (0 : UInt8)).toNat : Int) = (34 : Int)) ∧ b.length = b.length ∧ ∀ (i : Nat), i < b.length → (ta4 b i) = (ta4 b i)) next okn ?_
  all_goals clear next; try dsimp only [ta13, ta4]
  all_goals exact sc36

set_option maxHeartbeats 4000000 in
theorem tq1 (b o : List UInt8) (i : Nat) (hi : i < b.length) (ho : o.length ≤ 500000) (hb : b.length ≤ 100000)  (v : SV) (L' : HF) (next : RunsTo Tryd.prog 46 (headOf Tryd.f46 0) (envAt Tryd.f46.ntmps ([(3, vP 101), (8, vL 103 1 b.length), (9, vN b.length), (10, vN (i + 1 : Nat))])) (Sx.look ([] ++ (bdT 101 102 (o ++ toldI ((b.getD i 0).toNat : Int) true) ++ rwB 103 b))) 80 (v) (L') 320) :
    RunsTo Tryd.prog 46 (headOf Tryd.f46 0) (envAt Tryd.f46.ntmps ([(3, vP 101), (8, vL 103 1 b.length), (9, vN b.length), (10, vN (i : Nat))])) (Sx.look ([] ++ (bdT 101 102 (o) ++ rwB 103 b))) 80 (v) (L') 320 := by
  have hw : IntKind.i64.wrap ((i : Int) + 1) = ((i + 1 : Nat) : Int) := by rw [wr64 (by omega)]; rfl
  have hu := u8nat (b.getD i 0)
  have hap := app_bytes o (toldI ((b.getD i 0).toNat : Int) true) (fun is => (((toldI ((b.getD i 0).toNat : Int) true).getD (is.headD 0) 0).toNat : Int)) (fun j hj => rfl)
  have htl := toldI_le ((b.getD i 0).toNat : Int) true
  have E' := hw
  refine rMo baseTQ 500 (behind Tryd.f46 0) 900 110 (hI 7 5461) ([((102 : Nat), Rn.to (150 : Nat))]) [(decide ((i : Int) < (ta13 b)), true), (decide (0 ≤ (i : Int) ∧ (i : Int) < (ta13 b)), true), ((0 + (i : Int).toNat).blt b.length, true), ((0 + (i : Int).toNat).blt b.length, true), (decide (0 ≤ (ta3 b i) ∧ (ta3 b i) < 256), true), ((0 + o.length).ble o.length, true), (decide (((2 : Nat) * (o.length + (toldI (ta3 b i) true).length) + (192 : Nat)) * (1 : Nat) ≤ (281474976710656 : Nat)), true)] ((0 = 0 ∧ (0 = 0 ∧ b.length = b.length) ∧ (ta13 b) = (ta13 b) ∧ (↑(i + (1 : Nat)) : Int) = IntKind.i64.wrap ((i : Int) + 1)) ∧ (0 = 0 ∧ 0 = 0 ∧ (o ++ toldI (ta4 b i) true).length = o.length + (toldI (ta3 b i) true).length) ∧ ((o ++ toldI (ta4 b i) true).length = o.length + (toldI (ta3 b i) true).length ∧ ∀ (i_1 : Nat), i_1 < (o ++ toldI (ta4 b i) true).length → (↑((o ++ toldI (ta4 b i) true).getD i_1 (0 : UInt8)).toNat : Int) = appF o.length (0 : Nat) (fun is => (↑(o.getD (List.headD is (0 : Nat)) (0 : UInt8)).toNat : Int)) (fun is => (↑((toldI (ta3 b i) true).getD (List.headD is (0 : Nat)) (0 : UInt8)).toNat : Int)) [i_1]) ∧ b.length = b.length ∧ ∀ (i : Nat), i < b.length → (ta4 b i) = (ta4 b i)) next (oc7 ?_ ?_ ?_ ?_ ?_ ?_ ?_ okn) ?_
  all_goals clear next; try dsimp only [ta13, ta3, ta4]
  all_goals exact sc37

set_option maxHeartbeats 4000000 in
theorem tq2 (b o : List UInt8) (i : Nat) (hi : i = b.length) (ho : o.length ≤ 500000)  :
    (RunsTo Tryd.prog 46 (headOf Tryd.f46 0) (envAt Tryd.f46.ntmps ([(3, vP 101), (8, vL 103 1 b.length), (9, vN b.length), (10, vN (i : Nat))])) (Sx.look ([] ++ (bdT 101 102 (o) ++ rwB 103 b))) 80 (vS (o ++ [34])) ta11 320) := by
  have hap := app_byte o 34 (fun _ => 34) rfl
  refine rEn baseTQ 500 (99) 900 110 (hI 7 5980) ([]) [(decide ((i : Int) < (ta13 b)), false), ((0 + o.length).ble o.length, true), (decide (((2 : Nat) * (o.length + (1 : Nat)) + (192 : Nat)) * (1 : Nat) ≤ (281474976710656 : Nat)), true), ((o.length + (1 : Nat)).ble (o.length + (1 : Nat)), true), ((o.length + (1 : Nat)).ble (1000000 : Nat), true)] (o ++ [(34 : UInt8)] = bytesOf (appF o.length (0 : Nat) (fun is => (↑(o.getD (List.headD is (0 : Nat)) (0 : UInt8)).toNat : Int)) fun js => (34 : Int)) [] (0 : Nat) (o.length + (1 : Nat)) ∧ True) (oc5 ?_ ?_ ?_ ?_ ?_ okn) ?_
  all_goals try dsimp only [ta13]
  all_goals exact sc38

theorem tqT (b : List UInt8) (hb : b.length ≤ 100000) : RunsTo Tryd.prog 46 [.code (bodyOf Tryd.f46)] (envOf [vS b] Tryd.f46.ntmps) (Sx.look ([] ++ ([]))) 80 (vS (quoT b)) (Sx.look []) 320 := by
  refine tq0 b hb _ _ ?_
  suffices z : ∀ (j i : Nat), i + j = b.length → RunsTo Tryd.prog 46 (headOf Tryd.f46 0) (envAt Tryd.f46.ntmps ([(3, vP 101), (8, vL 103 1 b.length), (9, vN b.length), (10, vN (i : Nat))])) (Sx.look ([] ++ (bdT 101 102 (tolT b i) ++ rwB 103 b))) 80 (vS (quoT b)) (Sx.look []) 320 from z b.length 0 (by omega)
  intro j
  induction j with
  | zero =>
    intro i hi
    have hl := tolT_len b i
    have e : i = b.length := by omega
    subst e
    exact tq2 b _ _ rfl (by omega)
  | succ j ih =>
    intro i hi
    have hl := tolT_len b i
    exact tq1 b _ i (by omega) (by omega) hb _ _ (ih (i + 1) (by omega))
def tqP : PC := { args := [.v (.vs 0)], heap := [], gs := [], G := 23, tp := 213, n := 80, n' := 320, cond := fun e => decide ((eS e 0 []).length ≤ 100000), v := fun e => vS (quoT (eS e 0 [])), post := fun e => [] }
theorem tqP_pc : PC.Runs Tryd.prog 46 Tryd.f46 (bodyOf Tryd.f46) tqP := ⟨Tryd.func46, by kernel_rfl, (fun g hg => by first | (cases hg; done) | (revert g; show ∀ g ∈ ([] : List Nat), g < 23; decide)), fun e H hc => by
  have hc : (decide ((eS e 0 []).length ≤ 100000)) = true := hc
  try simp only [Bool.and_eq_true, decide_eq_true_eq, Nat.beq_eq] at hc
  exact tqT (eS e 0 []) hc⟩
def sumsTV : List (FuncId × Summ) := [(46, tqP.summ 46)]
theorem baseTV : Base0 Tryd.prog sumsTV := (baseO.cons Tryd.func46 (by kernel_rfl) (PC.summ_ok tqP_pc gtopG))
end Go.Proofs.YtaleenklamognaaDoor

set_option linter.unusedSimpArgs false
set_option linter.unusedVariables false
set_option maxRecDepth 100000
namespace Go.Proofs.YtaleenklamognaaDoor
open Go.Sx

open WordR
def sumsTW : List (FuncId × Summ) := [(46, tqP.summ 46)]
theorem baseTW : Base0 Tryd.prog sumsTW := (baseO.cons Tryd.func46 (by kernel_rfl) (PC.summ_ok tqP_pc gtopG))

variable (b : List UInt8)
abbrev tb3 := splitS (quoT b)
abbrev tb1 := (Nat.blt (0 : Nat) (tb3 b).1.length, true)
abbrev tb2 := (decide ((0 : Int) ≤ 0 ∧ (0 : Int) < (↑(tb3 b).1.length : Int)), true)
set_option maxHeartbeats 4000000 in
theorem tavI (t0 : List UInt8)  :
    (RunsTo Tryd.prog 26 [.code (bodyOf Tryd.f26)] (envOf [] Tryd.f26.ntmps) (Sx.look ([] ++ ([]))) 80 (YES) (Sx.look ([])) 1200) := by
  refine rEn baseTW 500 (99) 900 80 (hI 40 1190036353683150593833642) ([]) [] (true = true ∧ True) okn ?_
  all_goals exact sc39

def tavP : PC := { args := [], heap := [], gs := [], G := 23, tp := 213, n := 80, n' := 1200, cond := fun e => true, v := fun e => YES, post := fun e => [] }
theorem tavP_pc : PC.Runs Tryd.prog 26 Tryd.f26 (bodyOf Tryd.f26) tavP := ⟨Tryd.func26, by kernel_rfl, (fun g hg => by first | (cases hg; done) | (revert g; show ∀ g ∈ ([] : List Nat), g < 23; decide)), fun e H hc => by
  have hc : (true) = true := hc
  try simp only [Bool.and_eq_true, decide_eq_true_eq, Nat.beq_eq] at hc
  exact tavI []⟩
def tqS (t0 t1 t2 t3 t4 t5 t6 t7 t8 t9 t10 t11 t12 t13 t14 t15 : List UInt8) : List Ent := sentEnts 23 213 [(4, t0), (3, t1), (5, t2), (0, t3), (6, t4), (2, t5), (7, t6), (8, t7), (9, t8), (10, t9), (11, t10), (12, t11), (13, t12), (14, t13), (15, t14), (1, t15)]
def sumsLT : List (FuncId × Summ) := [(26, tavP.summ 46), (46, tqP.summ 46), (14, spOkP.summ 46)]
theorem baseLT : Base0 Tryd.prog sumsLT := (((baseO.cons Tryd.func14 (by kernel_rfl) (PC.summ_ok spOkP_pc gtopG)).cons Tryd.func46 (by kernel_rfl) (PC.summ_ok tqP_pc gtopG)).cons Tryd.func26 (by kernel_rfl) (PC.summ_ok tavP_pc gtopG))

set_option maxHeartbeats 4000000 in
theorem tlq1 (t0 t1 t2 t3 t4 t5 t6 t7 t8 t9 t10 t11 t12 t13 t14 t15 b : List UInt8) (h : 400 < b.length ∨ b.length = 0)  :
    (RunsTo Tryd.prog 11 [.code (bodyOf Tryd.f11)] (envOf [vS b] Tryd.f11.ntmps) (Sx.look (tqS t0 t1 t2 t3 t4 t5 t6 t7 t8 t9 t10 t11 t12 t13 t14 t15 ++ ([]))) 80 (YES) (Sx.look ([])) 12000) := by
  refine bcase (fun gg0 => (rEn baseLT 700 (99) 900 80 (hI 4 75) ([]) [(decide ((↑b.length : Int) > 400), false), ((↑b.length : Int) == 0, true)] (true = true ∧ True) (oc2 gg0 ?_ okn) ?_)) fun gg0 => (rEn baseLT 700 (99) 900 80 (hI 3 27) ([]) [(decide ((↑b.length : Int) > 400), true)] (true = true ∧ True) (oc1 gg0 okn) ?_)
  all_goals exact sc6

set_option maxHeartbeats 4000000 in
theorem tlq2 (t0 t1 t2 t3 t4 t5 t6 t7 t8 t9 t10 t11 t12 t13 t14 t15 b : List UInt8) (T : List Wt) (h1' : 0 < b.length) (h2 : b.length ≤ 400) (h3 : (quoT b).length ≤ 4000) (he : (splitS (quoT b)).2.2 = 0) (hT : (splitS (quoT b)).1 = T) (hTl : T.length = 1) (hk : wK T [0] = 3) (hL : wL T [0] = 1) (hgl : gpL T (wM T [0]) = 1) (hg : gpT T [wM T [0], 0] = b)  :
    (RunsTo Tryd.prog 11 [.code (bodyOf Tryd.f11)] (envOf [vS b] Tryd.f11.ntmps) (Sx.look (tqS t0 t1 t2 t3 t4 t5 t6 t7 t8 t9 t10 t11 t12 t13 t14 t15 ++ ([]))) 80 (YES) (Sx.look ([])) 12000) := by
  have hmk : wM T [0] < T.length := by simp only [wM, List.headD]; omega
  have hT0 : 0 < T.length := by omega
  have h1 : 0 < gpL T (wM T [0]) := by omega
  have E' := (⟨he, hT, hTl, hk, hL, hgl, hg⟩ : _ ∧ _ ∧ _ ∧ _ ∧ _ ∧ _ ∧ _)
  refine rEn baseLT 700 (99) 900 80 (hI 24 93824992245003) ([]) [(decide ((↑b.length : Int) > 400), false), ((↑b.length : Int) == 0, false), (decide (b.length ≤ (100000 : Nat)), true), (decide ((tb3 b).2.2 = (0 : Nat)), true), ((↑(tb3 b).1.length : Int) == 1, true), (tb2 b), (tb1 b), (tb1 b), (wK (tb3 b).1 [(0 : Nat)] == (3 : Int), true), (tb2 b), (tb1 b), (tb1 b), ((↑(wL (tb3 b).1 [(0 : Nat)]) : Int) == 1, true), (tb2 b), (tb1 b), (tb1 b), (decide ((0 : Int) ≤ 0 ∧ (0 : Int) < (↑(wL (tb3 b).1 [(0 : Nat)]) : Int)), true), ((wM (tb3 b).1 [(0 : Nat)]).blt (tb3 b).1.length, true), (Nat.blt (0 : Nat) (gpL (tb3 b).1 (wM (tb3 b).1 [(0 : Nat)])), true), ((wM (tb3 b).1 [(0 : Nat)]).blt (tb3 b).1.length, true), (Nat.blt (0 : Nat) (gpL (tb3 b).1 (wM (tb3 b).1 [(0 : Nat)])), true)] (true = (gpT (tb3 b).1 [wM (tb3 b).1 [(0 : Nat)], (0 : Nat)] == b) ∧ True) (oc3 ?_ ?_ ?_ (oc9 ?_ ?_ ?_ ?_ ?_ ?_ ?_ ?_ ?_ (oc9 ?_ ?_ ?_ ?_ ?_ ?_ ?_ ?_ ?_ okn))) ?_
  all_goals try dsimp only [tb3, tb2, tb1]
  all_goals exact sc40

end Go.Proofs.YtaleenklamognaaDoor

