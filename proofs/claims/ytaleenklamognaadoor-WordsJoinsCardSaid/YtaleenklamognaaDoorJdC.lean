/- Words: numbers, joined; signs. -/
import Derived.Test.YtaleenklamognaaDoorJcC
set_option linter.unusedSimpArgs false
set_option linter.unusedVariables false
set_option maxRecDepth 100000
namespace Go.Proofs.YtaleenklamognaaDoor
open Go.Sx

open WordR
abbrev sgU : Ix → List UInt8 := upd (upd (upd (upd (upd (upd (upd (upd (fun is => []) [(0 : Nat)] [(61 : UInt8), (61 : UInt8)]) [(1 : Nat)] [(33 : UInt8), (61 : UInt8)]) [(2 : Nat)] [(60 : UInt8), (61 : UInt8)]) [(3 : Nat)] [(62 : UInt8), (61 : UInt8)]) [(4 : Nat)] [(123 : UInt8)]) [(5 : Nat)] [(125 : UInt8)]) [(6 : Nat)] [(60 : UInt8)]) [(7 : Nat)] [(62 : UInt8)]
theorem sgAll : sgU [(0 : Nat)] = ([61, 61] : List UInt8) ∧ sgU [(1 : Nat)] = ([33, 61] : List UInt8) ∧ sgU [(2 : Nat)] = ([60, 61] : List UInt8) ∧ sgU [(3 : Nat)] = ([62, 61] : List UInt8) ∧ sgU [(4 : Nat)] = ([123] : List UInt8) ∧ sgU [(5 : Nat)] = ([125] : List UInt8) ∧ sgU [(6 : Nat)] = ([60] : List UInt8) ∧ sgU [(7 : Nat)] = ([62] : List UInt8) := ⟨rfl, rfl, rfl, rfl, rfl, rfl, rfl, rfl⟩
def NUR (s : List UInt8) (a : Nat) (X : SV → HF → Prop) : TR → Prop
  | .ok t n => X (.tup [(true, tkT (2) ([]) (t.num) .vl0), (false, .ve0)]) (Sx.look (rdW 63 s (a + n : Nat)))
  | .err e => (e = 4 ∧ X (.tup [(true, tkT (0) ([]) (0) .vl0), (false, vErr 0)]) (Sx.look [])) ∨ (e = 5 ∧ X (.tup [(true, tkT (0) ([]) (0) .vl0), (false, vErr 6)]) (Sx.look []))
theorem span_all (p : Int → Bool) : ∀ (l : List UInt8) (j : Nat), j < spanR p l → p (nat (l.getD j 0)) = true
  | [], j, h => by simp [spanR] at h
  | c :: r, j, h => by
    by_cases q : p (nat c) = true
    · rw [spanR, if_pos q] at h
      cases j with
      | zero => exact q
      | succ j => exact span_all p r j (by omega)
    · rw [spanR, if_neg q] at h; omega
theorem getD_take (l : List UInt8) {k j : Nat} (h : j < k) : (l.take k).getD j 0 = l.getD j 0 := by
  simp [List.getD_eq_getElem?_getD, List.getElem?_take, h]
theorem headD_getD (l : List UInt8) : l.headD 0 = l.getD 0 0 := by cases l <;> rfl
theorem nuLm' (t0 t1 s : List UInt8) (e : Nat) (D : List UInt8) (hD : D.length ≤ 9) (hd : ∀ j, j < D.length → figI (nat (D.getD j 0)) = true) : ∀ (k i : Nat) (nn : Int), i + k = D.length → 0 ≤ nn → nn < (10 ^ i : Nat) → RunsTo Tryd.prog 92 (headOf Tryd.f92 0) (envAt Tryd.f92.ntmps ([(2, vP 120), (4, vB true), (6, vN nn), (56, vL 121 1 D.length), (57, vN D.length), (58, vN (i : Nat))])) (Sx.look (sentEnts 23 213 [(0, t0), (6, t1)] ++ (rdW 63 s (e : Nat) ++ (bW 121 D ++ [⟨120, true, none, 5, tkT 0 [] 0 .vl0⟩])))) 80 (.tup [(true, tkT (2) ([]) (-(decA nn (D.drop i))) .vl0), (false, .ve0)]) (Sx.look (rdW 63 s (e : Nat))) 700 := by
  intro k
  induction k with
  | zero =>
    intro i nn hi h0 h1
    have hp : (10 ^ i : Nat) ≤ 10 ^ 9 := Nat.pow_le_pow_right (by decide) (by omega)
    rw [show D.drop i = [] from List.drop_eq_nil_of_le (by omega)]
    exact nuEm t0 t1 s e D nn i (by omega) ⟨h0, by omega⟩
  | succ k ih =>
    intro i nn hi h0 h1
    have hp : (10 ^ i : Nat) ≤ 10 ^ 8 := Nat.pow_le_pow_right (by decide) (by omega)
    have hf := hd i (by omega)
    unfold figI nat at hf
    have hf := of_decide_eq_true hf
    have hf2 : 48 ≤ (D.getD i 0).toNat ∧ (D.getD i 0).toNat ≤ 57 := by omega
    rw [drop_at D (by omega), decA]
    refine nuR t0 t1 s e D true nn i (by omega) hD ⟨h0, by omega⟩ hf2 _ _ (ih (i + 1) _ (by omega) (by omega) ?_)
    rw [Nat.pow_succ]; omega
theorem nuLp' (t0 t1 s : List UInt8) (e : Nat) (D : List UInt8) (hD : D.length ≤ 9) (hd : ∀ j, j < D.length → figI (nat (D.getD j 0)) = true) : ∀ (k i : Nat) (nn : Int), i + k = D.length → 0 ≤ nn → nn < (10 ^ i : Nat) → RunsTo Tryd.prog 92 (headOf Tryd.f92 0) (envAt Tryd.f92.ntmps ([(2, vP 120), (4, vB false), (6, vN nn), (56, vL 121 1 D.length), (57, vN D.length), (58, vN (i : Nat))])) (Sx.look (sentEnts 23 213 [(0, t0), (6, t1)] ++ (rdW 63 s (e : Nat) ++ (bW 121 D ++ [⟨120, true, none, 5, tkT 0 [] 0 .vl0⟩])))) 80 (.tup [(true, tkT (2) ([]) ((decA nn (D.drop i))) .vl0), (false, .ve0)]) (Sx.look (rdW 63 s (e : Nat))) 700 := by
  intro k
  induction k with
  | zero =>
    intro i nn hi h0 h1
    have hp : (10 ^ i : Nat) ≤ 10 ^ 9 := Nat.pow_le_pow_right (by decide) (by omega)
    rw [show D.drop i = [] from List.drop_eq_nil_of_le (by omega)]
    exact nuEp t0 t1 s e D nn i (by omega) ⟨h0, by omega⟩
  | succ k ih =>
    intro i nn hi h0 h1
    have hp : (10 ^ i : Nat) ≤ 10 ^ 8 := Nat.pow_le_pow_right (by decide) (by omega)
    have hf := hd i (by omega)
    unfold figI nat at hf
    have hf := of_decide_eq_true hf
    have hf2 : 48 ≤ (D.getD i 0).toNat ∧ (D.getD i 0).toNat ≤ 57 := by omega
    rw [drop_at D (by omega), decA]
    refine nuR t0 t1 s e D false nn i (by omega) hD ⟨h0, by omega⟩ hf2 _ _ (ih (i + 1) _ (by omega) (by omega) ?_)
    rw [Nat.pow_succ]; omega
theorem nuKm (t0 t1 s : List UInt8) (a : Nat) (ha : a < s.length) (hs : s.length ≤ 10000) (hm : (s.getD a 0).toNat = 45) : NUR s a (fun v L' => RunsTo Tryd.prog 92 [.code (bodyOf Tryd.f92)] (envOf [vP 63] Tryd.f92.ntmps) (Sx.look (sentEnts 23 213 [(0, t0), (6, t1)] ++ (rdW 63 s (a : Nat)))) 80 (v) (L') 700) (numK true (s.drop (a + 1))) := by
  have hle := span_le' figI s (a := (a + 1)) (by omega)
  have hall := span_all figI (s.drop (a + 1))
  unfold numK
  generalize hk : spanR figI (s.drop (a + 1)) = k at *
  have hD : (s.take ((a + 1) + k)).drop (a + 1) = (s.drop (a + 1)).take k := take_drop _ _ _
  have hDl : ((s.drop (a + 1)).take k).length = k := by rw [List.length_take, List.length_drop]; omega
  have hdig : ∀ j, j < ((s.drop (a + 1)).take k).length → figI (nat (((s.drop (a + 1)).take k).getD j 0)) = true := fun j hj => by
    rw [getD_take _ (by omega)]; exact hall j (by omega)
  have hhd : 0 < k → (s.drop (a + 1)).headD 0 = ((s.drop (a + 1)).take k).getD 0 0 := fun h => by rw [getD_take _ h, headD_getD]
  have hnx : ((s.drop (a + 1)).drop k).headD 0 = s.getD ((a + 1) + k) 0 := by rw [List.drop_drop, head_drop]
  rw [hnx]
  generalize (s.drop (a + 1)).take k = D at *
  by_cases h9 : 9 < k
  · rw [if_pos h9]; exact .inl ⟨rfl, nuLm t0 t1 s a k D ha hs hm hk hD hDl h9⟩
  rw [if_neg h9]
  by_cases h0 : k = 0
  · rw [if_pos (.inl h0)]; exact .inr ⟨rfl, nuAm t0 t1 s a k D ha hs hm hk hD hDl h0 (List.length_eq_zero_iff.1 (by omega))⟩
  by_cases h1 : 1 < k ∧ (s.drop (a + 1)).headD 0 = 48
  · rw [if_pos (.inr (.inl h1))]; exact .inr ⟨rfl, nuBm t0 t1 s a k D ha hs hm hk hD hDl (by omega) h1.1 (by rw [← hhd (by omega), h1.2]; rfl)⟩
  have hz : ¬ (1 < k ∧ D.getD 0 0 = 48) := fun e => h1 ⟨e.1, by rw [hhd (by omega)]; exact e.2⟩
  by_cases h2 : true = true ∧ D = [48]
  · rw [if_pos (.inr (.inr (.inl h2)))]; exact .inr ⟨rfl, nuCm t0 t1 s a k D ha hs hm hk hD hDl h2.2⟩
  cases hg : goI (nat (s.getD ((a + 1) + k) 0)) with
  | true =>
    have hg1 : (a + 1) + k < s.length := by
      refine Nat.lt_of_not_le fun q => ?_
      rw [List.getD_eq_getElem?_getD, List.getElem?_eq_none q] at hg
      exact absurd hg (by decide)
    rw [if_pos (.inr (.inr (.inr rfl)))]
    exact .inr ⟨rfl, nuGm t0 t1 s a k D ha hs hm hk hD hDl (by omega) (by omega) hz (fun e => h2 ⟨rfl, e⟩) hg1 hg⟩
  | false =>
    rw [if_neg (by rintro (e | e | e | e); exact h0 e; exact h1 e; exact h2 e; exact absurd e (by decide))]
    have q := nuLm' t0 t1 s ((a + 1) + k) D (by omega) hdig D.length 0 0 (by omega) (by omega) (by decide)
    rw [List.drop_zero] at q
    have st := nu0m t0 t1 s a k D ha hs hm hk hD hDl (by omega) (by omega) hz (fun e => h2 ⟨rfl, e⟩) (fun _ => hg) _ _ q
    show RunsTo _ _ _ _ _ _ _ (Sx.look (rdW 63 s ((a + (k + if true = true then 1 else 0) : Nat)))) _
    rw [show a + (k + if true = true then 1 else 0) = (a + 1) + k by rw [if_pos rfl]; omega]
    exact st
theorem nuKp (t0 t1 s : List UInt8) (a : Nat) (ha : a < s.length) (hs : s.length ≤ 10000) (hm : (s.getD a 0).toNat ≠ 45) : NUR s a (fun v L' => RunsTo Tryd.prog 92 [.code (bodyOf Tryd.f92)] (envOf [vP 63] Tryd.f92.ntmps) (Sx.look (sentEnts 23 213 [(0, t0), (6, t1)] ++ (rdW 63 s (a : Nat)))) 80 (v) (L') 700) (numK false (s.drop a)) := by
  have hle := span_le' figI s (a := a) (by omega)
  have hall := span_all figI (s.drop a)
  unfold numK
  generalize hk : spanR figI (s.drop a) = k at *
  have hD : (s.take (a + k)).drop a = (s.drop a).take k := take_drop _ _ _
  have hDl : ((s.drop a).take k).length = k := by rw [List.length_take, List.length_drop]; omega
  have hdig : ∀ j, j < ((s.drop a).take k).length → figI (nat (((s.drop a).take k).getD j 0)) = true := fun j hj => by
    rw [getD_take _ (by omega)]; exact hall j (by omega)
  have hhd : 0 < k → (s.drop a).headD 0 = ((s.drop a).take k).getD 0 0 := fun h => by rw [getD_take _ h, headD_getD]
  have hnx : ((s.drop a).drop k).headD 0 = s.getD (a + k) 0 := by rw [List.drop_drop, head_drop]
  rw [hnx]
  generalize (s.drop a).take k = D at *
  by_cases h9 : 9 < k
  · rw [if_pos h9]; exact .inl ⟨rfl, nuLp t0 t1 s a k D ha hs hm hk hD hDl h9⟩
  rw [if_neg h9]
  by_cases h0 : k = 0
  · rw [if_pos (.inl h0)]; exact .inr ⟨rfl, nuAp t0 t1 s a k D ha hs hm hk hD hDl h0 (List.length_eq_zero_iff.1 (by omega))⟩
  by_cases h1 : 1 < k ∧ (s.drop a).headD 0 = 48
  · rw [if_pos (.inr (.inl h1))]; exact .inr ⟨rfl, nuBp t0 t1 s a k D ha hs hm hk hD hDl (by omega) h1.1 (by rw [← hhd (by omega), h1.2]; rfl)⟩
  have hz : ¬ (1 < k ∧ D.getD 0 0 = 48) := fun e => h1 ⟨e.1, by rw [hhd (by omega)]; exact e.2⟩
  cases hg : goI (nat (s.getD (a + k) 0)) with
  | true =>
    have hg1 : a + k < s.length := by
      refine Nat.lt_of_not_le fun q => ?_
      rw [List.getD_eq_getElem?_getD, List.getElem?_eq_none q] at hg
      exact absurd hg (by decide)
    rw [if_pos (.inr (.inr (.inr rfl)))]
    exact .inr ⟨rfl, nuGp t0 t1 s a k D ha hs hm hk hD hDl (by omega) (by omega) hz hg1 hg⟩
  | false =>
    rw [if_neg (by rintro (e | e | e | e); exact h0 e; exact h1 e; exact absurd e.1 (by decide); exact absurd e (by decide))]
    have q := nuLp' t0 t1 s (a + k) D (by omega) hdig D.length 0 0 (by omega) (by omega) (by decide)
    rw [List.drop_zero] at q
    have st := nu0p t0 t1 s a k D ha hs hm hk hD hDl (by omega) (by omega) hz (fun _ => hg) _ _ q
    show RunsTo _ _ _ _ _ _ _ (Sx.look (rdW 63 s ((a + (k + if false = true then 1 else 0) : Nat)))) _
    rw [show a + (k + if false = true then 1 else 0) = a + k by rw [if_neg (by decide)]; omega]
    exact st
theorem nuT (t0 t1 s : List UInt8) (a : Nat) (ha : a < s.length) (hs : s.length ≤ 10000) : NUR s a (fun v L' => RunsTo Tryd.prog 92 [.code (bodyOf Tryd.f92)] (envOf [vP 63] Tryd.f92.ntmps) (Sx.look (sentEnts 23 213 [(0, t0), (6, t1)] ++ (rdW 63 s (a : Nat)))) 80 (v) (L') 700) (numberR (s.drop a)) := by
  have e : numberR (s.drop a) = if s.getD a 0 = 45 then numK true (s.drop (a + 1)) else numK false (s.drop a) := by rw [drop_at s ha]; rfl
  rw [e]
  by_cases h : s.getD a 0 = 45
  · rw [if_pos h]; exact nuKm t0 t1 s a ha hs (by rw [h]; rfl)
  · rw [if_neg h]; exact nuKp t0 t1 s a ha hs (nat_ne h)
theorem nuOkT (t0 t1 s : List UInt8) (a : Nat) (ha : a < s.length) (hs : s.length ≤ 10000) (h : isOkR (numberR (s.drop a)) = true) : RunsTo Tryd.prog 92 [.code (bodyOf Tryd.f92)] (envOf [vP 63] Tryd.f92.ntmps) (Sx.look (sentEnts 23 213 [(0, t0), (6, t1)] ++ (rdW 63 s (a : Nat)))) 80 (.tup [(true, tkT (2) ([]) ((okT (numberR (s.drop a))).num) .vl0), (false, .ve0)]) (Sx.look (rdW 63 s (a + okN (numberR (s.drop a)) : Nat))) 700 := by
  have q := nuT t0 t1 s a ha hs
  cases hz : (numberR (s.drop a)) with
  | ok t m => rw [hz] at q; exact q
  | err e =>
    rw [hz] at h; cases h
theorem nuFoT (t0 t1 s : List UInt8) (a : Nat) (ha : a < s.length) (hs : s.length ≤ 10000) (h : isErR 5 (numberR (s.drop a)) = true) : RunsTo Tryd.prog 92 [.code (bodyOf Tryd.f92)] (envOf [vP 63] Tryd.f92.ntmps) (Sx.look (sentEnts 23 213 [(0, t0), (6, t1)] ++ (rdW 63 s (a : Nat)))) 80 (.tup [(true, tkT (0) ([]) (0) .vl0), (false, vErr 6)]) (Sx.look ([])) 700 := by
  have q := nuT t0 t1 s a ha hs
  cases hz : (numberR (s.drop a)) with
  | ok t m =>
    rw [hz] at h; cases h
  | err e =>
    rw [hz] at h q
    have he : e = 5 := by simpa [isErR] using h
    subst he
    simpa [NUR] using q
theorem nuLoT (t0 t1 s : List UInt8) (a : Nat) (ha : a < s.length) (hs : s.length ≤ 10000) (h : isErR 4 (numberR (s.drop a)) = true) : RunsTo Tryd.prog 92 [.code (bodyOf Tryd.f92)] (envOf [vP 63] Tryd.f92.ntmps) (Sx.look (sentEnts 23 213 [(0, t0), (6, t1)] ++ (rdW 63 s (a : Nat)))) 80 (.tup [(true, tkT (0) ([]) (0) .vl0), (false, vErr 0)]) (Sx.look ([])) 700 := by
  have q := nuT t0 t1 s a ha hs
  cases hz : (numberR (s.drop a)) with
  | ok t m =>
    rw [hz] at h; cases h
  | err e =>
    rw [hz] at h q
    have he : e = 4 := by simpa [isErR] using h
    subst he
    simpa [NUR] using q
def nuOkP : PC := { args := [.v (.vp 63)], heap := [⟨63, true, 2, .tc (.vs 0) (.tc (.vi .i64 1) .t0)⟩], gs := [0, 6], G := 23, tp := 213, n := 80, n' := 700, cond := fun e => decide (0 ≤ eI e 1 []) && (decide ((eI e 1 []).toNat < (eS e 0 []).length) && (decide ((eS e 0 []).length ≤ 10000) && isOkR (numberR ((eS e 0 []).drop (eI e 1 []).toNat)))), v := fun e => .tup [(true, tkT (2) ([]) ((okT (numberR ((eS e 0 []).drop (eI e 1 []).toNat))).num) .vl0), (false, .ve0)], post := fun e => rdW 63 (eS e 0 []) ((eI e 1 []).toNat + okN (numberR ((eS e 0 []).drop (eI e 1 []).toNat)) : Nat) }
theorem nuOkP_pc : PC.Runs Tryd.prog 92 Tryd.f92 (bodyOf Tryd.f92) nuOkP := ⟨Tryd.func92, by kernel_rfl, (fun g hg => by first | (cases hg; done) | (revert g; show ∀ g ∈ ([0, 6] : List Nat), g < 23; decide)), fun e H hc => by
  have hc : (decide (0 ≤ eI e 1 []) && (decide ((eI e 1 []).toNat < (eS e 0 []).length) && (decide ((eS e 0 []).length ≤ 10000) && isOkR (numberR ((eS e 0 []).drop (eI e 1 []).toNat))))) = true := hc
  try simp only [Bool.and_eq_true, decide_eq_true_eq, Nat.beq_eq] at hc
  exact by obtain ⟨h1, h2, h3, h4⟩ := hc; have hj : ((eI e 1 []).toNat : Int) = eI e 1 [] := Int.toNat_of_nonneg h1; have q := nuOkT (textAt H 23) (textAt H 29) (eS e 0 []) (eI e 1 []).toNat h2 h3 h4; rw [hj] at q; exact q⟩
def nuFoP : PC := { args := [.v (.vp 63)], heap := [⟨63, true, 2, .tc (.vs 0) (.tc (.vi .i64 1) .t0)⟩], gs := [0, 6], G := 23, tp := 213, n := 80, n' := 700, cond := fun e => decide (0 ≤ eI e 1 []) && (decide ((eI e 1 []).toNat < (eS e 0 []).length) && (decide ((eS e 0 []).length ≤ 10000) && isErR 5 (numberR ((eS e 0 []).drop (eI e 1 []).toNat)))), v := fun e => .tup [(true, tkT (0) ([]) (0) .vl0), (false, vErr 6)], post := fun e => [] }
theorem nuFoP_pc : PC.Runs Tryd.prog 92 Tryd.f92 (bodyOf Tryd.f92) nuFoP := ⟨Tryd.func92, by kernel_rfl, (fun g hg => by first | (cases hg; done) | (revert g; show ∀ g ∈ ([0, 6] : List Nat), g < 23; decide)), fun e H hc => by
  have hc : (decide (0 ≤ eI e 1 []) && (decide ((eI e 1 []).toNat < (eS e 0 []).length) && (decide ((eS e 0 []).length ≤ 10000) && isErR 5 (numberR ((eS e 0 []).drop (eI e 1 []).toNat))))) = true := hc
  try simp only [Bool.and_eq_true, decide_eq_true_eq, Nat.beq_eq] at hc
  exact by obtain ⟨h1, h2, h3, h4⟩ := hc; have hj : ((eI e 1 []).toNat : Int) = eI e 1 [] := Int.toNat_of_nonneg h1; have q := nuFoT (textAt H 23) (textAt H 29) (eS e 0 []) (eI e 1 []).toNat h2 h3 h4; rw [hj] at q; exact q⟩
def nuLoP : PC := { args := [.v (.vp 63)], heap := [⟨63, true, 2, .tc (.vs 0) (.tc (.vi .i64 1) .t0)⟩], gs := [0, 6], G := 23, tp := 213, n := 80, n' := 700, cond := fun e => decide (0 ≤ eI e 1 []) && (decide ((eI e 1 []).toNat < (eS e 0 []).length) && (decide ((eS e 0 []).length ≤ 10000) && isErR 4 (numberR ((eS e 0 []).drop (eI e 1 []).toNat)))), v := fun e => .tup [(true, tkT (0) ([]) (0) .vl0), (false, vErr 0)], post := fun e => [] }
theorem nuLoP_pc : PC.Runs Tryd.prog 92 Tryd.f92 (bodyOf Tryd.f92) nuLoP := ⟨Tryd.func92, by kernel_rfl, (fun g hg => by first | (cases hg; done) | (revert g; show ∀ g ∈ ([0, 6] : List Nat), g < 23; decide)), fun e H hc => by
  have hc : (decide (0 ≤ eI e 1 []) && (decide ((eI e 1 []).toNat < (eS e 0 []).length) && (decide ((eS e 0 []).length ≤ 10000) && isErR 4 (numberR ((eS e 0 []).drop (eI e 1 []).toNat))))) = true := hc
  try simp only [Bool.and_eq_true, decide_eq_true_eq, Nat.beq_eq] at hc
  exact by obtain ⟨h1, h2, h3, h4⟩ := hc; have hj : ((eI e 1 []).toNat : Int) = eI e 1 [] := Int.toNat_of_nonneg h1; have q := nuLoT (textAt H 23) (textAt H 29) (eS e 0 []) (eI e 1 []).toNat h2 h3 h4; rw [hj] at q; exact q⟩
theorem sgEE_p0 (t1 s : List UInt8) (a : Nat) :
    isEnd (evTill Tryd.prog [] 500 (99) 900 94 [.code (bodyOf Tryd.f94)] (envOf [vP 63] Tryd.f94.ntmps) (sentEnts 23 213 [(6, t1)] ++ (rdW 63 s (a : Nat))) ⟨[.t, .t, .t, .t, .s true, .s true, .s true, .s true], 80⟩) (endP ([]) (.tup [(true, tkT (4) ([61, 61]) (0) .vl0), (false, .ve0)]) (rdW 63 s (a + 2 : Nat)) 700) =
    (OkL [(decide ((0 : Int) ≤ (a : Int) ∧ (a : Int) ≤ (↑s.length : Int)), true), (decide ((↑(List.drop (a : Int).toNat (List.take s.length s)).length : Int) ≥ (↑(2 : Nat) : Int)), true), (decide ((0 : Int) ≤ (↑(2 : Nat) : Int) ∧ (↑(2 : Nat) : Int) ≤ (↑(List.drop (a : Int).toNat (List.take s.length s)).length : Int)), true), (List.drop (0 : Nat) (List.take (2 : Nat) (List.drop (a : Int).toNat (List.take s.length s))) == sgU [(0 : Nat)], true)] ∧ (((4 : Int) = (4 : Int) ∧ [(61 : UInt8), (61 : UInt8)] = sgU [(0 : Nat)] ∧ (0 : Int) = (0 : Int) ∧ True ∧ (0 : Int) = (0 : Int)) ∧ True ∧ True) ∧ s = s ∧ (↑(a + (2 : Nat)) : Int) = IntKind.i64.wrap ((a : Int) + (↑(2 : Nat) : Int))) := by kernel_rfl

set_option maxHeartbeats 4000000 in
theorem sgEE (t1 s : List UInt8) (a : Nat) (ha : a < s.length) (hs : s.length ≤ 10000) (h1 : a + 1 < s.length) (h2 : s.getD a 0 = 61) (h3 : s.getD (a + 1) 0 = 61)  :
    RunsTo Tryd.prog 94 [.code (bodyOf Tryd.f94)] (envOf [vP 63] Tryd.f94.ntmps) (Sx.look (sentEnts 23 213 [(6, t1)] ++ (rdW 63 s (a : Nat)))) 80 (.tup [(true, tkT (4) ([61, 61]) (0) .vl0), (false, .ve0)]) (Sx.look (rdW 63 s (a + 2 : Nat))) 700 := by
  have hw1 : IntKind.i64.wrap ((a : Int) + 1) = ((a + 1 : Nat) : Int) := by rw [wr64 (by omega)]; rfl
  have hw2 : IntKind.i64.wrap ((a : Int) + 2) = ((a + 2 : Nat) : Int) := by rw [wr64 (by omega)]; omega
  have hl0 : (s.drop a).length = s.length - a := List.length_drop
  have ht1 : (s.drop a).take 1 = [s.getD a 0] := by rw [drop_at s ha]; rfl
  have ht2 : a + 1 < s.length → (s.drop a).take 2 = [s.getD a 0, s.getD (a + 1) 0] := fun q => by rw [drop_at s ha, drop_at s q]; rfl
  obtain ⟨hU0, hU1, hU2, hU3, hU4, hU5, hU6, hU7⟩ := sgAll
  have ht2' := ht2 h1
  rw [h2, h3] at ht2'
  rw [h2] at ht1
  refine runs_last baseO (Sx.Ends.of (sgEE_p0 t1 s a) ⟨(okc ?_ (okc ?_ (okc ?_ (okc ?_ okn)))), ?_⟩) (by kernel_rfl) rfl (gtL (by decide)) (by decide)
  all_goals first | (refine And.intro ?_ ?_ <;> ((try simp (disch := omega) only [SS, hU0, hU1, hU2, hU3, hU4, hU5, hU6, hU7, List.take_length, List.drop_zero, hl0, hw1, hw2, ht1, ht2']); (repeat' apply And.intro); (all_goals first | exact True.intro | with_reducible rfl | omega | (intros; first | exact True.intro | with_reducible rfl | omega | (simp_all; done)) | (simp_all; done) | rfl))) | (first | omega | (simp (disch := omega) only [SS, hU0, hU1, hU2, hU3, hU4, hU5, hU6, hU7, List.take_length, List.drop_zero, hl0, hw1, hw2, ht1, ht2']; first | done | omega | rfl | decide | (simp; omega) | (simp_all; done)) | (simp (disch := omega) only [SS, hU0, hU1, hU2, hU3, hU4, hU5, hU6, hU7, List.take_length, List.drop_zero, hl0, hw1, hw2, ht1, ht2'] at *; first | done | omega | rfl | decide | (rw [ht2 (by omega)]; simp; done) | (rw [ht2 (by omega)]; simp_all; done) | (rw [ht2' (by omega)]; simp; done) | (rw [ht2' (by omega)]; have := h3 (by omega); simp_all; done) | (rw [ht2 (by omega)]; have := n5 (by omega); simp_all; done) | (simp_all; done)))

theorem sgNE_p0 (t1 s : List UInt8) (a : Nat) :
    isEnd (evTill Tryd.prog [] 500 (99) 900 94 [.code (bodyOf Tryd.f94)] (envOf [vP 63] Tryd.f94.ntmps) (sentEnts 23 213 [(6, t1)] ++ (rdW 63 s (a : Nat))) ⟨[.t, .t, .t, .t, .s true, .s true, .s true, .s false, .t, .t, .t, .t, .s true, .s true, .s true, .s true], 80⟩) (endP ([]) (.tup [(true, tkT (4) ([33, 61]) (0) .vl0), (false, .ve0)]) (rdW 63 s (a + 2 : Nat)) 700) =
    (OkL [(decide ((0 : Int) ≤ (a : Int) ∧ (a : Int) ≤ (↑s.length : Int)), true), (decide ((↑(List.drop (a : Int).toNat (List.take s.length s)).length : Int) ≥ (↑(2 : Nat) : Int)), true), (decide ((0 : Int) ≤ (↑(2 : Nat) : Int) ∧ (↑(2 : Nat) : Int) ≤ (↑(List.drop (a : Int).toNat (List.take s.length s)).length : Int)), true), (List.drop (0 : Nat) (List.take (2 : Nat) (List.drop (a : Int).toNat (List.take s.length s))) == sgU [(0 : Nat)], false), (decide ((0 : Int) ≤ (a : Int) ∧ (a : Int) ≤ (↑s.length : Int)), true), (decide ((↑(List.drop (a : Int).toNat (List.take s.length s)).length : Int) ≥ (↑(2 : Nat) : Int)), true), (decide ((0 : Int) ≤ (↑(2 : Nat) : Int) ∧ (↑(2 : Nat) : Int) ≤ (↑(List.drop (a : Int).toNat (List.take s.length s)).length : Int)), true), (List.drop (0 : Nat) (List.take (2 : Nat) (List.drop (a : Int).toNat (List.take s.length s))) == sgU [(1 : Nat)], true)] ∧ (((4 : Int) = (4 : Int) ∧ [(33 : UInt8), (61 : UInt8)] = sgU [(1 : Nat)] ∧ (0 : Int) = (0 : Int) ∧ True ∧ (0 : Int) = (0 : Int)) ∧ True ∧ True) ∧ s = s ∧ (↑(a + (2 : Nat)) : Int) = IntKind.i64.wrap ((a : Int) + (↑(2 : Nat) : Int))) := by kernel_rfl

set_option maxHeartbeats 4000000 in
theorem sgNE (t1 s : List UInt8) (a : Nat) (ha : a < s.length) (hs : s.length ≤ 10000) (h1 : a + 1 < s.length) (h2 : s.getD a 0 = 33) (h3 : s.getD (a + 1) 0 = 61)  :
    RunsTo Tryd.prog 94 [.code (bodyOf Tryd.f94)] (envOf [vP 63] Tryd.f94.ntmps) (Sx.look (sentEnts 23 213 [(6, t1)] ++ (rdW 63 s (a : Nat)))) 80 (.tup [(true, tkT (4) ([33, 61]) (0) .vl0), (false, .ve0)]) (Sx.look (rdW 63 s (a + 2 : Nat))) 700 := by
  have hw1 : IntKind.i64.wrap ((a : Int) + 1) = ((a + 1 : Nat) : Int) := by rw [wr64 (by omega)]; rfl
  have hw2 : IntKind.i64.wrap ((a : Int) + 2) = ((a + 2 : Nat) : Int) := by rw [wr64 (by omega)]; omega
  have hl0 : (s.drop a).length = s.length - a := List.length_drop
  have ht1 : (s.drop a).take 1 = [s.getD a 0] := by rw [drop_at s ha]; rfl
  have ht2 : a + 1 < s.length → (s.drop a).take 2 = [s.getD a 0, s.getD (a + 1) 0] := fun q => by rw [drop_at s ha, drop_at s q]; rfl
  obtain ⟨hU0, hU1, hU2, hU3, hU4, hU5, hU6, hU7⟩ := sgAll
  have ht2' := ht2 h1
  rw [h2, h3] at ht2'
  rw [h2] at ht1
  refine runs_last baseO (Sx.Ends.of (sgNE_p0 t1 s a) ⟨(okc ?_ (okc ?_ (okc ?_ (okc ?_ (okc ?_ (okc ?_ (okc ?_ (okc ?_ okn)))))))), ?_⟩) (by kernel_rfl) rfl (gtL (by decide)) (by decide)
  all_goals first | (refine And.intro ?_ ?_ <;> ((try simp (disch := omega) only [SS, hU0, hU1, hU2, hU3, hU4, hU5, hU6, hU7, List.take_length, List.drop_zero, hl0, hw1, hw2, ht1, ht2']); (repeat' apply And.intro); (all_goals first | exact True.intro | with_reducible rfl | omega | (intros; first | exact True.intro | with_reducible rfl | omega | (simp_all; done)) | (simp_all; done) | rfl))) | (first | omega | (simp (disch := omega) only [SS, hU0, hU1, hU2, hU3, hU4, hU5, hU6, hU7, List.take_length, List.drop_zero, hl0, hw1, hw2, ht1, ht2']; first | done | omega | rfl | decide | (simp; omega) | (simp_all; done)) | (simp (disch := omega) only [SS, hU0, hU1, hU2, hU3, hU4, hU5, hU6, hU7, List.take_length, List.drop_zero, hl0, hw1, hw2, ht1, ht2'] at *; first | done | omega | rfl | decide | (rw [ht2 (by omega)]; simp; done) | (rw [ht2 (by omega)]; simp_all; done) | (rw [ht2' (by omega)]; simp; done) | (rw [ht2' (by omega)]; have := h3 (by omega); simp_all; done) | (rw [ht2 (by omega)]; have := n5 (by omega); simp_all; done) | (simp_all; done)))

theorem sgLE_p0 (t1 s : List UInt8) (a : Nat) :
    isEnd (evTill Tryd.prog [] 500 (99) 900 94 [.code (bodyOf Tryd.f94)] (envOf [vP 63] Tryd.f94.ntmps) (sentEnts 23 213 [(6, t1)] ++ (rdW 63 s (a : Nat))) ⟨[.t, .t, .t, .t, .s true, .s true, .s true, .s false, .t, .t, .t, .t, .s true, .s true, .s true, .s false, .t, .t, .t, .t, .s true, .s true, .s true, .s true], 80⟩) (endP ([]) (.tup [(true, tkT (4) ([60, 61]) (0) .vl0), (false, .ve0)]) (rdW 63 s (a + 2 : Nat)) 700) =
    (OkL [(decide ((0 : Int) ≤ (a : Int) ∧ (a : Int) ≤ (↑s.length : Int)), true), (decide ((↑(List.drop (a : Int).toNat (List.take s.length s)).length : Int) ≥ (↑(2 : Nat) : Int)), true), (decide ((0 : Int) ≤ (↑(2 : Nat) : Int) ∧ (↑(2 : Nat) : Int) ≤ (↑(List.drop (a : Int).toNat (List.take s.length s)).length : Int)), true), (List.drop (0 : Nat) (List.take (2 : Nat) (List.drop (a : Int).toNat (List.take s.length s))) == sgU [(0 : Nat)], false), (decide ((0 : Int) ≤ (a : Int) ∧ (a : Int) ≤ (↑s.length : Int)), true), (decide ((↑(List.drop (a : Int).toNat (List.take s.length s)).length : Int) ≥ (↑(2 : Nat) : Int)), true), (decide ((0 : Int) ≤ (↑(2 : Nat) : Int) ∧ (↑(2 : Nat) : Int) ≤ (↑(List.drop (a : Int).toNat (List.take s.length s)).length : Int)), true), (List.drop (0 : Nat) (List.take (2 : Nat) (List.drop (a : Int).toNat (List.take s.length s))) == sgU [(1 : Nat)], false), (decide ((0 : Int) ≤ (a : Int) ∧ (a : Int) ≤ (↑s.length : Int)), true), (decide ((↑(List.drop (a : Int).toNat (List.take s.length s)).length : Int) ≥ (↑(2 : Nat) : Int)), true), (decide ((0 : Int) ≤ (↑(2 : Nat) : Int) ∧ (↑(2 : Nat) : Int) ≤ (↑(List.drop (a : Int).toNat (List.take s.length s)).length : Int)), true), (List.drop (0 : Nat) (List.take (2 : Nat) (List.drop (a : Int).toNat (List.take s.length s))) == sgU [(2 : Nat)], true)] ∧ (((4 : Int) = (4 : Int) ∧ [(60 : UInt8), (61 : UInt8)] = sgU [(2 : Nat)] ∧ (0 : Int) = (0 : Int) ∧ True ∧ (0 : Int) = (0 : Int)) ∧ True ∧ True) ∧ s = s ∧ (↑(a + (2 : Nat)) : Int) = IntKind.i64.wrap ((a : Int) + (↑(2 : Nat) : Int))) := by kernel_rfl

set_option maxHeartbeats 4000000 in
theorem sgLE (t1 s : List UInt8) (a : Nat) (ha : a < s.length) (hs : s.length ≤ 10000) (h1 : a + 1 < s.length) (h2 : s.getD a 0 = 60) (h3 : s.getD (a + 1) 0 = 61)  :
    RunsTo Tryd.prog 94 [.code (bodyOf Tryd.f94)] (envOf [vP 63] Tryd.f94.ntmps) (Sx.look (sentEnts 23 213 [(6, t1)] ++ (rdW 63 s (a : Nat)))) 80 (.tup [(true, tkT (4) ([60, 61]) (0) .vl0), (false, .ve0)]) (Sx.look (rdW 63 s (a + 2 : Nat))) 700 := by
  have hw1 : IntKind.i64.wrap ((a : Int) + 1) = ((a + 1 : Nat) : Int) := by rw [wr64 (by omega)]; rfl
  have hw2 : IntKind.i64.wrap ((a : Int) + 2) = ((a + 2 : Nat) : Int) := by rw [wr64 (by omega)]; omega
  have hl0 : (s.drop a).length = s.length - a := List.length_drop
  have ht1 : (s.drop a).take 1 = [s.getD a 0] := by rw [drop_at s ha]; rfl
  have ht2 : a + 1 < s.length → (s.drop a).take 2 = [s.getD a 0, s.getD (a + 1) 0] := fun q => by rw [drop_at s ha, drop_at s q]; rfl
  obtain ⟨hU0, hU1, hU2, hU3, hU4, hU5, hU6, hU7⟩ := sgAll
  have ht2' := ht2 h1
  rw [h2, h3] at ht2'
  rw [h2] at ht1
  refine runs_last baseO (Sx.Ends.of (sgLE_p0 t1 s a) ⟨(okc ?_ (okc ?_ (okc ?_ (okc ?_ (okc ?_ (okc ?_ (okc ?_ (okc ?_ (okc ?_ (okc ?_ (okc ?_ (okc ?_ okn)))))))))))), ?_⟩) (by kernel_rfl) rfl (gtL (by decide)) (by decide)
  all_goals first | (refine And.intro ?_ ?_ <;> ((try simp (disch := omega) only [SS, hU0, hU1, hU2, hU3, hU4, hU5, hU6, hU7, List.take_length, List.drop_zero, hl0, hw1, hw2, ht1, ht2']); (repeat' apply And.intro); (all_goals first | exact True.intro | with_reducible rfl | omega | (intros; first | exact True.intro | with_reducible rfl | omega | (simp_all; done)) | (simp_all; done) | rfl))) | (first | omega | (simp (disch := omega) only [SS, hU0, hU1, hU2, hU3, hU4, hU5, hU6, hU7, List.take_length, List.drop_zero, hl0, hw1, hw2, ht1, ht2']; first | done | omega | rfl | decide | (simp; omega) | (simp_all; done)) | (simp (disch := omega) only [SS, hU0, hU1, hU2, hU3, hU4, hU5, hU6, hU7, List.take_length, List.drop_zero, hl0, hw1, hw2, ht1, ht2'] at *; first | done | omega | rfl | decide | (rw [ht2 (by omega)]; simp; done) | (rw [ht2 (by omega)]; simp_all; done) | (rw [ht2' (by omega)]; simp; done) | (rw [ht2' (by omega)]; have := h3 (by omega); simp_all; done) | (rw [ht2 (by omega)]; have := n5 (by omega); simp_all; done) | (simp_all; done)))

theorem sgGE_p0 (t1 s : List UInt8) (a : Nat) :
    isEnd (evTill Tryd.prog [] 500 (99) 900 94 [.code (bodyOf Tryd.f94)] (envOf [vP 63] Tryd.f94.ntmps) (sentEnts 23 213 [(6, t1)] ++ (rdW 63 s (a : Nat))) ⟨[.t, .t, .t, .t, .s true, .s true, .s true, .s false, .t, .t, .t, .t, .s true, .s true, .s true, .s false, .t, .t, .t, .t, .s true, .s true, .s true, .s false, .t, .t, .t, .t, .s true, .s true, .s true, .s true], 80⟩) (endP ([]) (.tup [(true, tkT (4) ([62, 61]) (0) .vl0), (false, .ve0)]) (rdW 63 s (a + 2 : Nat)) 700) =
    (OkL [(decide ((0 : Int) ≤ (a : Int) ∧ (a : Int) ≤ (↑s.length : Int)), true), (decide ((↑(List.drop (a : Int).toNat (List.take s.length s)).length : Int) ≥ (↑(2 : Nat) : Int)), true), (decide ((0 : Int) ≤ (↑(2 : Nat) : Int) ∧ (↑(2 : Nat) : Int) ≤ (↑(List.drop (a : Int).toNat (List.take s.length s)).length : Int)), true), (List.drop (0 : Nat) (List.take (2 : Nat) (List.drop (a : Int).toNat (List.take s.length s))) == sgU [(0 : Nat)], false), (decide ((0 : Int) ≤ (a : Int) ∧ (a : Int) ≤ (↑s.length : Int)), true), (decide ((↑(List.drop (a : Int).toNat (List.take s.length s)).length : Int) ≥ (↑(2 : Nat) : Int)), true), (decide ((0 : Int) ≤ (↑(2 : Nat) : Int) ∧ (↑(2 : Nat) : Int) ≤ (↑(List.drop (a : Int).toNat (List.take s.length s)).length : Int)), true), (List.drop (0 : Nat) (List.take (2 : Nat) (List.drop (a : Int).toNat (List.take s.length s))) == sgU [(1 : Nat)], false), (decide ((0 : Int) ≤ (a : Int) ∧ (a : Int) ≤ (↑s.length : Int)), true), (decide ((↑(List.drop (a : Int).toNat (List.take s.length s)).length : Int) ≥ (↑(2 : Nat) : Int)), true), (decide ((0 : Int) ≤ (↑(2 : Nat) : Int) ∧ (↑(2 : Nat) : Int) ≤ (↑(List.drop (a : Int).toNat (List.take s.length s)).length : Int)), true), (List.drop (0 : Nat) (List.take (2 : Nat) (List.drop (a : Int).toNat (List.take s.length s))) == sgU [(2 : Nat)], false), (decide ((0 : Int) ≤ (a : Int) ∧ (a : Int) ≤ (↑s.length : Int)), true), (decide ((↑(List.drop (a : Int).toNat (List.take s.length s)).length : Int) ≥ (↑(2 : Nat) : Int)), true), (decide ((0 : Int) ≤ (↑(2 : Nat) : Int) ∧ (↑(2 : Nat) : Int) ≤ (↑(List.drop (a : Int).toNat (List.take s.length s)).length : Int)), true), (List.drop (0 : Nat) (List.take (2 : Nat) (List.drop (a : Int).toNat (List.take s.length s))) == sgU [(3 : Nat)], true)] ∧ (((4 : Int) = (4 : Int) ∧ [(62 : UInt8), (61 : UInt8)] = sgU [(3 : Nat)] ∧ (0 : Int) = (0 : Int) ∧ True ∧ (0 : Int) = (0 : Int)) ∧ True ∧ True) ∧ s = s ∧ (↑(a + (2 : Nat)) : Int) = IntKind.i64.wrap ((a : Int) + (↑(2 : Nat) : Int))) := by kernel_rfl

set_option maxHeartbeats 4000000 in
theorem sgGE (t1 s : List UInt8) (a : Nat) (ha : a < s.length) (hs : s.length ≤ 10000) (h1 : a + 1 < s.length) (h2 : s.getD a 0 = 62) (h3 : s.getD (a + 1) 0 = 61)  :
    RunsTo Tryd.prog 94 [.code (bodyOf Tryd.f94)] (envOf [vP 63] Tryd.f94.ntmps) (Sx.look (sentEnts 23 213 [(6, t1)] ++ (rdW 63 s (a : Nat)))) 80 (.tup [(true, tkT (4) ([62, 61]) (0) .vl0), (false, .ve0)]) (Sx.look (rdW 63 s (a + 2 : Nat))) 700 := by
  have hw1 : IntKind.i64.wrap ((a : Int) + 1) = ((a + 1 : Nat) : Int) := by rw [wr64 (by omega)]; rfl
  have hw2 : IntKind.i64.wrap ((a : Int) + 2) = ((a + 2 : Nat) : Int) := by rw [wr64 (by omega)]; omega
  have hl0 : (s.drop a).length = s.length - a := List.length_drop
  have ht1 : (s.drop a).take 1 = [s.getD a 0] := by rw [drop_at s ha]; rfl
  have ht2 : a + 1 < s.length → (s.drop a).take 2 = [s.getD a 0, s.getD (a + 1) 0] := fun q => by rw [drop_at s ha, drop_at s q]; rfl
  obtain ⟨hU0, hU1, hU2, hU3, hU4, hU5, hU6, hU7⟩ := sgAll
  have ht2' := ht2 h1
  rw [h2, h3] at ht2'
  rw [h2] at ht1
  refine runs_last baseO (Sx.Ends.of (sgGE_p0 t1 s a) ⟨(okc ?_ (okc ?_ (okc ?_ (okc ?_ (okc ?_ (okc ?_ (okc ?_ (okc ?_ (okc ?_ (okc ?_ (okc ?_ (okc ?_ (okc ?_ (okc ?_ (okc ?_ (okc ?_ okn)))))))))))))))), ?_⟩) (by kernel_rfl) rfl (gtL (by decide)) (by decide)
  all_goals first | (refine And.intro ?_ ?_ <;> ((try simp (disch := omega) only [SS, hU0, hU1, hU2, hU3, hU4, hU5, hU6, hU7, List.take_length, List.drop_zero, hl0, hw1, hw2, ht1, ht2']); (repeat' apply And.intro); (all_goals first | exact True.intro | with_reducible rfl | omega | (intros; first | exact True.intro | with_reducible rfl | omega | (simp_all; done)) | (simp_all; done) | rfl))) | (first | omega | (simp (disch := omega) only [SS, hU0, hU1, hU2, hU3, hU4, hU5, hU6, hU7, List.take_length, List.drop_zero, hl0, hw1, hw2, ht1, ht2']; first | done | omega | rfl | decide | (simp; omega) | (simp_all; done)) | (simp (disch := omega) only [SS, hU0, hU1, hU2, hU3, hU4, hU5, hU6, hU7, List.take_length, List.drop_zero, hl0, hw1, hw2, ht1, ht2'] at *; first | done | omega | rfl | decide | (rw [ht2 (by omega)]; simp; done) | (rw [ht2 (by omega)]; simp_all; done) | (rw [ht2' (by omega)]; simp; done) | (rw [ht2' (by omega)]; have := h3 (by omega); simp_all; done) | (rw [ht2 (by omega)]; have := n5 (by omega); simp_all; done) | (simp_all; done)))

theorem sgL_p0 (t1 s : List UInt8) (a : Nat) :
    isEnd (evTill Tryd.prog [] 500 (99) 900 94 [.code (bodyOf Tryd.f94)] (envOf [vP 63] Tryd.f94.ntmps) (sentEnts 23 213 [(6, t1)] ++ (rdW 63 s (a : Nat))) ⟨[.t, .t, .t, .t, .s true, .s false, .f, .t, .t, .t, .t, .s true, .s false, .f, .t, .t, .t, .t, .s true, .s false, .f, .t, .t, .t, .t, .s true, .s false, .f, .t, .t, .t, .t, .s true, .s true, .s true, .s false, .t, .t, .t, .t, .s true, .s true, .s true, .s false, .t, .t, .t, .t, .s true, .s true, .s true, .s true], 80⟩) (endP ([]) (.tup [(true, tkT (4) ([60]) (0) .vl0), (false, .ve0)]) (rdW 63 s (a + 1 : Nat)) 700) =
    (OkL [(decide ((0 : Int) ≤ (a : Int) ∧ (a : Int) ≤ (↑s.length : Int)), true), (decide ((↑(List.drop (a : Int).toNat (List.take s.length s)).length : Int) ≥ (↑(2 : Nat) : Int)), false), (decide ((0 : Int) ≤ (a : Int) ∧ (a : Int) ≤ (↑s.length : Int)), true), (decide ((↑(List.drop (a : Int).toNat (List.take s.length s)).length : Int) ≥ (↑(2 : Nat) : Int)), false), (decide ((0 : Int) ≤ (a : Int) ∧ (a : Int) ≤ (↑s.length : Int)), true), (decide ((↑(List.drop (a : Int).toNat (List.take s.length s)).length : Int) ≥ (↑(2 : Nat) : Int)), false), (decide ((0 : Int) ≤ (a : Int) ∧ (a : Int) ≤ (↑s.length : Int)), true), (decide ((↑(List.drop (a : Int).toNat (List.take s.length s)).length : Int) ≥ (↑(2 : Nat) : Int)), false), (decide ((0 : Int) ≤ (a : Int) ∧ (a : Int) ≤ (↑s.length : Int)), true), (decide ((↑(List.drop (a : Int).toNat (List.take s.length s)).length : Int) ≥ (↑(1 : Nat) : Int)), true), (decide ((0 : Int) ≤ (↑(1 : Nat) : Int) ∧ (↑(1 : Nat) : Int) ≤ (↑(List.drop (a : Int).toNat (List.take s.length s)).length : Int)), true), (List.drop (0 : Nat) (List.take (1 : Nat) (List.drop (a : Int).toNat (List.take s.length s))) == sgU [(4 : Nat)], false), (decide ((0 : Int) ≤ (a : Int) ∧ (a : Int) ≤ (↑s.length : Int)), true), (decide ((↑(List.drop (a : Int).toNat (List.take s.length s)).length : Int) ≥ (↑(1 : Nat) : Int)), true), (decide ((0 : Int) ≤ (↑(1 : Nat) : Int) ∧ (↑(1 : Nat) : Int) ≤ (↑(List.drop (a : Int).toNat (List.take s.length s)).length : Int)), true), (List.drop (0 : Nat) (List.take (1 : Nat) (List.drop (a : Int).toNat (List.take s.length s))) == sgU [(5 : Nat)], false), (decide ((0 : Int) ≤ (a : Int) ∧ (a : Int) ≤ (↑s.length : Int)), true), (decide ((↑(List.drop (a : Int).toNat (List.take s.length s)).length : Int) ≥ (↑(1 : Nat) : Int)), true), (decide ((0 : Int) ≤ (↑(1 : Nat) : Int) ∧ (↑(1 : Nat) : Int) ≤ (↑(List.drop (a : Int).toNat (List.take s.length s)).length : Int)), true), (List.drop (0 : Nat) (List.take (1 : Nat) (List.drop (a : Int).toNat (List.take s.length s))) == sgU [(6 : Nat)], true)] ∧ (((4 : Int) = (4 : Int) ∧ [(60 : UInt8)] = sgU [(6 : Nat)] ∧ (0 : Int) = (0 : Int) ∧ True ∧ (0 : Int) = (0 : Int)) ∧ True ∧ True) ∧ s = s ∧ (↑(a + (1 : Nat)) : Int) = IntKind.i64.wrap ((a : Int) + (↑(1 : Nat) : Int))) := by kernel_rfl
theorem sgL_p1 (t1 s : List UInt8) (a : Nat) :
    isEnd (evTill Tryd.prog [] 500 (99) 900 94 [.code (bodyOf Tryd.f94)] (envOf [vP 63] Tryd.f94.ntmps) (sentEnts 23 213 [(6, t1)] ++ (rdW 63 s (a : Nat))) ⟨[.t, .t, .t, .t, .s true, .s true, .s true, .s false, .t, .t, .t, .t, .s true, .s true, .s true, .s false, .t, .t, .t, .t, .s true, .s true, .s true, .s false, .t, .t, .t, .t, .s true, .s true, .s true, .s false, .t, .t, .t, .t, .s true, .s true, .s true, .s false, .t, .t, .t, .t, .s true, .s true, .s true, .s false, .t, .t, .t, .t, .s true, .s true, .s true, .s true], 80⟩) (endP ([]) (.tup [(true, tkT (4) ([60]) (0) .vl0), (false, .ve0)]) (rdW 63 s (a + 1 : Nat)) 700) =
    (OkL [(decide ((0 : Int) ≤ (a : Int) ∧ (a : Int) ≤ (↑s.length : Int)), true), (decide ((↑(List.drop (a : Int).toNat (List.take s.length s)).length : Int) ≥ (↑(2 : Nat) : Int)), true), (decide ((0 : Int) ≤ (↑(2 : Nat) : Int) ∧ (↑(2 : Nat) : Int) ≤ (↑(List.drop (a : Int).toNat (List.take s.length s)).length : Int)), true), (List.drop (0 : Nat) (List.take (2 : Nat) (List.drop (a : Int).toNat (List.take s.length s))) == sgU [(0 : Nat)], false), (decide ((0 : Int) ≤ (a : Int) ∧ (a : Int) ≤ (↑s.length : Int)), true), (decide ((↑(List.drop (a : Int).toNat (List.take s.length s)).length : Int) ≥ (↑(2 : Nat) : Int)), true), (decide ((0 : Int) ≤ (↑(2 : Nat) : Int) ∧ (↑(2 : Nat) : Int) ≤ (↑(List.drop (a : Int).toNat (List.take s.length s)).length : Int)), true), (List.drop (0 : Nat) (List.take (2 : Nat) (List.drop (a : Int).toNat (List.take s.length s))) == sgU [(1 : Nat)], false), (decide ((0 : Int) ≤ (a : Int) ∧ (a : Int) ≤ (↑s.length : Int)), true), (decide ((↑(List.drop (a : Int).toNat (List.take s.length s)).length : Int) ≥ (↑(2 : Nat) : Int)), true), (decide ((0 : Int) ≤ (↑(2 : Nat) : Int) ∧ (↑(2 : Nat) : Int) ≤ (↑(List.drop (a : Int).toNat (List.take s.length s)).length : Int)), true), (List.drop (0 : Nat) (List.take (2 : Nat) (List.drop (a : Int).toNat (List.take s.length s))) == sgU [(2 : Nat)], false), (decide ((0 : Int) ≤ (a : Int) ∧ (a : Int) ≤ (↑s.length : Int)), true), (decide ((↑(List.drop (a : Int).toNat (List.take s.length s)).length : Int) ≥ (↑(2 : Nat) : Int)), true), (decide ((0 : Int) ≤ (↑(2 : Nat) : Int) ∧ (↑(2 : Nat) : Int) ≤ (↑(List.drop (a : Int).toNat (List.take s.length s)).length : Int)), true), (List.drop (0 : Nat) (List.take (2 : Nat) (List.drop (a : Int).toNat (List.take s.length s))) == sgU [(3 : Nat)], false), (decide ((0 : Int) ≤ (a : Int) ∧ (a : Int) ≤ (↑s.length : Int)), true), (decide ((↑(List.drop (a : Int).toNat (List.take s.length s)).length : Int) ≥ (↑(1 : Nat) : Int)), true), (decide ((0 : Int) ≤ (↑(1 : Nat) : Int) ∧ (↑(1 : Nat) : Int) ≤ (↑(List.drop (a : Int).toNat (List.take s.length s)).length : Int)), true), (List.drop (0 : Nat) (List.take (1 : Nat) (List.drop (a : Int).toNat (List.take s.length s))) == sgU [(4 : Nat)], false), (decide ((0 : Int) ≤ (a : Int) ∧ (a : Int) ≤ (↑s.length : Int)), true), (decide ((↑(List.drop (a : Int).toNat (List.take s.length s)).length : Int) ≥ (↑(1 : Nat) : Int)), true), (decide ((0 : Int) ≤ (↑(1 : Nat) : Int) ∧ (↑(1 : Nat) : Int) ≤ (↑(List.drop (a : Int).toNat (List.take s.length s)).length : Int)), true), (List.drop (0 : Nat) (List.take (1 : Nat) (List.drop (a : Int).toNat (List.take s.length s))) == sgU [(5 : Nat)], false), (decide ((0 : Int) ≤ (a : Int) ∧ (a : Int) ≤ (↑s.length : Int)), true), (decide ((↑(List.drop (a : Int).toNat (List.take s.length s)).length : Int) ≥ (↑(1 : Nat) : Int)), true), (decide ((0 : Int) ≤ (↑(1 : Nat) : Int) ∧ (↑(1 : Nat) : Int) ≤ (↑(List.drop (a : Int).toNat (List.take s.length s)).length : Int)), true), (List.drop (0 : Nat) (List.take (1 : Nat) (List.drop (a : Int).toNat (List.take s.length s))) == sgU [(6 : Nat)], true)] ∧ (((4 : Int) = (4 : Int) ∧ [(60 : UInt8)] = sgU [(6 : Nat)] ∧ (0 : Int) = (0 : Int) ∧ True ∧ (0 : Int) = (0 : Int)) ∧ True ∧ True) ∧ s = s ∧ (↑(a + (1 : Nat)) : Int) = IntKind.i64.wrap ((a : Int) + (↑(1 : Nat) : Int))) := by kernel_rfl

set_option maxHeartbeats 4000000 in
theorem sgL (t1 s : List UInt8) (a : Nat) (ha : a < s.length) (hs : s.length ≤ 10000) (h2 : s.getD a 0 = 60) (h3 : a + 1 < s.length → s.getD (a + 1) 0 ≠ 61)  :
    RunsTo Tryd.prog 94 [.code (bodyOf Tryd.f94)] (envOf [vP 63] Tryd.f94.ntmps) (Sx.look (sentEnts 23 213 [(6, t1)] ++ (rdW 63 s (a : Nat)))) 80 (.tup [(true, tkT (4) ([60]) (0) .vl0), (false, .ve0)]) (Sx.look (rdW 63 s (a + 1 : Nat))) 700 := by
  have hw1 : IntKind.i64.wrap ((a : Int) + 1) = ((a + 1 : Nat) : Int) := by rw [wr64 (by omega)]; rfl
  have hw2 : IntKind.i64.wrap ((a : Int) + 2) = ((a + 2 : Nat) : Int) := by rw [wr64 (by omega)]; omega
  have hl0 : (s.drop a).length = s.length - a := List.length_drop
  have ht1 : (s.drop a).take 1 = [s.getD a 0] := by rw [drop_at s ha]; rfl
  have ht2 : a + 1 < s.length → (s.drop a).take 2 = [s.getD a 0, s.getD (a + 1) 0] := fun q => by rw [drop_at s ha, drop_at s q]; rfl
  obtain ⟨hU0, hU1, hU2, hU3, hU4, hU5, hU6, hU7⟩ := sgAll
  rw [h2] at ht1
  have ht2' : a + 1 < s.length → (s.drop a).take 2 = [60, s.getD (a + 1) 0] := fun q => by rw [ht2 q, h2]
  refine bcase (c := (decide ((↑(List.drop (↑a : Int).toNat (List.take s.length s)).length : Int) ≥ (↑(2 : Nat) : Int)))) (fun gg0 => (runs_last baseO (Sx.Ends.of (sgL_p0 t1 s a) ⟨(okc ?_ (okc gg0 (okc ?_ (okc gg0 (okc ?_ (okc gg0 (okc ?_ (okc gg0 (okc ?_ (okc ?_ (okc ?_ (okc ?_ (okc ?_ (okc ?_ (okc ?_ (okc ?_ (okc ?_ (okc ?_ (okc ?_ (okc ?_ okn)))))))))))))))))))), ?_⟩) (by kernel_rfl) rfl (gtL (by decide)) (by decide))) (fun gg0 => (runs_last baseO (Sx.Ends.of (sgL_p1 t1 s a) ⟨(okc ?_ (okc gg0 (okc ?_ (okc ?_ (okc ?_ (okc gg0 (okc ?_ (okc ?_ (okc ?_ (okc gg0 (okc ?_ (okc ?_ (okc ?_ (okc gg0 (okc ?_ (okc ?_ (okc ?_ (okc ?_ (okc ?_ (okc ?_ (okc ?_ (okc ?_ (okc ?_ (okc ?_ (okc ?_ (okc ?_ (okc ?_ (okc ?_ okn)))))))))))))))))))))))))))), ?_⟩) (by kernel_rfl) rfl (gtL (by decide)) (by decide)))
  all_goals first | (refine And.intro ?_ ?_ <;> ((try simp (disch := omega) only [SS, hU0, hU1, hU2, hU3, hU4, hU5, hU6, hU7, List.take_length, List.drop_zero, hl0, hw1, hw2, ht1, h2]); (repeat' apply And.intro); (all_goals first | exact True.intro | with_reducible rfl | omega | (intros; first | exact True.intro | with_reducible rfl | omega | (simp_all; done)) | (simp_all; done) | rfl))) | (first | omega | (simp (disch := omega) only [SS, hU0, hU1, hU2, hU3, hU4, hU5, hU6, hU7, List.take_length, List.drop_zero, hl0, hw1, hw2, ht1, h2]; first | done | omega | rfl | decide | (simp; omega) | (simp_all; done)) | (simp (disch := omega) only [SS, hU0, hU1, hU2, hU3, hU4, hU5, hU6, hU7, List.take_length, List.drop_zero, hl0, hw1, hw2, ht1, h2] at *; first | done | omega | rfl | decide | (rw [ht2 (by omega)]; simp; done) | (rw [ht2 (by omega)]; simp_all; done) | (rw [ht2' (by omega)]; simp; done) | (rw [ht2' (by omega)]; have := h3 (by omega); simp_all; done) | (rw [ht2 (by omega)]; have := n5 (by omega); simp_all; done) | (simp_all; done)))

theorem sgG_p0 (t1 s : List UInt8) (a : Nat) :
    isEnd (evTill Tryd.prog [] 500 (99) 900 94 [.code (bodyOf Tryd.f94)] (envOf [vP 63] Tryd.f94.ntmps) (sentEnts 23 213 [(6, t1)] ++ (rdW 63 s (a : Nat))) ⟨[.t, .t, .t, .t, .s true, .s false, .f, .t, .t, .t, .t, .s true, .s false, .f, .t, .t, .t, .t, .s true, .s false, .f, .t, .t, .t, .t, .s true, .s false, .f, .t, .t, .t, .t, .s true, .s true, .s true, .s false, .t, .t, .t, .t, .s true, .s true, .s true, .s false, .t, .t, .t, .t, .s true, .s true, .s true, .s false, .t, .t, .t, .t, .s true, .s true, .s true, .s true], 80⟩) (endP ([]) (.tup [(true, tkT (4) ([62]) (0) .vl0), (false, .ve0)]) (rdW 63 s (a + 1 : Nat)) 700) =
    (OkL [(decide ((0 : Int) ≤ (a : Int) ∧ (a : Int) ≤ (↑s.length : Int)), true), (decide ((↑(List.drop (a : Int).toNat (List.take s.length s)).length : Int) ≥ (↑(2 : Nat) : Int)), false), (decide ((0 : Int) ≤ (a : Int) ∧ (a : Int) ≤ (↑s.length : Int)), true), (decide ((↑(List.drop (a : Int).toNat (List.take s.length s)).length : Int) ≥ (↑(2 : Nat) : Int)), false), (decide ((0 : Int) ≤ (a : Int) ∧ (a : Int) ≤ (↑s.length : Int)), true), (decide ((↑(List.drop (a : Int).toNat (List.take s.length s)).length : Int) ≥ (↑(2 : Nat) : Int)), false), (decide ((0 : Int) ≤ (a : Int) ∧ (a : Int) ≤ (↑s.length : Int)), true), (decide ((↑(List.drop (a : Int).toNat (List.take s.length s)).length : Int) ≥ (↑(2 : Nat) : Int)), false), (decide ((0 : Int) ≤ (a : Int) ∧ (a : Int) ≤ (↑s.length : Int)), true), (decide ((↑(List.drop (a : Int).toNat (List.take s.length s)).length : Int) ≥ (↑(1 : Nat) : Int)), true), (decide ((0 : Int) ≤ (↑(1 : Nat) : Int) ∧ (↑(1 : Nat) : Int) ≤ (↑(List.drop (a : Int).toNat (List.take s.length s)).length : Int)), true), (List.drop (0 : Nat) (List.take (1 : Nat) (List.drop (a : Int).toNat (List.take s.length s))) == sgU [(4 : Nat)], false), (decide ((0 : Int) ≤ (a : Int) ∧ (a : Int) ≤ (↑s.length : Int)), true), (decide ((↑(List.drop (a : Int).toNat (List.take s.length s)).length : Int) ≥ (↑(1 : Nat) : Int)), true), (decide ((0 : Int) ≤ (↑(1 : Nat) : Int) ∧ (↑(1 : Nat) : Int) ≤ (↑(List.drop (a : Int).toNat (List.take s.length s)).length : Int)), true), (List.drop (0 : Nat) (List.take (1 : Nat) (List.drop (a : Int).toNat (List.take s.length s))) == sgU [(5 : Nat)], false), (decide ((0 : Int) ≤ (a : Int) ∧ (a : Int) ≤ (↑s.length : Int)), true), (decide ((↑(List.drop (a : Int).toNat (List.take s.length s)).length : Int) ≥ (↑(1 : Nat) : Int)), true), (decide ((0 : Int) ≤ (↑(1 : Nat) : Int) ∧ (↑(1 : Nat) : Int) ≤ (↑(List.drop (a : Int).toNat (List.take s.length s)).length : Int)), true), (List.drop (0 : Nat) (List.take (1 : Nat) (List.drop (a : Int).toNat (List.take s.length s))) == sgU [(6 : Nat)], false), (decide ((0 : Int) ≤ (a : Int) ∧ (a : Int) ≤ (↑s.length : Int)), true), (decide ((↑(List.drop (a : Int).toNat (List.take s.length s)).length : Int) ≥ (↑(1 : Nat) : Int)), true), (decide ((0 : Int) ≤ (↑(1 : Nat) : Int) ∧ (↑(1 : Nat) : Int) ≤ (↑(List.drop (a : Int).toNat (List.take s.length s)).length : Int)), true), (List.drop (0 : Nat) (List.take (1 : Nat) (List.drop (a : Int).toNat (List.take s.length s))) == sgU [(7 : Nat)], true)] ∧ (((4 : Int) = (4 : Int) ∧ [(62 : UInt8)] = sgU [(7 : Nat)] ∧ (0 : Int) = (0 : Int) ∧ True ∧ (0 : Int) = (0 : Int)) ∧ True ∧ True) ∧ s = s ∧ (↑(a + (1 : Nat)) : Int) = IntKind.i64.wrap ((a : Int) + (↑(1 : Nat) : Int))) := by kernel_rfl
theorem sgG_p1 (t1 s : List UInt8) (a : Nat) :
    isEnd (evTill Tryd.prog [] 500 (99) 900 94 [.code (bodyOf Tryd.f94)] (envOf [vP 63] Tryd.f94.ntmps) (sentEnts 23 213 [(6, t1)] ++ (rdW 63 s (a : Nat))) ⟨[.t, .t, .t, .t, .s true, .s true, .s true, .s false, .t, .t, .t, .t, .s true, .s true, .s true, .s false, .t, .t, .t, .t, .s true, .s true, .s true, .s false, .t, .t, .t, .t, .s true, .s true, .s true, .s false, .t, .t, .t, .t, .s true, .s true, .s true, .s false, .t, .t, .t, .t, .s true, .s true, .s true, .s false, .t, .t, .t, .t, .s true, .s true, .s true, .s false, .t, .t, .t, .t, .s true, .s true, .s true, .s true], 80⟩) (endP ([]) (.tup [(true, tkT (4) ([62]) (0) .vl0), (false, .ve0)]) (rdW 63 s (a + 1 : Nat)) 700) =
    (OkL [(decide ((0 : Int) ≤ (a : Int) ∧ (a : Int) ≤ (↑s.length : Int)), true), (decide ((↑(List.drop (a : Int).toNat (List.take s.length s)).length : Int) ≥ (↑(2 : Nat) : Int)), true), (decide ((0 : Int) ≤ (↑(2 : Nat) : Int) ∧ (↑(2 : Nat) : Int) ≤ (↑(List.drop (a : Int).toNat (List.take s.length s)).length : Int)), true), (List.drop (0 : Nat) (List.take (2 : Nat) (List.drop (a : Int).toNat (List.take s.length s))) == sgU [(0 : Nat)], false), (decide ((0 : Int) ≤ (a : Int) ∧ (a : Int) ≤ (↑s.length : Int)), true), (decide ((↑(List.drop (a : Int).toNat (List.take s.length s)).length : Int) ≥ (↑(2 : Nat) : Int)), true), (decide ((0 : Int) ≤ (↑(2 : Nat) : Int) ∧ (↑(2 : Nat) : Int) ≤ (↑(List.drop (a : Int).toNat (List.take s.length s)).length : Int)), true), (List.drop (0 : Nat) (List.take (2 : Nat) (List.drop (a : Int).toNat (List.take s.length s))) == sgU [(1 : Nat)], false), (decide ((0 : Int) ≤ (a : Int) ∧ (a : Int) ≤ (↑s.length : Int)), true), (decide ((↑(List.drop (a : Int).toNat (List.take s.length s)).length : Int) ≥ (↑(2 : Nat) : Int)), true), (decide ((0 : Int) ≤ (↑(2 : Nat) : Int) ∧ (↑(2 : Nat) : Int) ≤ (↑(List.drop (a : Int).toNat (List.take s.length s)).length : Int)), true), (List.drop (0 : Nat) (List.take (2 : Nat) (List.drop (a : Int).toNat (List.take s.length s))) == sgU [(2 : Nat)], false), (decide ((0 : Int) ≤ (a : Int) ∧ (a : Int) ≤ (↑s.length : Int)), true), (decide ((↑(List.drop (a : Int).toNat (List.take s.length s)).length : Int) ≥ (↑(2 : Nat) : Int)), true), (decide ((0 : Int) ≤ (↑(2 : Nat) : Int) ∧ (↑(2 : Nat) : Int) ≤ (↑(List.drop (a : Int).toNat (List.take s.length s)).length : Int)), true), (List.drop (0 : Nat) (List.take (2 : Nat) (List.drop (a : Int).toNat (List.take s.length s))) == sgU [(3 : Nat)], false), (decide ((0 : Int) ≤ (a : Int) ∧ (a : Int) ≤ (↑s.length : Int)), true), (decide ((↑(List.drop (a : Int).toNat (List.take s.length s)).length : Int) ≥ (↑(1 : Nat) : Int)), true), (decide ((0 : Int) ≤ (↑(1 : Nat) : Int) ∧ (↑(1 : Nat) : Int) ≤ (↑(List.drop (a : Int).toNat (List.take s.length s)).length : Int)), true), (List.drop (0 : Nat) (List.take (1 : Nat) (List.drop (a : Int).toNat (List.take s.length s))) == sgU [(4 : Nat)], false), (decide ((0 : Int) ≤ (a : Int) ∧ (a : Int) ≤ (↑s.length : Int)), true), (decide ((↑(List.drop (a : Int).toNat (List.take s.length s)).length : Int) ≥ (↑(1 : Nat) : Int)), true), (decide ((0 : Int) ≤ (↑(1 : Nat) : Int) ∧ (↑(1 : Nat) : Int) ≤ (↑(List.drop (a : Int).toNat (List.take s.length s)).length : Int)), true), (List.drop (0 : Nat) (List.take (1 : Nat) (List.drop (a : Int).toNat (List.take s.length s))) == sgU [(5 : Nat)], false), (decide ((0 : Int) ≤ (a : Int) ∧ (a : Int) ≤ (↑s.length : Int)), true), (decide ((↑(List.drop (a : Int).toNat (List.take s.length s)).length : Int) ≥ (↑(1 : Nat) : Int)), true), (decide ((0 : Int) ≤ (↑(1 : Nat) : Int) ∧ (↑(1 : Nat) : Int) ≤ (↑(List.drop (a : Int).toNat (List.take s.length s)).length : Int)), true), (List.drop (0 : Nat) (List.take (1 : Nat) (List.drop (a : Int).toNat (List.take s.length s))) == sgU [(6 : Nat)], false), (decide ((0 : Int) ≤ (a : Int) ∧ (a : Int) ≤ (↑s.length : Int)), true), (decide ((↑(List.drop (a : Int).toNat (List.take s.length s)).length : Int) ≥ (↑(1 : Nat) : Int)), true), (decide ((0 : Int) ≤ (↑(1 : Nat) : Int) ∧ (↑(1 : Nat) : Int) ≤ (↑(List.drop (a : Int).toNat (List.take s.length s)).length : Int)), true), (List.drop (0 : Nat) (List.take (1 : Nat) (List.drop (a : Int).toNat (List.take s.length s))) == sgU [(7 : Nat)], true)] ∧ (((4 : Int) = (4 : Int) ∧ [(62 : UInt8)] = sgU [(7 : Nat)] ∧ (0 : Int) = (0 : Int) ∧ True ∧ (0 : Int) = (0 : Int)) ∧ True ∧ True) ∧ s = s ∧ (↑(a + (1 : Nat)) : Int) = IntKind.i64.wrap ((a : Int) + (↑(1 : Nat) : Int))) := by kernel_rfl

set_option maxHeartbeats 4000000 in
theorem sgG (t1 s : List UInt8) (a : Nat) (ha : a < s.length) (hs : s.length ≤ 10000) (h2 : s.getD a 0 = 62) (h3 : a + 1 < s.length → s.getD (a + 1) 0 ≠ 61)  :
    RunsTo Tryd.prog 94 [.code (bodyOf Tryd.f94)] (envOf [vP 63] Tryd.f94.ntmps) (Sx.look (sentEnts 23 213 [(6, t1)] ++ (rdW 63 s (a : Nat)))) 80 (.tup [(true, tkT (4) ([62]) (0) .vl0), (false, .ve0)]) (Sx.look (rdW 63 s (a + 1 : Nat))) 700 := by
  have hw1 : IntKind.i64.wrap ((a : Int) + 1) = ((a + 1 : Nat) : Int) := by rw [wr64 (by omega)]; rfl
  have hw2 : IntKind.i64.wrap ((a : Int) + 2) = ((a + 2 : Nat) : Int) := by rw [wr64 (by omega)]; omega
  have hl0 : (s.drop a).length = s.length - a := List.length_drop
  have ht1 : (s.drop a).take 1 = [s.getD a 0] := by rw [drop_at s ha]; rfl
  have ht2 : a + 1 < s.length → (s.drop a).take 2 = [s.getD a 0, s.getD (a + 1) 0] := fun q => by rw [drop_at s ha, drop_at s q]; rfl
  obtain ⟨hU0, hU1, hU2, hU3, hU4, hU5, hU6, hU7⟩ := sgAll
  rw [h2] at ht1
  have ht2' : a + 1 < s.length → (s.drop a).take 2 = [62, s.getD (a + 1) 0] := fun q => by rw [ht2 q, h2]
  refine bcase (c := (decide ((↑(List.drop (↑a : Int).toNat (List.take s.length s)).length : Int) ≥ (↑(2 : Nat) : Int)))) (fun gg0 => (runs_last baseO (Sx.Ends.of (sgG_p0 t1 s a) ⟨(okc ?_ (okc gg0 (okc ?_ (okc gg0 (okc ?_ (okc gg0 (okc ?_ (okc gg0 (okc ?_ (okc ?_ (okc ?_ (okc ?_ (okc ?_ (okc ?_ (okc ?_ (okc ?_ (okc ?_ (okc ?_ (okc ?_ (okc ?_ (okc ?_ (okc ?_ (okc ?_ (okc ?_ okn)))))))))))))))))))))))), ?_⟩) (by kernel_rfl) rfl (gtL (by decide)) (by decide))) (fun gg0 => (runs_last baseO (Sx.Ends.of (sgG_p1 t1 s a) ⟨(okc ?_ (okc gg0 (okc ?_ (okc ?_ (okc ?_ (okc gg0 (okc ?_ (okc ?_ (okc ?_ (okc gg0 (okc ?_ (okc ?_ (okc ?_ (okc gg0 (okc ?_ (okc ?_ (okc ?_ (okc ?_ (okc ?_ (okc ?_ (okc ?_ (okc ?_ (okc ?_ (okc ?_ (okc ?_ (okc ?_ (okc ?_ (okc ?_ (okc ?_ (okc ?_ (okc ?_ (okc ?_ okn)))))))))))))))))))))))))))))))), ?_⟩) (by kernel_rfl) rfl (gtL (by decide)) (by decide)))
  all_goals first | (refine And.intro ?_ ?_ <;> ((try simp (disch := omega) only [SS, hU0, hU1, hU2, hU3, hU4, hU5, hU6, hU7, List.take_length, List.drop_zero, hl0, hw1, hw2, ht1, h2]); (repeat' apply And.intro); (all_goals first | exact True.intro | with_reducible rfl | omega | (intros; first | exact True.intro | with_reducible rfl | omega | (simp_all; done)) | (simp_all; done) | rfl))) | (first | omega | (simp (disch := omega) only [SS, hU0, hU1, hU2, hU3, hU4, hU5, hU6, hU7, List.take_length, List.drop_zero, hl0, hw1, hw2, ht1, h2]; first | done | omega | rfl | decide | (simp; omega) | (simp_all; done)) | (simp (disch := omega) only [SS, hU0, hU1, hU2, hU3, hU4, hU5, hU6, hU7, List.take_length, List.drop_zero, hl0, hw1, hw2, ht1, h2] at *; first | done | omega | rfl | decide | (rw [ht2 (by omega)]; simp; done) | (rw [ht2 (by omega)]; simp_all; done) | (rw [ht2' (by omega)]; simp; done) | (rw [ht2' (by omega)]; have := h3 (by omega); simp_all; done) | (rw [ht2 (by omega)]; have := n5 (by omega); simp_all; done) | (simp_all; done)))

theorem sgO_p0 (t1 s : List UInt8) (a : Nat) :
    isEnd (evTill Tryd.prog [] 500 (99) 900 94 [.code (bodyOf Tryd.f94)] (envOf [vP 63] Tryd.f94.ntmps) (sentEnts 23 213 [(6, t1)] ++ (rdW 63 s (a : Nat))) ⟨[.t, .t, .t, .t, .s true, .s false, .f, .t, .t, .t, .t, .s true, .s false, .f, .t, .t, .t, .t, .s true, .s false, .f, .t, .t, .t, .t, .s true, .s false, .f, .t, .t, .t, .t, .s true, .s true, .s true, .s true], 80⟩) (endP ([]) (.tup [(true, tkT (4) ([123]) (0) .vl0), (false, .ve0)]) (rdW 63 s (a + 1 : Nat)) 700) =
    (OkL [(decide ((0 : Int) ≤ (a : Int) ∧ (a : Int) ≤ (↑s.length : Int)), true), (decide ((↑(List.drop (a : Int).toNat (List.take s.length s)).length : Int) ≥ (↑(2 : Nat) : Int)), false), (decide ((0 : Int) ≤ (a : Int) ∧ (a : Int) ≤ (↑s.length : Int)), true), (decide ((↑(List.drop (a : Int).toNat (List.take s.length s)).length : Int) ≥ (↑(2 : Nat) : Int)), false), (decide ((0 : Int) ≤ (a : Int) ∧ (a : Int) ≤ (↑s.length : Int)), true), (decide ((↑(List.drop (a : Int).toNat (List.take s.length s)).length : Int) ≥ (↑(2 : Nat) : Int)), false), (decide ((0 : Int) ≤ (a : Int) ∧ (a : Int) ≤ (↑s.length : Int)), true), (decide ((↑(List.drop (a : Int).toNat (List.take s.length s)).length : Int) ≥ (↑(2 : Nat) : Int)), false), (decide ((0 : Int) ≤ (a : Int) ∧ (a : Int) ≤ (↑s.length : Int)), true), (decide ((↑(List.drop (a : Int).toNat (List.take s.length s)).length : Int) ≥ (↑(1 : Nat) : Int)), true), (decide ((0 : Int) ≤ (↑(1 : Nat) : Int) ∧ (↑(1 : Nat) : Int) ≤ (↑(List.drop (a : Int).toNat (List.take s.length s)).length : Int)), true), (List.drop (0 : Nat) (List.take (1 : Nat) (List.drop (a : Int).toNat (List.take s.length s))) == sgU [(4 : Nat)], true)] ∧ (((4 : Int) = (4 : Int) ∧ [(123 : UInt8)] = sgU [(4 : Nat)] ∧ (0 : Int) = (0 : Int) ∧ True ∧ (0 : Int) = (0 : Int)) ∧ True ∧ True) ∧ s = s ∧ (↑(a + (1 : Nat)) : Int) = IntKind.i64.wrap ((a : Int) + (↑(1 : Nat) : Int))) := by kernel_rfl
theorem sgO_p1 (t1 s : List UInt8) (a : Nat) :
    isEnd (evTill Tryd.prog [] 500 (99) 900 94 [.code (bodyOf Tryd.f94)] (envOf [vP 63] Tryd.f94.ntmps) (sentEnts 23 213 [(6, t1)] ++ (rdW 63 s (a : Nat))) ⟨[.t, .t, .t, .t, .s true, .s true, .s true, .s false, .t, .t, .t, .t, .s true, .s true, .s true, .s false, .t, .t, .t, .t, .s true, .s true, .s true, .s false, .t, .t, .t, .t, .s true, .s true, .s true, .s false, .t, .t, .t, .t, .s true, .s true, .s true, .s true], 80⟩) (endP ([]) (.tup [(true, tkT (4) ([123]) (0) .vl0), (false, .ve0)]) (rdW 63 s (a + 1 : Nat)) 700) =
    (OkL [(decide ((0 : Int) ≤ (a : Int) ∧ (a : Int) ≤ (↑s.length : Int)), true), (decide ((↑(List.drop (a : Int).toNat (List.take s.length s)).length : Int) ≥ (↑(2 : Nat) : Int)), true), (decide ((0 : Int) ≤ (↑(2 : Nat) : Int) ∧ (↑(2 : Nat) : Int) ≤ (↑(List.drop (a : Int).toNat (List.take s.length s)).length : Int)), true), (List.drop (0 : Nat) (List.take (2 : Nat) (List.drop (a : Int).toNat (List.take s.length s))) == sgU [(0 : Nat)], false), (decide ((0 : Int) ≤ (a : Int) ∧ (a : Int) ≤ (↑s.length : Int)), true), (decide ((↑(List.drop (a : Int).toNat (List.take s.length s)).length : Int) ≥ (↑(2 : Nat) : Int)), true), (decide ((0 : Int) ≤ (↑(2 : Nat) : Int) ∧ (↑(2 : Nat) : Int) ≤ (↑(List.drop (a : Int).toNat (List.take s.length s)).length : Int)), true), (List.drop (0 : Nat) (List.take (2 : Nat) (List.drop (a : Int).toNat (List.take s.length s))) == sgU [(1 : Nat)], false), (decide ((0 : Int) ≤ (a : Int) ∧ (a : Int) ≤ (↑s.length : Int)), true), (decide ((↑(List.drop (a : Int).toNat (List.take s.length s)).length : Int) ≥ (↑(2 : Nat) : Int)), true), (decide ((0 : Int) ≤ (↑(2 : Nat) : Int) ∧ (↑(2 : Nat) : Int) ≤ (↑(List.drop (a : Int).toNat (List.take s.length s)).length : Int)), true), (List.drop (0 : Nat) (List.take (2 : Nat) (List.drop (a : Int).toNat (List.take s.length s))) == sgU [(2 : Nat)], false), (decide ((0 : Int) ≤ (a : Int) ∧ (a : Int) ≤ (↑s.length : Int)), true), (decide ((↑(List.drop (a : Int).toNat (List.take s.length s)).length : Int) ≥ (↑(2 : Nat) : Int)), true), (decide ((0 : Int) ≤ (↑(2 : Nat) : Int) ∧ (↑(2 : Nat) : Int) ≤ (↑(List.drop (a : Int).toNat (List.take s.length s)).length : Int)), true), (List.drop (0 : Nat) (List.take (2 : Nat) (List.drop (a : Int).toNat (List.take s.length s))) == sgU [(3 : Nat)], false), (decide ((0 : Int) ≤ (a : Int) ∧ (a : Int) ≤ (↑s.length : Int)), true), (decide ((↑(List.drop (a : Int).toNat (List.take s.length s)).length : Int) ≥ (↑(1 : Nat) : Int)), true), (decide ((0 : Int) ≤ (↑(1 : Nat) : Int) ∧ (↑(1 : Nat) : Int) ≤ (↑(List.drop (a : Int).toNat (List.take s.length s)).length : Int)), true), (List.drop (0 : Nat) (List.take (1 : Nat) (List.drop (a : Int).toNat (List.take s.length s))) == sgU [(4 : Nat)], true)] ∧ (((4 : Int) = (4 : Int) ∧ [(123 : UInt8)] = sgU [(4 : Nat)] ∧ (0 : Int) = (0 : Int) ∧ True ∧ (0 : Int) = (0 : Int)) ∧ True ∧ True) ∧ s = s ∧ (↑(a + (1 : Nat)) : Int) = IntKind.i64.wrap ((a : Int) + (↑(1 : Nat) : Int))) := by kernel_rfl

set_option maxHeartbeats 4000000 in
theorem sgO (t1 s : List UInt8) (a : Nat) (ha : a < s.length) (hs : s.length ≤ 10000) (h2 : s.getD a 0 = 123)  :
    RunsTo Tryd.prog 94 [.code (bodyOf Tryd.f94)] (envOf [vP 63] Tryd.f94.ntmps) (Sx.look (sentEnts 23 213 [(6, t1)] ++ (rdW 63 s (a : Nat)))) 80 (.tup [(true, tkT (4) ([123]) (0) .vl0), (false, .ve0)]) (Sx.look (rdW 63 s (a + 1 : Nat))) 700 := by
  have hw1 : IntKind.i64.wrap ((a : Int) + 1) = ((a + 1 : Nat) : Int) := by rw [wr64 (by omega)]; rfl
  have hw2 : IntKind.i64.wrap ((a : Int) + 2) = ((a + 2 : Nat) : Int) := by rw [wr64 (by omega)]; omega
  have hl0 : (s.drop a).length = s.length - a := List.length_drop
  have ht1 : (s.drop a).take 1 = [s.getD a 0] := by rw [drop_at s ha]; rfl
  have ht2 : a + 1 < s.length → (s.drop a).take 2 = [s.getD a 0, s.getD (a + 1) 0] := fun q => by rw [drop_at s ha, drop_at s q]; rfl
  obtain ⟨hU0, hU1, hU2, hU3, hU4, hU5, hU6, hU7⟩ := sgAll
  rw [h2] at ht1
  have ht2' : a + 1 < s.length → (s.drop a).take 2 = [123, s.getD (a + 1) 0] := fun q => by rw [ht2 q, h2]
  refine bcase (c := (decide ((↑(List.drop (↑a : Int).toNat (List.take s.length s)).length : Int) ≥ (↑(2 : Nat) : Int)))) (fun gg0 => (runs_last baseO (Sx.Ends.of (sgO_p0 t1 s a) ⟨(okc ?_ (okc gg0 (okc ?_ (okc gg0 (okc ?_ (okc gg0 (okc ?_ (okc gg0 (okc ?_ (okc ?_ (okc ?_ (okc ?_ okn)))))))))))), ?_⟩) (by kernel_rfl) rfl (gtL (by decide)) (by decide))) (fun gg0 => (runs_last baseO (Sx.Ends.of (sgO_p1 t1 s a) ⟨(okc ?_ (okc gg0 (okc ?_ (okc ?_ (okc ?_ (okc gg0 (okc ?_ (okc ?_ (okc ?_ (okc gg0 (okc ?_ (okc ?_ (okc ?_ (okc gg0 (okc ?_ (okc ?_ (okc ?_ (okc ?_ (okc ?_ (okc ?_ okn)))))))))))))))))))), ?_⟩) (by kernel_rfl) rfl (gtL (by decide)) (by decide)))
  all_goals first | (refine And.intro ?_ ?_ <;> ((try simp (disch := omega) only [SS, hU0, hU1, hU2, hU3, hU4, hU5, hU6, hU7, List.take_length, List.drop_zero, hl0, hw1, hw2, ht1, h2]); (repeat' apply And.intro); (all_goals first | exact True.intro | with_reducible rfl | omega | (intros; first | exact True.intro | with_reducible rfl | omega | (simp_all; done)) | (simp_all; done) | rfl))) | (first | omega | (simp (disch := omega) only [SS, hU0, hU1, hU2, hU3, hU4, hU5, hU6, hU7, List.take_length, List.drop_zero, hl0, hw1, hw2, ht1, h2]; first | done | omega | rfl | decide | (simp; omega) | (simp_all; done)) | (simp (disch := omega) only [SS, hU0, hU1, hU2, hU3, hU4, hU5, hU6, hU7, List.take_length, List.drop_zero, hl0, hw1, hw2, ht1, h2] at *; first | done | omega | rfl | decide | (rw [ht2 (by omega)]; simp; done) | (rw [ht2 (by omega)]; simp_all; done) | (rw [ht2' (by omega)]; simp; done) | (rw [ht2' (by omega)]; have := h3 (by omega); simp_all; done) | (rw [ht2 (by omega)]; have := n5 (by omega); simp_all; done) | (simp_all; done)))

theorem sgC_p0 (t1 s : List UInt8) (a : Nat) :
    isEnd (evTill Tryd.prog [] 500 (99) 900 94 [.code (bodyOf Tryd.f94)] (envOf [vP 63] Tryd.f94.ntmps) (sentEnts 23 213 [(6, t1)] ++ (rdW 63 s (a : Nat))) ⟨[.t, .t, .t, .t, .s true, .s false, .f, .t, .t, .t, .t, .s true, .s false, .f, .t, .t, .t, .t, .s true, .s false, .f, .t, .t, .t, .t, .s true, .s false, .f, .t, .t, .t, .t, .s true, .s true, .s true, .s false, .t, .t, .t, .t, .s true, .s true, .s true, .s true], 80⟩) (endP ([]) (.tup [(true, tkT (4) ([125]) (0) .vl0), (false, .ve0)]) (rdW 63 s (a + 1 : Nat)) 700) =
    (OkL [(decide ((0 : Int) ≤ (a : Int) ∧ (a : Int) ≤ (↑s.length : Int)), true), (decide ((↑(List.drop (a : Int).toNat (List.take s.length s)).length : Int) ≥ (↑(2 : Nat) : Int)), false), (decide ((0 : Int) ≤ (a : Int) ∧ (a : Int) ≤ (↑s.length : Int)), true), (decide ((↑(List.drop (a : Int).toNat (List.take s.length s)).length : Int) ≥ (↑(2 : Nat) : Int)), false), (decide ((0 : Int) ≤ (a : Int) ∧ (a : Int) ≤ (↑s.length : Int)), true), (decide ((↑(List.drop (a : Int).toNat (List.take s.length s)).length : Int) ≥ (↑(2 : Nat) : Int)), false), (decide ((0 : Int) ≤ (a : Int) ∧ (a : Int) ≤ (↑s.length : Int)), true), (decide ((↑(List.drop (a : Int).toNat (List.take s.length s)).length : Int) ≥ (↑(2 : Nat) : Int)), false), (decide ((0 : Int) ≤ (a : Int) ∧ (a : Int) ≤ (↑s.length : Int)), true), (decide ((↑(List.drop (a : Int).toNat (List.take s.length s)).length : Int) ≥ (↑(1 : Nat) : Int)), true), (decide ((0 : Int) ≤ (↑(1 : Nat) : Int) ∧ (↑(1 : Nat) : Int) ≤ (↑(List.drop (a : Int).toNat (List.take s.length s)).length : Int)), true), (List.drop (0 : Nat) (List.take (1 : Nat) (List.drop (a : Int).toNat (List.take s.length s))) == sgU [(4 : Nat)], false), (decide ((0 : Int) ≤ (a : Int) ∧ (a : Int) ≤ (↑s.length : Int)), true), (decide ((↑(List.drop (a : Int).toNat (List.take s.length s)).length : Int) ≥ (↑(1 : Nat) : Int)), true), (decide ((0 : Int) ≤ (↑(1 : Nat) : Int) ∧ (↑(1 : Nat) : Int) ≤ (↑(List.drop (a : Int).toNat (List.take s.length s)).length : Int)), true), (List.drop (0 : Nat) (List.take (1 : Nat) (List.drop (a : Int).toNat (List.take s.length s))) == sgU [(5 : Nat)], true)] ∧ (((4 : Int) = (4 : Int) ∧ [(125 : UInt8)] = sgU [(5 : Nat)] ∧ (0 : Int) = (0 : Int) ∧ True ∧ (0 : Int) = (0 : Int)) ∧ True ∧ True) ∧ s = s ∧ (↑(a + (1 : Nat)) : Int) = IntKind.i64.wrap ((a : Int) + (↑(1 : Nat) : Int))) := by kernel_rfl
theorem sgC_p1 (t1 s : List UInt8) (a : Nat) :
    isEnd (evTill Tryd.prog [] 500 (99) 900 94 [.code (bodyOf Tryd.f94)] (envOf [vP 63] Tryd.f94.ntmps) (sentEnts 23 213 [(6, t1)] ++ (rdW 63 s (a : Nat))) ⟨[.t, .t, .t, .t, .s true, .s true, .s true, .s false, .t, .t, .t, .t, .s true, .s true, .s true, .s false, .t, .t, .t, .t, .s true, .s true, .s true, .s false, .t, .t, .t, .t, .s true, .s true, .s true, .s false, .t, .t, .t, .t, .s true, .s true, .s true, .s false, .t, .t, .t, .t, .s true, .s true, .s true, .s true], 80⟩) (endP ([]) (.tup [(true, tkT (4) ([125]) (0) .vl0), (false, .ve0)]) (rdW 63 s (a + 1 : Nat)) 700) =
    (OkL [(decide ((0 : Int) ≤ (a : Int) ∧ (a : Int) ≤ (↑s.length : Int)), true), (decide ((↑(List.drop (a : Int).toNat (List.take s.length s)).length : Int) ≥ (↑(2 : Nat) : Int)), true), (decide ((0 : Int) ≤ (↑(2 : Nat) : Int) ∧ (↑(2 : Nat) : Int) ≤ (↑(List.drop (a : Int).toNat (List.take s.length s)).length : Int)), true), (List.drop (0 : Nat) (List.take (2 : Nat) (List.drop (a : Int).toNat (List.take s.length s))) == sgU [(0 : Nat)], false), (decide ((0 : Int) ≤ (a : Int) ∧ (a : Int) ≤ (↑s.length : Int)), true), (decide ((↑(List.drop (a : Int).toNat (List.take s.length s)).length : Int) ≥ (↑(2 : Nat) : Int)), true), (decide ((0 : Int) ≤ (↑(2 : Nat) : Int) ∧ (↑(2 : Nat) : Int) ≤ (↑(List.drop (a : Int).toNat (List.take s.length s)).length : Int)), true), (List.drop (0 : Nat) (List.take (2 : Nat) (List.drop (a : Int).toNat (List.take s.length s))) == sgU [(1 : Nat)], false), (decide ((0 : Int) ≤ (a : Int) ∧ (a : Int) ≤ (↑s.length : Int)), true), (decide ((↑(List.drop (a : Int).toNat (List.take s.length s)).length : Int) ≥ (↑(2 : Nat) : Int)), true), (decide ((0 : Int) ≤ (↑(2 : Nat) : Int) ∧ (↑(2 : Nat) : Int) ≤ (↑(List.drop (a : Int).toNat (List.take s.length s)).length : Int)), true), (List.drop (0 : Nat) (List.take (2 : Nat) (List.drop (a : Int).toNat (List.take s.length s))) == sgU [(2 : Nat)], false), (decide ((0 : Int) ≤ (a : Int) ∧ (a : Int) ≤ (↑s.length : Int)), true), (decide ((↑(List.drop (a : Int).toNat (List.take s.length s)).length : Int) ≥ (↑(2 : Nat) : Int)), true), (decide ((0 : Int) ≤ (↑(2 : Nat) : Int) ∧ (↑(2 : Nat) : Int) ≤ (↑(List.drop (a : Int).toNat (List.take s.length s)).length : Int)), true), (List.drop (0 : Nat) (List.take (2 : Nat) (List.drop (a : Int).toNat (List.take s.length s))) == sgU [(3 : Nat)], false), (decide ((0 : Int) ≤ (a : Int) ∧ (a : Int) ≤ (↑s.length : Int)), true), (decide ((↑(List.drop (a : Int).toNat (List.take s.length s)).length : Int) ≥ (↑(1 : Nat) : Int)), true), (decide ((0 : Int) ≤ (↑(1 : Nat) : Int) ∧ (↑(1 : Nat) : Int) ≤ (↑(List.drop (a : Int).toNat (List.take s.length s)).length : Int)), true), (List.drop (0 : Nat) (List.take (1 : Nat) (List.drop (a : Int).toNat (List.take s.length s))) == sgU [(4 : Nat)], false), (decide ((0 : Int) ≤ (a : Int) ∧ (a : Int) ≤ (↑s.length : Int)), true), (decide ((↑(List.drop (a : Int).toNat (List.take s.length s)).length : Int) ≥ (↑(1 : Nat) : Int)), true), (decide ((0 : Int) ≤ (↑(1 : Nat) : Int) ∧ (↑(1 : Nat) : Int) ≤ (↑(List.drop (a : Int).toNat (List.take s.length s)).length : Int)), true), (List.drop (0 : Nat) (List.take (1 : Nat) (List.drop (a : Int).toNat (List.take s.length s))) == sgU [(5 : Nat)], true)] ∧ (((4 : Int) = (4 : Int) ∧ [(125 : UInt8)] = sgU [(5 : Nat)] ∧ (0 : Int) = (0 : Int) ∧ True ∧ (0 : Int) = (0 : Int)) ∧ True ∧ True) ∧ s = s ∧ (↑(a + (1 : Nat)) : Int) = IntKind.i64.wrap ((a : Int) + (↑(1 : Nat) : Int))) := by kernel_rfl

set_option maxHeartbeats 4000000 in
theorem sgC (t1 s : List UInt8) (a : Nat) (ha : a < s.length) (hs : s.length ≤ 10000) (h2 : s.getD a 0 = 125)  :
    RunsTo Tryd.prog 94 [.code (bodyOf Tryd.f94)] (envOf [vP 63] Tryd.f94.ntmps) (Sx.look (sentEnts 23 213 [(6, t1)] ++ (rdW 63 s (a : Nat)))) 80 (.tup [(true, tkT (4) ([125]) (0) .vl0), (false, .ve0)]) (Sx.look (rdW 63 s (a + 1 : Nat))) 700 := by
  have hw1 : IntKind.i64.wrap ((a : Int) + 1) = ((a + 1 : Nat) : Int) := by rw [wr64 (by omega)]; rfl
  have hw2 : IntKind.i64.wrap ((a : Int) + 2) = ((a + 2 : Nat) : Int) := by rw [wr64 (by omega)]; omega
  have hl0 : (s.drop a).length = s.length - a := List.length_drop
  have ht1 : (s.drop a).take 1 = [s.getD a 0] := by rw [drop_at s ha]; rfl
  have ht2 : a + 1 < s.length → (s.drop a).take 2 = [s.getD a 0, s.getD (a + 1) 0] := fun q => by rw [drop_at s ha, drop_at s q]; rfl
  obtain ⟨hU0, hU1, hU2, hU3, hU4, hU5, hU6, hU7⟩ := sgAll
  rw [h2] at ht1
  have ht2' : a + 1 < s.length → (s.drop a).take 2 = [125, s.getD (a + 1) 0] := fun q => by rw [ht2 q, h2]
  refine bcase (c := (decide ((↑(List.drop (↑a : Int).toNat (List.take s.length s)).length : Int) ≥ (↑(2 : Nat) : Int)))) (fun gg0 => (runs_last baseO (Sx.Ends.of (sgC_p0 t1 s a) ⟨(okc ?_ (okc gg0 (okc ?_ (okc gg0 (okc ?_ (okc gg0 (okc ?_ (okc gg0 (okc ?_ (okc ?_ (okc ?_ (okc ?_ (okc ?_ (okc ?_ (okc ?_ (okc ?_ okn)))))))))))))))), ?_⟩) (by kernel_rfl) rfl (gtL (by decide)) (by decide))) (fun gg0 => (runs_last baseO (Sx.Ends.of (sgC_p1 t1 s a) ⟨(okc ?_ (okc gg0 (okc ?_ (okc ?_ (okc ?_ (okc gg0 (okc ?_ (okc ?_ (okc ?_ (okc gg0 (okc ?_ (okc ?_ (okc ?_ (okc gg0 (okc ?_ (okc ?_ (okc ?_ (okc ?_ (okc ?_ (okc ?_ (okc ?_ (okc ?_ (okc ?_ (okc ?_ okn)))))))))))))))))))))))), ?_⟩) (by kernel_rfl) rfl (gtL (by decide)) (by decide)))
  all_goals first | (refine And.intro ?_ ?_ <;> ((try simp (disch := omega) only [SS, hU0, hU1, hU2, hU3, hU4, hU5, hU6, hU7, List.take_length, List.drop_zero, hl0, hw1, hw2, ht1, h2]); (repeat' apply And.intro); (all_goals first | exact True.intro | with_reducible rfl | omega | (intros; first | exact True.intro | with_reducible rfl | omega | (simp_all; done)) | (simp_all; done) | rfl))) | (first | omega | (simp (disch := omega) only [SS, hU0, hU1, hU2, hU3, hU4, hU5, hU6, hU7, List.take_length, List.drop_zero, hl0, hw1, hw2, ht1, h2]; first | done | omega | rfl | decide | (simp; omega) | (simp_all; done)) | (simp (disch := omega) only [SS, hU0, hU1, hU2, hU3, hU4, hU5, hU6, hU7, List.take_length, List.drop_zero, hl0, hw1, hw2, ht1, h2] at *; first | done | omega | rfl | decide | (rw [ht2 (by omega)]; simp; done) | (rw [ht2 (by omega)]; simp_all; done) | (rw [ht2' (by omega)]; simp; done) | (rw [ht2' (by omega)]; have := h3 (by omega); simp_all; done) | (rw [ht2 (by omega)]; have := n5 (by omega); simp_all; done) | (simp_all; done)))

theorem sgF_p0 (t1 s : List UInt8) (a : Nat) :
    isEnd (evTill Tryd.prog [] 500 (99) 900 94 [.code (bodyOf Tryd.f94)] (envOf [vP 63] Tryd.f94.ntmps) (sentEnts 23 213 [(6, t1)] ++ (rdW 63 s (a : Nat))) ⟨[.t, .t, .t, .t, .s true, .s false, .f, .t, .t, .t, .t, .s true, .s false, .f, .t, .t, .t, .t, .s true, .s false, .f, .t, .t, .t, .t, .s true, .s false, .f, .t, .t, .t, .t, .s true, .s true, .s true, .s false, .t, .t, .t, .t, .s true, .s true, .s true, .s false, .t, .t, .t, .t, .s true, .s true, .s true, .s false, .t, .t, .t, .t, .s true, .s true, .s true, .s false, .f], 80⟩) (endP ([]) (.tup [(true, tkT (0) ([]) (0) .vl0), (false, vErr 6)]) ([]) 700) =
    (OkL [(decide ((0 : Int) ≤ (a : Int) ∧ (a : Int) ≤ (↑s.length : Int)), true), (decide ((↑(List.drop (a : Int).toNat (List.take s.length s)).length : Int) ≥ (↑(2 : Nat) : Int)), false), (decide ((0 : Int) ≤ (a : Int) ∧ (a : Int) ≤ (↑s.length : Int)), true), (decide ((↑(List.drop (a : Int).toNat (List.take s.length s)).length : Int) ≥ (↑(2 : Nat) : Int)), false), (decide ((0 : Int) ≤ (a : Int) ∧ (a : Int) ≤ (↑s.length : Int)), true), (decide ((↑(List.drop (a : Int).toNat (List.take s.length s)).length : Int) ≥ (↑(2 : Nat) : Int)), false), (decide ((0 : Int) ≤ (a : Int) ∧ (a : Int) ≤ (↑s.length : Int)), true), (decide ((↑(List.drop (a : Int).toNat (List.take s.length s)).length : Int) ≥ (↑(2 : Nat) : Int)), false), (decide ((0 : Int) ≤ (a : Int) ∧ (a : Int) ≤ (↑s.length : Int)), true), (decide ((↑(List.drop (a : Int).toNat (List.take s.length s)).length : Int) ≥ (↑(1 : Nat) : Int)), true), (decide ((0 : Int) ≤ (↑(1 : Nat) : Int) ∧ (↑(1 : Nat) : Int) ≤ (↑(List.drop (a : Int).toNat (List.take s.length s)).length : Int)), true), (List.drop (0 : Nat) (List.take (1 : Nat) (List.drop (a : Int).toNat (List.take s.length s))) == sgU [(4 : Nat)], false), (decide ((0 : Int) ≤ (a : Int) ∧ (a : Int) ≤ (↑s.length : Int)), true), (decide ((↑(List.drop (a : Int).toNat (List.take s.length s)).length : Int) ≥ (↑(1 : Nat) : Int)), true), (decide ((0 : Int) ≤ (↑(1 : Nat) : Int) ∧ (↑(1 : Nat) : Int) ≤ (↑(List.drop (a : Int).toNat (List.take s.length s)).length : Int)), true), (List.drop (0 : Nat) (List.take (1 : Nat) (List.drop (a : Int).toNat (List.take s.length s))) == sgU [(5 : Nat)], false), (decide ((0 : Int) ≤ (a : Int) ∧ (a : Int) ≤ (↑s.length : Int)), true), (decide ((↑(List.drop (a : Int).toNat (List.take s.length s)).length : Int) ≥ (↑(1 : Nat) : Int)), true), (decide ((0 : Int) ≤ (↑(1 : Nat) : Int) ∧ (↑(1 : Nat) : Int) ≤ (↑(List.drop (a : Int).toNat (List.take s.length s)).length : Int)), true), (List.drop (0 : Nat) (List.take (1 : Nat) (List.drop (a : Int).toNat (List.take s.length s))) == sgU [(6 : Nat)], false), (decide ((0 : Int) ≤ (a : Int) ∧ (a : Int) ≤ (↑s.length : Int)), true), (decide ((↑(List.drop (a : Int).toNat (List.take s.length s)).length : Int) ≥ (↑(1 : Nat) : Int)), true), (decide ((0 : Int) ≤ (↑(1 : Nat) : Int) ∧ (↑(1 : Nat) : Int) ≤ (↑(List.drop (a : Int).toNat (List.take s.length s)).length : Int)), true), (List.drop (0 : Nat) (List.take (1 : Nat) (List.drop (a : Int).toNat (List.take s.length s))) == sgU [(7 : Nat)], false)] ∧ (((0 : Int) = (0 : Int) ∧ ([] : List UInt8) = [] ∧ (0 : Int) = (0 : Int) ∧ True ∧ (0 : Int) = (0 : Int)) ∧ 0 = 0 ∧ True) ∧ True) := by kernel_rfl
theorem sgF_p1 (t1 s : List UInt8) (a : Nat) :
    isEnd (evTill Tryd.prog [] 500 (99) 900 94 [.code (bodyOf Tryd.f94)] (envOf [vP 63] Tryd.f94.ntmps) (sentEnts 23 213 [(6, t1)] ++ (rdW 63 s (a : Nat))) ⟨[.t, .t, .t, .t, .s true, .s true, .s true, .s false, .t, .t, .t, .t, .s true, .s true, .s true, .s false, .t, .t, .t, .t, .s true, .s true, .s true, .s false, .t, .t, .t, .t, .s true, .s true, .s true, .s false, .t, .t, .t, .t, .s true, .s true, .s true, .s false, .t, .t, .t, .t, .s true, .s true, .s true, .s false, .t, .t, .t, .t, .s true, .s true, .s true, .s false, .t, .t, .t, .t, .s true, .s true, .s true, .s false, .f], 80⟩) (endP ([]) (.tup [(true, tkT (0) ([]) (0) .vl0), (false, vErr 6)]) ([]) 700) =
    (OkL [(decide ((0 : Int) ≤ (a : Int) ∧ (a : Int) ≤ (↑s.length : Int)), true), (decide ((↑(List.drop (a : Int).toNat (List.take s.length s)).length : Int) ≥ (↑(2 : Nat) : Int)), true), (decide ((0 : Int) ≤ (↑(2 : Nat) : Int) ∧ (↑(2 : Nat) : Int) ≤ (↑(List.drop (a : Int).toNat (List.take s.length s)).length : Int)), true), (List.drop (0 : Nat) (List.take (2 : Nat) (List.drop (a : Int).toNat (List.take s.length s))) == sgU [(0 : Nat)], false), (decide ((0 : Int) ≤ (a : Int) ∧ (a : Int) ≤ (↑s.length : Int)), true), (decide ((↑(List.drop (a : Int).toNat (List.take s.length s)).length : Int) ≥ (↑(2 : Nat) : Int)), true), (decide ((0 : Int) ≤ (↑(2 : Nat) : Int) ∧ (↑(2 : Nat) : Int) ≤ (↑(List.drop (a : Int).toNat (List.take s.length s)).length : Int)), true), (List.drop (0 : Nat) (List.take (2 : Nat) (List.drop (a : Int).toNat (List.take s.length s))) == sgU [(1 : Nat)], false), (decide ((0 : Int) ≤ (a : Int) ∧ (a : Int) ≤ (↑s.length : Int)), true), (decide ((↑(List.drop (a : Int).toNat (List.take s.length s)).length : Int) ≥ (↑(2 : Nat) : Int)), true), (decide ((0 : Int) ≤ (↑(2 : Nat) : Int) ∧ (↑(2 : Nat) : Int) ≤ (↑(List.drop (a : Int).toNat (List.take s.length s)).length : Int)), true), (List.drop (0 : Nat) (List.take (2 : Nat) (List.drop (a : Int).toNat (List.take s.length s))) == sgU [(2 : Nat)], false), (decide ((0 : Int) ≤ (a : Int) ∧ (a : Int) ≤ (↑s.length : Int)), true), (decide ((↑(List.drop (a : Int).toNat (List.take s.length s)).length : Int) ≥ (↑(2 : Nat) : Int)), true), (decide ((0 : Int) ≤ (↑(2 : Nat) : Int) ∧ (↑(2 : Nat) : Int) ≤ (↑(List.drop (a : Int).toNat (List.take s.length s)).length : Int)), true), (List.drop (0 : Nat) (List.take (2 : Nat) (List.drop (a : Int).toNat (List.take s.length s))) == sgU [(3 : Nat)], false), (decide ((0 : Int) ≤ (a : Int) ∧ (a : Int) ≤ (↑s.length : Int)), true), (decide ((↑(List.drop (a : Int).toNat (List.take s.length s)).length : Int) ≥ (↑(1 : Nat) : Int)), true), (decide ((0 : Int) ≤ (↑(1 : Nat) : Int) ∧ (↑(1 : Nat) : Int) ≤ (↑(List.drop (a : Int).toNat (List.take s.length s)).length : Int)), true), (List.drop (0 : Nat) (List.take (1 : Nat) (List.drop (a : Int).toNat (List.take s.length s))) == sgU [(4 : Nat)], false), (decide ((0 : Int) ≤ (a : Int) ∧ (a : Int) ≤ (↑s.length : Int)), true), (decide ((↑(List.drop (a : Int).toNat (List.take s.length s)).length : Int) ≥ (↑(1 : Nat) : Int)), true), (decide ((0 : Int) ≤ (↑(1 : Nat) : Int) ∧ (↑(1 : Nat) : Int) ≤ (↑(List.drop (a : Int).toNat (List.take s.length s)).length : Int)), true), (List.drop (0 : Nat) (List.take (1 : Nat) (List.drop (a : Int).toNat (List.take s.length s))) == sgU [(5 : Nat)], false), (decide ((0 : Int) ≤ (a : Int) ∧ (a : Int) ≤ (↑s.length : Int)), true), (decide ((↑(List.drop (a : Int).toNat (List.take s.length s)).length : Int) ≥ (↑(1 : Nat) : Int)), true), (decide ((0 : Int) ≤ (↑(1 : Nat) : Int) ∧ (↑(1 : Nat) : Int) ≤ (↑(List.drop (a : Int).toNat (List.take s.length s)).length : Int)), true), (List.drop (0 : Nat) (List.take (1 : Nat) (List.drop (a : Int).toNat (List.take s.length s))) == sgU [(6 : Nat)], false), (decide ((0 : Int) ≤ (a : Int) ∧ (a : Int) ≤ (↑s.length : Int)), true), (decide ((↑(List.drop (a : Int).toNat (List.take s.length s)).length : Int) ≥ (↑(1 : Nat) : Int)), true), (decide ((0 : Int) ≤ (↑(1 : Nat) : Int) ∧ (↑(1 : Nat) : Int) ≤ (↑(List.drop (a : Int).toNat (List.take s.length s)).length : Int)), true), (List.drop (0 : Nat) (List.take (1 : Nat) (List.drop (a : Int).toNat (List.take s.length s))) == sgU [(7 : Nat)], false)] ∧ (((0 : Int) = (0 : Int) ∧ ([] : List UInt8) = [] ∧ (0 : Int) = (0 : Int) ∧ True ∧ (0 : Int) = (0 : Int)) ∧ 0 = 0 ∧ True) ∧ True) := by kernel_rfl

set_option maxHeartbeats 4000000 in
theorem sgF (t1 s : List UInt8) (a : Nat) (ha : a < s.length) (hs : s.length ≤ 10000) (n1 : s.getD a 0 ≠ 123) (n2 : s.getD a 0 ≠ 125) (n3 : s.getD a 0 ≠ 60 ) (n4 : s.getD a 0 ≠ 62) (n5 : a + 1 < s.length → ¬ ((s.getD a 0 = 61 ∨ s.getD a 0 = 33) ∧ s.getD (a + 1) 0 = 61))  :
    RunsTo Tryd.prog 94 [.code (bodyOf Tryd.f94)] (envOf [vP 63] Tryd.f94.ntmps) (Sx.look (sentEnts 23 213 [(6, t1)] ++ (rdW 63 s (a : Nat)))) 80 (.tup [(true, tkT (0) ([]) (0) .vl0), (false, vErr 6)]) (Sx.look ([])) 700 := by
  have hw1 : IntKind.i64.wrap ((a : Int) + 1) = ((a + 1 : Nat) : Int) := by rw [wr64 (by omega)]; rfl
  have hw2 : IntKind.i64.wrap ((a : Int) + 2) = ((a + 2 : Nat) : Int) := by rw [wr64 (by omega)]; omega
  have hl0 : (s.drop a).length = s.length - a := List.length_drop
  have ht1 : (s.drop a).take 1 = [s.getD a 0] := by rw [drop_at s ha]; rfl
  have ht2 : a + 1 < s.length → (s.drop a).take 2 = [s.getD a 0, s.getD (a + 1) 0] := fun q => by rw [drop_at s ha, drop_at s q]; rfl
  obtain ⟨hU0, hU1, hU2, hU3, hU4, hU5, hU6, hU7⟩ := sgAll
  refine bcase (c := (decide ((↑(List.drop (↑a : Int).toNat (List.take s.length s)).length : Int) ≥ (↑(2 : Nat) : Int)))) (fun gg0 => (runs_last baseO (Sx.Ends.of (sgF_p0 t1 s a) ⟨(okc ?_ (okc gg0 (okc ?_ (okc gg0 (okc ?_ (okc gg0 (okc ?_ (okc gg0 (okc ?_ (okc ?_ (okc ?_ (okc ?_ (okc ?_ (okc ?_ (okc ?_ (okc ?_ (okc ?_ (okc ?_ (okc ?_ (okc ?_ (okc ?_ (okc ?_ (okc ?_ (okc ?_ okn)))))))))))))))))))))))), ?_⟩) (by kernel_rfl) rfl (gtL (by decide)) (by decide))) (fun gg0 => (runs_last baseO (Sx.Ends.of (sgF_p1 t1 s a) ⟨(okc ?_ (okc gg0 (okc ?_ (okc ?_ (okc ?_ (okc gg0 (okc ?_ (okc ?_ (okc ?_ (okc gg0 (okc ?_ (okc ?_ (okc ?_ (okc gg0 (okc ?_ (okc ?_ (okc ?_ (okc ?_ (okc ?_ (okc ?_ (okc ?_ (okc ?_ (okc ?_ (okc ?_ (okc ?_ (okc ?_ (okc ?_ (okc ?_ (okc ?_ (okc ?_ (okc ?_ (okc ?_ okn)))))))))))))))))))))))))))))))), ?_⟩) (by kernel_rfl) rfl (gtL (by decide)) (by decide)))
  all_goals first | (refine And.intro ?_ ?_ <;> ((try simp (disch := omega) only [SS, hU0, hU1, hU2, hU3, hU4, hU5, hU6, hU7, List.take_length, List.drop_zero, hl0, hw1, hw2, ht1, hw1]); (repeat' apply And.intro); (all_goals first | exact True.intro | with_reducible rfl | omega | (intros; first | exact True.intro | with_reducible rfl | omega | (simp_all; done)) | (simp_all; done) | rfl))) | (first | omega | (simp (disch := omega) only [SS, hU0, hU1, hU2, hU3, hU4, hU5, hU6, hU7, List.take_length, List.drop_zero, hl0, hw1, hw2, ht1, hw1]; first | done | omega | rfl | decide | (simp; omega) | (simp_all; done)) | (simp (disch := omega) only [SS, hU0, hU1, hU2, hU3, hU4, hU5, hU6, hU7, List.take_length, List.drop_zero, hl0, hw1, hw2, ht1, hw1] at *; first | done | omega | rfl | decide | (rw [ht2 (by omega)]; simp; done) | (rw [ht2 (by omega)]; simp_all; done) | (rw [ht2' (by omega)]; simp; done) | (rw [ht2' (by omega)]; have := h3 (by omega); simp_all; done) | (rw [ht2 (by omega)]; have := n5 (by omega); simp_all; done) | (simp_all; done)))

end Go.Proofs.YtaleenklamognaaDoor

set_option linter.unusedSimpArgs false
set_option linter.unusedVariables false
set_option maxRecDepth 100000
namespace Go.Proofs.YtaleenklamognaaDoor
open Go.Sx

open WordR
theorem sign_eq (c : UInt8) (r : List UInt8) : signR (c :: r) = if r.headD 0 = 61 ∧ (c = 61 ∨ c = 33 ∨ c = 60 ∨ c = 62) then .ok ⟨4, [c, 61], 0, [], 0⟩ 2 else if c = 123 ∨ c = 125 ∨ c = 60 ∨ c = 62 then .ok ⟨4, [c], 0, [], 0⟩ 1 else .err 5 := by
  cases r with
  | nil => unfold signR; split <;> simp_all
  | cons d q =>
    rw [List.headD_cons]
    by_cases hd : d = 61
    · subst hd; unfold signR; split <;> simp_all
      all_goals (rename_i hx he; exact hx _ he.2.symm)
    · unfold signR; split <;> simp_all
def SGR (s : List UInt8) (a : Nat) (X : SV → HF → Prop) : TR → Prop
  | .ok t n => X (.tup [(true, tkT (4) (t.text) (0) .vl0), (false, .ve0)]) (Sx.look (rdW 63 s (a + n : Nat)))
  | .err e => e = 5 ∧ X (.tup [(true, tkT (0) ([]) (0) .vl0), (false, vErr 6)]) (Sx.look [])
theorem sgT (t1 s : List UInt8) (a : Nat) (ha : a < s.length) (hs : s.length ≤ 10000) : SGR s a (fun v L' => RunsTo Tryd.prog 94 [.code (bodyOf Tryd.f94)] (envOf [vP 63] Tryd.f94.ntmps) (Sx.look (sentEnts 23 213 [(6, t1)] ++ (rdW 63 s (a : Nat)))) 80 (v) (L') 700) (signR (s.drop a)) := by
  rw [drop_at s ha, sign_eq, head_drop]
  have h61 : s.getD (a + 1) 0 = 61 → a + 1 < s.length := fun h => by
    refine Nat.lt_of_not_le fun q => ?_
    rw [List.getD_eq_getElem?_getD, List.getElem?_eq_none q] at h
    exact absurd h (by decide)
  by_cases h1 : s.getD (a + 1) 0 = 61 ∧ (s.getD a 0 = 61 ∨ s.getD a 0 = 33 ∨ s.getD a 0 = 60 ∨ s.getD a 0 = 62)
  · rw [if_pos h1]
    obtain ⟨h2, h3⟩ := h1
    rcases h3 with e | e | e | e <;> rw [e]
    · exact sgEE t1 s a ha hs (h61 h2) e h2
    · exact sgNE t1 s a ha hs (h61 h2) e h2
    · exact sgLE t1 s a ha hs (h61 h2) e h2
    · exact sgGE t1 s a ha hs (h61 h2) e h2
  rw [if_neg h1]
  by_cases h2 : s.getD a 0 = 123 ∨ s.getD a 0 = 125 ∨ s.getD a 0 = 60 ∨ s.getD a 0 = 62
  · rw [if_pos h2]
    rcases h2 with e | e | e | e <;> rw [e]
    · exact sgO t1 s a ha hs e
    · exact sgC t1 s a ha hs e
    · exact sgL t1 s a ha hs e (fun _ q => h1 ⟨q, .inr (.inr (.inl e))⟩)
    · exact sgG t1 s a ha hs e (fun _ q => h1 ⟨q, .inr (.inr (.inr e))⟩)
  rw [if_neg h2]
  exact ⟨rfl, sgF t1 s a ha hs (fun e => h2 (.inl e)) (fun e => h2 (.inr (.inl e))) (fun e => h2 (.inr (.inr (.inl e)))) (fun e => h2 (.inr (.inr (.inr e)))) (fun _ q => h1 ⟨q.2, q.1.elim .inl (fun e => .inr (.inl e))⟩)⟩
theorem sgOkT (t1 s : List UInt8) (a : Nat) (ha : a < s.length) (hs : s.length ≤ 10000) (h : isOkR (signR (s.drop a)) = true) : RunsTo Tryd.prog 94 [.code (bodyOf Tryd.f94)] (envOf [vP 63] Tryd.f94.ntmps) (Sx.look (sentEnts 23 213 [(6, t1)] ++ (rdW 63 s (a : Nat)))) 80 (.tup [(true, tkT (4) ((okT (signR (s.drop a))).text) (0) .vl0), (false, .ve0)]) (Sx.look (rdW 63 s (a + okN (signR (s.drop a)) : Nat))) 700 := by
  have q := sgT t1 s a ha hs
  cases hz : (signR (s.drop a)) with
  | ok t m => rw [hz] at q; exact q
  | err e =>
    rw [hz] at h; cases h
theorem sgFoT (t1 s : List UInt8) (a : Nat) (ha : a < s.length) (hs : s.length ≤ 10000) (h : isErR 5 (signR (s.drop a)) = true) : RunsTo Tryd.prog 94 [.code (bodyOf Tryd.f94)] (envOf [vP 63] Tryd.f94.ntmps) (Sx.look (sentEnts 23 213 [(6, t1)] ++ (rdW 63 s (a : Nat)))) 80 (.tup [(true, tkT (0) ([]) (0) .vl0), (false, vErr 6)]) (Sx.look ([])) 700 := by
  have q := sgT t1 s a ha hs
  cases hz : (signR (s.drop a)) with
  | ok t m =>
    rw [hz] at h; cases h
  | err e =>
    rw [hz] at q; exact q.2
def sgOkP : PC := { args := [.v (.vp 63)], heap := [⟨63, true, 2, .tc (.vs 0) (.tc (.vi .i64 1) .t0)⟩], gs := [6], G := 23, tp := 213, n := 80, n' := 700, cond := fun e => decide (0 ≤ eI e 1 []) && (decide ((eI e 1 []).toNat < (eS e 0 []).length) && (decide ((eS e 0 []).length ≤ 10000) && isOkR (signR ((eS e 0 []).drop (eI e 1 []).toNat)))), v := fun e => .tup [(true, tkT (4) ((okT (signR ((eS e 0 []).drop (eI e 1 []).toNat))).text) (0) .vl0), (false, .ve0)], post := fun e => rdW 63 (eS e 0 []) ((eI e 1 []).toNat + okN (signR ((eS e 0 []).drop (eI e 1 []).toNat)) : Nat) }
theorem sgOkP_pc : PC.Runs Tryd.prog 94 Tryd.f94 (bodyOf Tryd.f94) sgOkP := ⟨Tryd.func94, by kernel_rfl, (fun g hg => by first | (cases hg; done) | (revert g; show ∀ g ∈ ([6] : List Nat), g < 23; decide)), fun e H hc => by
  have hc : (decide (0 ≤ eI e 1 []) && (decide ((eI e 1 []).toNat < (eS e 0 []).length) && (decide ((eS e 0 []).length ≤ 10000) && isOkR (signR ((eS e 0 []).drop (eI e 1 []).toNat))))) = true := hc
  try simp only [Bool.and_eq_true, decide_eq_true_eq, Nat.beq_eq] at hc
  exact by obtain ⟨h1, h2, h3, h4⟩ := hc; have hj : ((eI e 1 []).toNat : Int) = eI e 1 [] := Int.toNat_of_nonneg h1; have q := sgOkT (textAt H 29) (eS e 0 []) (eI e 1 []).toNat h2 h3 h4; rw [hj] at q; exact q⟩
def sgFoP : PC := { args := [.v (.vp 63)], heap := [⟨63, true, 2, .tc (.vs 0) (.tc (.vi .i64 1) .t0)⟩], gs := [6], G := 23, tp := 213, n := 80, n' := 700, cond := fun e => decide (0 ≤ eI e 1 []) && (decide ((eI e 1 []).toNat < (eS e 0 []).length) && (decide ((eS e 0 []).length ≤ 10000) && isErR 5 (signR ((eS e 0 []).drop (eI e 1 []).toNat)))), v := fun e => .tup [(true, tkT (0) ([]) (0) .vl0), (false, vErr 6)], post := fun e => [] }
theorem sgFoP_pc : PC.Runs Tryd.prog 94 Tryd.f94 (bodyOf Tryd.f94) sgFoP := ⟨Tryd.func94, by kernel_rfl, (fun g hg => by first | (cases hg; done) | (revert g; show ∀ g ∈ ([6] : List Nat), g < 23; decide)), fun e H hc => by
  have hc : (decide (0 ≤ eI e 1 []) && (decide ((eI e 1 []).toNat < (eS e 0 []).length) && (decide ((eS e 0 []).length ≤ 10000) && isErR 5 (signR ((eS e 0 []).drop (eI e 1 []).toNat))))) = true := hc
  try simp only [Bool.and_eq_true, decide_eq_true_eq, Nat.beq_eq] at hc
  exact by obtain ⟨h1, h2, h3, h4⟩ := hc; have hj : ((eI e 1 []).toNat : Int) = eI e 1 [] := Int.toNat_of_nonneg h1; have q := sgFoT (textAt H 29) (eS e 0 []) (eI e 1 []).toNat h2 h3 h4; rw [hj] at q; exact q⟩
def sumsTKo : List (FuncId × Summ) := [(66, bgP.summ 46), (91, fgP.summ 46), (90, nmOkP.summ 46), (92, nuOkP.summ 46), (93, txOkP.summ 46), (94, sgOkP.summ 46)]
theorem baseTKo : Base0 Tryd.prog sumsTKo := ((((((baseO.cons Tryd.func94 (by kernel_rfl) (PC.summ_ok sgOkP_pc gtopG)).cons Tryd.func93 (by kernel_rfl) (PC.summ_ok txOkP_pc gtopG)).cons Tryd.func92 (by kernel_rfl) (PC.summ_ok nuOkP_pc gtopG)).cons Tryd.func90 (by kernel_rfl) (PC.summ_ok nmOkP_pc gtopG)).cons Tryd.func91 (by kernel_rfl) (PC.summ_ok fgP_pc gtopG)).cons Tryd.func66 (by kernel_rfl) (PC.summ_ok bgP_pc gtopG))
def sumsTKl : List (FuncId × Summ) := [(66, bgP.summ 46), (91, fgP.summ 46), (90, nmLoP.summ 46), (92, nuLoP.summ 46), (93, txLoP.summ 46)]
theorem baseTKl : Base0 Tryd.prog sumsTKl := (((((baseO.cons Tryd.func93 (by kernel_rfl) (PC.summ_ok txLoP_pc gtopG)).cons Tryd.func92 (by kernel_rfl) (PC.summ_ok nuLoP_pc gtopG)).cons Tryd.func90 (by kernel_rfl) (PC.summ_ok nmLoP_pc gtopG)).cons Tryd.func91 (by kernel_rfl) (PC.summ_ok fgP_pc gtopG)).cons Tryd.func66 (by kernel_rfl) (PC.summ_ok bgP_pc gtopG))
def sumsTKf : List (FuncId × Summ) := [(66, bgP.summ 46), (91, fgP.summ 46), (92, nuFoP.summ 46), (93, txFoP.summ 46), (94, sgFoP.summ 46)]
theorem baseTKf : Base0 Tryd.prog sumsTKf := (((((baseO.cons Tryd.func94 (by kernel_rfl) (PC.summ_ok sgFoP_pc gtopG)).cons Tryd.func93 (by kernel_rfl) (PC.summ_ok txFoP_pc gtopG)).cons Tryd.func92 (by kernel_rfl) (PC.summ_ok nuFoP_pc gtopG)).cons Tryd.func91 (by kernel_rfl) (PC.summ_ok fgP_pc gtopG)).cons Tryd.func66 (by kernel_rfl) (PC.summ_ok bgP_pc gtopG))
def sumsTKs : List (FuncId × Summ) := [(66, bgP.summ 46), (91, fgP.summ 46), (93, txShP.summ 46)]
theorem baseTKs : Base0 Tryd.prog sumsTKs := (((baseO.cons Tryd.func93 (by kernel_rfl) (PC.summ_ok txShP_pc gtopG)).cons Tryd.func91 (by kernel_rfl) (PC.summ_ok fgP_pc gtopG)).cons Tryd.func66 (by kernel_rfl) (PC.summ_ok bgP_pc gtopG))
theorem tkE_p0 (t0 t1 t2 : List UInt8) (s : List UInt8) (a : Nat) :
    isEnd (evTill Tryd.prog sumsTKo 400 (99) 900 51 [.code (bodyOf Tryd.f51)] (envOf [vP 63] Tryd.f51.ntmps) (sentEnts 23 213 [(5, t0), (6, t1), (0, t2)] ++ (rdW 63 s (a : Nat))) ⟨[.s true, .s false, .s true], 80⟩) (endP ([(141, Rn.nil 2)]) (.tup [(true, tkT (5) ([]) (0) (.vl 141 (fun _ => 0) 2 [] (fun _ => (([] : List Pc)).length))), (false, .ve0)]) (rdW 63 s (a + 1 : Nat) ++ prE 141 (([] : List Pc))) 6000) =
    (OkL [(decide ((0 : Int) ≤ (a : Int) ∧ (a : Int) < (↑s.length : Int)), true), ((↑(s.getD (a : Int).toNat (0 : UInt8)).toNat : Int) == 10, false), ((↑(s.getD (a : Int).toNat (0 : UInt8)).toNat : Int) == 59, true)] ∧ (((5 : Int) = (5 : Int) ∧ ([] : List UInt8) = [] ∧ (0 : Int) = (0 : Int) ∧ 0 = 0 ∧ (0 : Int) = (0 : Int)) ∧ True ∧ True) ∧ (s = s ∧ (↑(a + (1 : Nat)) : Int) = IntKind.i64.wrap ((a : Int) + 1)) ∧ 0 = 0) := by kernel_rfl
theorem tkE_p1 (t0 t1 t2 : List UInt8) (s : List UInt8) (a : Nat) :
    isEnd (evTill Tryd.prog sumsTKo 400 (99) 900 51 [.code (bodyOf Tryd.f51)] (envOf [vP 63] Tryd.f51.ntmps) (sentEnts 23 213 [(5, t0), (6, t1), (0, t2)] ++ (rdW 63 s (a : Nat))) ⟨[.s true, .s true], 80⟩) (endP ([(141, Rn.nil 2)]) (.tup [(true, tkT (5) ([]) (0) (.vl 141 (fun _ => 0) 2 [] (fun _ => (([] : List Pc)).length))), (false, .ve0)]) (rdW 63 s (a + 1 : Nat) ++ prE 141 (([] : List Pc))) 6000) =
    (OkL [(decide ((0 : Int) ≤ (a : Int) ∧ (a : Int) < (↑s.length : Int)), true), ((↑(s.getD (a : Int).toNat (0 : UInt8)).toNat : Int) == 10, true)] ∧ (((5 : Int) = (5 : Int) ∧ ([] : List UInt8) = [] ∧ (0 : Int) = (0 : Int) ∧ 0 = 0 ∧ (0 : Int) = (0 : Int)) ∧ True ∧ True) ∧ (s = s ∧ (↑(a + (1 : Nat)) : Int) = IntKind.i64.wrap ((a : Int) + 1)) ∧ 0 = 0) := by kernel_rfl

set_option maxHeartbeats 4000000 in
theorem tkE (t0 t1 t2 : List UInt8) (s : List UInt8) (a : Nat) (ha : a < s.length) (hs : s.length ≤ 4000) (h : (s.getD a 0).toNat = 10 ∨ (s.getD a 0).toNat = 59)  :
    RunsTo Tryd.prog 51 [.code (bodyOf Tryd.f51)] (envOf [vP 63] Tryd.f51.ntmps) (Sx.look (sentEnts 23 213 [(5, t0), (6, t1), (0, t2)] ++ (rdW 63 s (a : Nat)))) 80 (.tup [(true, tkT (5) ([]) (0) (.vl 141 (fun _ => 0) 2 [] (fun _ => (([] : List Pc)).length))), (false, .ve0)]) (Sx.look (rdW 63 s (a + 1 : Nat) ++ prE 141 (([] : List Pc)))) 6000 := by
  have hw1 : IntKind.i64.wrap ((a : Int) + 1) = ((a + 1 : Nat) : Int) := by rw [wr64 (by omega)]; rfl
  have hb0 := u8nat (s.getD a 0)
  refine bcase (c := ((↑(s.getD (↑a : Int).toNat (0 : UInt8)).toNat : Int) == (10 : Int))) (fun gg0 => (runs_last baseTKo (Sx.Ends.of (tkE_p0 t0 t1 t2 s a) ⟨(okc ?_ (okc gg0 (okc ?_ okn))), ?_⟩) (by kernel_rfl) rfl (gtL (by decide)) (by decide))) (fun gg0 => (runs_last baseTKo (Sx.Ends.of (tkE_p1 t0 t1 t2 s a) ⟨(okc ?_ (okc gg0 okn)), ?_⟩) (by kernel_rfl) rfl (gtL (by decide)) (by decide)))
  all_goals first | (refine And.intro ?_ ?_ <;> ((try simp (disch := omega) only [SS, hw1]); (repeat' apply And.intro); (all_goals first | exact True.intro | with_reducible rfl | omega | (intros; first | exact True.intro | (simp_all; done) | omega) | rfl | (simp_all; done)))) | (first | omega | (simp (disch := omega) only [SS, hw1]; first | done | omega | assumption | exact ⟨by omega, by omega, by omega, h⟩ | exact ⟨by omega, by omega, h⟩ | exact ⟨by omega, h⟩ | exact h | exact ⟨by omega, by omega, by omega, h5⟩ | exact ⟨by omega, by omega, h5⟩ | (simp_all; done)) | (simp_all; done) | (simp_all; omega))

theorem tkN_p0 (t0 t1 t2 : List UInt8) (s : List UInt8) (a : Nat) :
    isEnd (evTill Tryd.prog sumsTKo 400 (99) 900 51 [.code (bodyOf Tryd.f51)] (envOf [vP 63] Tryd.f51.ntmps) (sentEnts 23 213 [(5, t0), (6, t1), (0, t2)] ++ (rdW 63 s (a : Nat))) ⟨[.s true, .s false, .s false, .t, .s true, .s true], 80⟩) (endP ([(141, Rn.nil 2)]) (.tup [(true, tkT (1) (txt s a (spanR goI (s.drop a))) (0) (.vl 141 (fun _ => 0) 2 [] (fun _ => (([] : List Pc)).length))), (false, .ve0)]) (rdW 63 s (a + (spanR goI (s.drop a)) : Nat) ++ prE 141 (([] : List Pc))) 6000) =
    (OkL [(decide ((0 : Int) ≤ (a : Int) ∧ (a : Int) < (↑s.length : Int)), true), ((↑(s.getD (a : Int).toNat (0 : UInt8)).toNat : Int) == 10, false), ((↑(s.getD (a : Int).toNat (0 : UInt8)).toNat : Int) == 59, false), (ltrI (↑(s.getD (a : Int).toNat (0 : UInt8)).toNat : Int), true), (decide ((0 : Int) ≤ (a : Int)) && (decide ((a : Int).toNat ≤ s.length) && (decide (s.length ≤ (100000 : Nat)) && decide (spanR goI (List.drop (a : Int).toNat s) ≤ (24 : Nat)))), true)] ∧ (((1 : Int) = (1 : Int) ∧ txt s a (spanR goI (List.drop a s)) = txt s (a : Int).toNat (spanR goI (List.drop (a : Int).toNat s)) ∧ (0 : Int) = (0 : Int) ∧ 0 = 0 ∧ (0 : Int) = (0 : Int)) ∧ True ∧ True) ∧ (s = s ∧ (↑(a + spanR goI (List.drop a s)) : Int) = (↑((a : Int).toNat + spanR goI (List.drop (a : Int).toNat s)) : Int)) ∧ 0 = 0) := by kernel_rfl

set_option maxHeartbeats 4000000 in
theorem tkN (t0 t1 t2 : List UInt8) (s : List UInt8) (a : Nat) (ha : a < s.length) (hs : s.length ≤ 4000) (n1 : (s.getD a 0).toNat ≠ 10) (n2 : (s.getD a 0).toNat ≠ 59) (hl : ltrI ((s.getD a 0).toNat : Int) = true) (h5 : (spanR goI (s.drop a)) ≤ 24)  :
    RunsTo Tryd.prog 51 [.code (bodyOf Tryd.f51)] (envOf [vP 63] Tryd.f51.ntmps) (Sx.look (sentEnts 23 213 [(5, t0), (6, t1), (0, t2)] ++ (rdW 63 s (a : Nat)))) 80 (.tup [(true, tkT (1) (txt s a (spanR goI (s.drop a))) (0) (.vl 141 (fun _ => 0) 2 [] (fun _ => (([] : List Pc)).length))), (false, .ve0)]) (Sx.look (rdW 63 s (a + (spanR goI (s.drop a)) : Nat) ++ prE 141 (([] : List Pc)))) 6000 := by
  have hw1 : IntKind.i64.wrap ((a : Int) + 1) = ((a + 1 : Nat) : Int) := by rw [wr64 (by omega)]; rfl
  have hb0 := u8nat (s.getD a 0)
  refine runs_last baseTKo (Sx.Ends.of (tkN_p0 t0 t1 t2 s a) ⟨(okc ?_ (okc ?_ (okc ?_ (okc ?_ (okc ?_ okn))))), ?_⟩) (by kernel_rfl) rfl (gtL (by decide)) (by decide)
  all_goals first | (refine And.intro ?_ ?_ <;> ((try simp (disch := omega) only [SS, hw1, hl]); (repeat' apply And.intro); (all_goals first | exact True.intro | with_reducible rfl | omega | (intros; first | exact True.intro | (simp_all; done) | omega) | rfl | (simp_all; done)))) | (first | omega | (simp (disch := omega) only [SS, hw1, hl]; first | done | omega | assumption | exact ⟨by omega, by omega, by omega, h⟩ | exact ⟨by omega, by omega, h⟩ | exact ⟨by omega, h⟩ | exact h | exact ⟨by omega, by omega, by omega, h5⟩ | exact ⟨by omega, by omega, h5⟩ | (simp_all; done)) | (simp_all; done) | (simp_all; omega))

theorem tkNl_p0 (t0 t1 t2 : List UInt8) (s : List UInt8) (a : Nat) :
    isEnd (evTill Tryd.prog sumsTKl 400 (99) 900 51 [.code (bodyOf Tryd.f51)] (envOf [vP 63] Tryd.f51.ntmps) (sentEnts 23 213 [(5, t0), (6, t1), (0, t2)] ++ (rdW 63 s (a : Nat))) ⟨[.s true, .s false, .s false, .t, .s true, .s true], 80⟩) (endP ([]) (.tup [(true, tkT (0) ([]) (0) .vl0), (false, vErr 0)]) ([]) 6000) =
    (OkL [(decide ((0 : Int) ≤ (a : Int) ∧ (a : Int) < (↑s.length : Int)), true), ((↑(s.getD (a : Int).toNat (0 : UInt8)).toNat : Int) == 10, false), ((↑(s.getD (a : Int).toNat (0 : UInt8)).toNat : Int) == 59, false), (ltrI (↑(s.getD (a : Int).toNat (0 : UInt8)).toNat : Int), true), (decide ((0 : Int) ≤ (a : Int)) && (decide ((a : Int).toNat ≤ s.length) && (decide (s.length ≤ (100000 : Nat)) && decide ((24 : Nat) < spanR goI (List.drop (a : Int).toNat s)))), true)] ∧ (((0 : Int) = (0 : Int) ∧ ([] : List UInt8) = [] ∧ (0 : Int) = (0 : Int) ∧ True ∧ (0 : Int) = (0 : Int)) ∧ 0 = 0 ∧ True) ∧ True) := by kernel_rfl

set_option maxHeartbeats 4000000 in
theorem tkNl (t0 t1 t2 : List UInt8) (s : List UInt8) (a : Nat) (ha : a < s.length) (hs : s.length ≤ 4000) (n1 : (s.getD a 0).toNat ≠ 10) (n2 : (s.getD a 0).toNat ≠ 59) (hl : ltrI ((s.getD a 0).toNat : Int) = true) (h5 : 24 < (spanR goI (s.drop a)))  :
    RunsTo Tryd.prog 51 [.code (bodyOf Tryd.f51)] (envOf [vP 63] Tryd.f51.ntmps) (Sx.look (sentEnts 23 213 [(5, t0), (6, t1), (0, t2)] ++ (rdW 63 s (a : Nat)))) 80 (.tup [(true, tkT (0) ([]) (0) .vl0), (false, vErr 0)]) (Sx.look ([])) 6000 := by
  have hw1 : IntKind.i64.wrap ((a : Int) + 1) = ((a + 1 : Nat) : Int) := by rw [wr64 (by omega)]; rfl
  have hb0 := u8nat (s.getD a 0)
  refine runs_last baseTKl (Sx.Ends.of (tkNl_p0 t0 t1 t2 s a) ⟨(okc ?_ (okc ?_ (okc ?_ (okc ?_ (okc ?_ okn))))), ?_⟩) (by kernel_rfl) rfl (gtL (by decide)) (by decide)
  all_goals first | (refine And.intro ?_ ?_ <;> ((try simp (disch := omega) only [SS, hw1, hl]); (repeat' apply And.intro); (all_goals first | exact True.intro | with_reducible rfl | omega | (intros; first | exact True.intro | (simp_all; done) | omega) | rfl | (simp_all; done)))) | (first | omega | (simp (disch := omega) only [SS, hw1, hl]; first | done | omega | assumption | exact ⟨by omega, by omega, by omega, h⟩ | exact ⟨by omega, by omega, h⟩ | exact ⟨by omega, h⟩ | exact h | exact ⟨by omega, by omega, by omega, h5⟩ | exact ⟨by omega, by omega, h5⟩ | (simp_all; done)) | (simp_all; done) | (simp_all; omega))

theorem tkU_p0 (t0 t1 t2 : List UInt8) (s : List UInt8) (a : Nat) :
    isEnd (evTill Tryd.prog sumsTKo 400 (99) 900 51 [.code (bodyOf Tryd.f51)] (envOf [vP 63] Tryd.f51.ntmps) (sentEnts 23 213 [(5, t0), (6, t1), (0, t2)] ++ (rdW 63 s (a : Nat))) ⟨[.s true, .s false, .s false, .t, .s false, .t, .s false, .s true, .s true], 80⟩) (endP ([(141, Rn.nil 2)]) (.tup [(true, tkT (2) ([]) ((okT (numberR (s.drop a))).num) (.vl 141 (fun _ => 0) 2 [] (fun _ => (([] : List Pc)).length))), (false, .ve0)]) (rdW 63 s (a + okN (numberR (s.drop a)) : Nat) ++ prE 141 (([] : List Pc))) 6000) =
    (OkL [(decide ((0 : Int) ≤ (a : Int) ∧ (a : Int) < (↑s.length : Int)), true), ((↑(s.getD (a : Int).toNat (0 : UInt8)).toNat : Int) == 10, false), ((↑(s.getD (a : Int).toNat (0 : UInt8)).toNat : Int) == 59, false), (ltrI (↑(s.getD (a : Int).toNat (0 : UInt8)).toNat : Int), false), (figI (↑(s.getD (a : Int).toNat (0 : UInt8)).toNat : Int), false), ((↑(s.getD (a : Int).toNat (0 : UInt8)).toNat : Int) == 45, true), (decide ((0 : Int) ≤ (a : Int)) && (decide ((a : Int).toNat < s.length) && (decide (s.length ≤ (10000 : Nat)) && isOkR (numberR (List.drop (a : Int).toNat s)))), true)] ∧ (((2 : Int) = (2 : Int) ∧ ([] : List UInt8) = [] ∧ (okT (numberR (List.drop a s))).3 = (okT (numberR (List.drop (a : Int).toNat s))).3 ∧ 0 = 0 ∧ (0 : Int) = (0 : Int)) ∧ True ∧ True) ∧ (s = s ∧ (↑(a + okN (numberR (List.drop a s))) : Int) = (↑((a : Int).toNat + okN (numberR (List.drop (a : Int).toNat s))) : Int)) ∧ 0 = 0) := by kernel_rfl
theorem tkU_p1 (t0 t1 t2 : List UInt8) (s : List UInt8) (a : Nat) :
    isEnd (evTill Tryd.prog sumsTKo 400 (99) 900 51 [.code (bodyOf Tryd.f51)] (envOf [vP 63] Tryd.f51.ntmps) (sentEnts 23 213 [(5, t0), (6, t1), (0, t2)] ++ (rdW 63 s (a : Nat))) ⟨[.s true, .s false, .s false, .t, .s false, .t, .s true, .s true], 80⟩) (endP ([(141, Rn.nil 2)]) (.tup [(true, tkT (2) ([]) ((okT (numberR (s.drop a))).num) (.vl 141 (fun _ => 0) 2 [] (fun _ => (([] : List Pc)).length))), (false, .ve0)]) (rdW 63 s (a + okN (numberR (s.drop a)) : Nat) ++ prE 141 (([] : List Pc))) 6000) =
    (OkL [(decide ((0 : Int) ≤ (a : Int) ∧ (a : Int) < (↑s.length : Int)), true), ((↑(s.getD (a : Int).toNat (0 : UInt8)).toNat : Int) == 10, false), ((↑(s.getD (a : Int).toNat (0 : UInt8)).toNat : Int) == 59, false), (ltrI (↑(s.getD (a : Int).toNat (0 : UInt8)).toNat : Int), false), (figI (↑(s.getD (a : Int).toNat (0 : UInt8)).toNat : Int), true), (decide ((0 : Int) ≤ (a : Int)) && (decide ((a : Int).toNat < s.length) && (decide (s.length ≤ (10000 : Nat)) && isOkR (numberR (List.drop (a : Int).toNat s)))), true)] ∧ (((2 : Int) = (2 : Int) ∧ ([] : List UInt8) = [] ∧ (okT (numberR (List.drop a s))).3 = (okT (numberR (List.drop (a : Int).toNat s))).3 ∧ 0 = 0 ∧ (0 : Int) = (0 : Int)) ∧ True ∧ True) ∧ (s = s ∧ (↑(a + okN (numberR (List.drop a s))) : Int) = (↑((a : Int).toNat + okN (numberR (List.drop (a : Int).toNat s))) : Int)) ∧ 0 = 0) := by kernel_rfl

set_option maxHeartbeats 4000000 in
theorem tkU (t0 t1 t2 : List UInt8) (s : List UInt8) (a : Nat) (ha : a < s.length) (hs : s.length ≤ 4000) (n1 : (s.getD a 0).toNat ≠ 10) (n2 : (s.getD a 0).toNat ≠ 59) (hl : ltrI ((s.getD a 0).toNat : Int) = false) (hf : figI ((s.getD a 0).toNat : Int) = true ∨ (s.getD a 0).toNat = 45) (h : isOkR (numberR (s.drop a)) = true)  :
    RunsTo Tryd.prog 51 [.code (bodyOf Tryd.f51)] (envOf [vP 63] Tryd.f51.ntmps) (Sx.look (sentEnts 23 213 [(5, t0), (6, t1), (0, t2)] ++ (rdW 63 s (a : Nat)))) 80 (.tup [(true, tkT (2) ([]) ((okT (numberR (s.drop a))).num) (.vl 141 (fun _ => 0) 2 [] (fun _ => (([] : List Pc)).length))), (false, .ve0)]) (Sx.look (rdW 63 s (a + okN (numberR (s.drop a)) : Nat) ++ prE 141 (([] : List Pc)))) 6000 := by
  have hw1 : IntKind.i64.wrap ((a : Int) + 1) = ((a + 1 : Nat) : Int) := by rw [wr64 (by omega)]; rfl
  have hb0 := u8nat (s.getD a 0)
  refine bcase (c := (figI (↑(s.getD (↑a : Int).toNat (0 : UInt8)).toNat : Int))) (fun gg0 => (runs_last baseTKo (Sx.Ends.of (tkU_p0 t0 t1 t2 s a) ⟨(okc ?_ (okc ?_ (okc ?_ (okc ?_ (okc gg0 (okc ?_ (okc ?_ okn))))))), ?_⟩) (by kernel_rfl) rfl (gtL (by decide)) (by decide))) (fun gg0 => (runs_last baseTKo (Sx.Ends.of (tkU_p1 t0 t1 t2 s a) ⟨(okc ?_ (okc ?_ (okc ?_ (okc ?_ (okc gg0 (okc ?_ okn)))))), ?_⟩) (by kernel_rfl) rfl (gtL (by decide)) (by decide)))
  all_goals first | (refine And.intro ?_ ?_ <;> ((try simp (disch := omega) only [SS, hw1, hl]); (repeat' apply And.intro); (all_goals first | exact True.intro | with_reducible rfl | omega | (intros; first | exact True.intro | (simp_all; done) | omega) | rfl | (simp_all; done)))) | (first | omega | (simp (disch := omega) only [SS, hw1, hl]; first | done | omega | assumption | exact ⟨by omega, by omega, by omega, h⟩ | exact ⟨by omega, by omega, h⟩ | exact ⟨by omega, h⟩ | exact h | exact ⟨by omega, by omega, by omega, h5⟩ | exact ⟨by omega, by omega, h5⟩ | (simp_all; done)) | (simp_all; done) | (simp_all; omega))

theorem tkUl_p0 (t0 t1 t2 : List UInt8) (s : List UInt8) (a : Nat) :
    isEnd (evTill Tryd.prog sumsTKl 400 (99) 900 51 [.code (bodyOf Tryd.f51)] (envOf [vP 63] Tryd.f51.ntmps) (sentEnts 23 213 [(5, t0), (6, t1), (0, t2)] ++ (rdW 63 s (a : Nat))) ⟨[.s true, .s false, .s false, .t, .s false, .t, .s false, .s true, .s true], 80⟩) (endP ([]) (.tup [(true, tkT (0) ([]) (0) .vl0), (false, vErr 0)]) ([]) 6000) =
    (OkL [(decide ((0 : Int) ≤ (a : Int) ∧ (a : Int) < (↑s.length : Int)), true), ((↑(s.getD (a : Int).toNat (0 : UInt8)).toNat : Int) == 10, false), ((↑(s.getD (a : Int).toNat (0 : UInt8)).toNat : Int) == 59, false), (ltrI (↑(s.getD (a : Int).toNat (0 : UInt8)).toNat : Int), false), (figI (↑(s.getD (a : Int).toNat (0 : UInt8)).toNat : Int), false), ((↑(s.getD (a : Int).toNat (0 : UInt8)).toNat : Int) == 45, true), (decide ((0 : Int) ≤ (a : Int)) && (decide ((a : Int).toNat < s.length) && (decide (s.length ≤ (10000 : Nat)) && isErR (4 : Nat) (numberR (List.drop (a : Int).toNat s)))), true)] ∧ (((0 : Int) = (0 : Int) ∧ ([] : List UInt8) = [] ∧ (0 : Int) = (0 : Int) ∧ True ∧ (0 : Int) = (0 : Int)) ∧ 0 = 0 ∧ True) ∧ True) := by kernel_rfl
theorem tkUl_p1 (t0 t1 t2 : List UInt8) (s : List UInt8) (a : Nat) :
    isEnd (evTill Tryd.prog sumsTKl 400 (99) 900 51 [.code (bodyOf Tryd.f51)] (envOf [vP 63] Tryd.f51.ntmps) (sentEnts 23 213 [(5, t0), (6, t1), (0, t2)] ++ (rdW 63 s (a : Nat))) ⟨[.s true, .s false, .s false, .t, .s false, .t, .s true, .s true], 80⟩) (endP ([]) (.tup [(true, tkT (0) ([]) (0) .vl0), (false, vErr 0)]) ([]) 6000) =
    (OkL [(decide ((0 : Int) ≤ (a : Int) ∧ (a : Int) < (↑s.length : Int)), true), ((↑(s.getD (a : Int).toNat (0 : UInt8)).toNat : Int) == 10, false), ((↑(s.getD (a : Int).toNat (0 : UInt8)).toNat : Int) == 59, false), (ltrI (↑(s.getD (a : Int).toNat (0 : UInt8)).toNat : Int), false), (figI (↑(s.getD (a : Int).toNat (0 : UInt8)).toNat : Int), true), (decide ((0 : Int) ≤ (a : Int)) && (decide ((a : Int).toNat < s.length) && (decide (s.length ≤ (10000 : Nat)) && isErR (4 : Nat) (numberR (List.drop (a : Int).toNat s)))), true)] ∧ (((0 : Int) = (0 : Int) ∧ ([] : List UInt8) = [] ∧ (0 : Int) = (0 : Int) ∧ True ∧ (0 : Int) = (0 : Int)) ∧ 0 = 0 ∧ True) ∧ True) := by kernel_rfl

set_option maxHeartbeats 4000000 in
theorem tkUl (t0 t1 t2 : List UInt8) (s : List UInt8) (a : Nat) (ha : a < s.length) (hs : s.length ≤ 4000) (n1 : (s.getD a 0).toNat ≠ 10) (n2 : (s.getD a 0).toNat ≠ 59) (hl : ltrI ((s.getD a 0).toNat : Int) = false) (hf : figI ((s.getD a 0).toNat : Int) = true ∨ (s.getD a 0).toNat = 45) (h : isErR 4 (numberR (s.drop a)) = true)  :
    RunsTo Tryd.prog 51 [.code (bodyOf Tryd.f51)] (envOf [vP 63] Tryd.f51.ntmps) (Sx.look (sentEnts 23 213 [(5, t0), (6, t1), (0, t2)] ++ (rdW 63 s (a : Nat)))) 80 (.tup [(true, tkT (0) ([]) (0) .vl0), (false, vErr 0)]) (Sx.look ([])) 6000 := by
  have hw1 : IntKind.i64.wrap ((a : Int) + 1) = ((a + 1 : Nat) : Int) := by rw [wr64 (by omega)]; rfl
  have hb0 := u8nat (s.getD a 0)
  refine bcase (c := (figI (↑(s.getD (↑a : Int).toNat (0 : UInt8)).toNat : Int))) (fun gg0 => (runs_last baseTKl (Sx.Ends.of (tkUl_p0 t0 t1 t2 s a) ⟨(okc ?_ (okc ?_ (okc ?_ (okc ?_ (okc gg0 (okc ?_ (okc ?_ okn))))))), ?_⟩) (by kernel_rfl) rfl (gtL (by decide)) (by decide))) (fun gg0 => (runs_last baseTKl (Sx.Ends.of (tkUl_p1 t0 t1 t2 s a) ⟨(okc ?_ (okc ?_ (okc ?_ (okc ?_ (okc gg0 (okc ?_ okn)))))), ?_⟩) (by kernel_rfl) rfl (gtL (by decide)) (by decide)))
  all_goals first | (refine And.intro ?_ ?_ <;> ((try simp (disch := omega) only [SS, hw1, hl]); (repeat' apply And.intro); (all_goals first | exact True.intro | with_reducible rfl | omega | (intros; first | exact True.intro | (simp_all; done) | omega) | rfl | (simp_all; done)))) | (first | omega | (simp (disch := omega) only [SS, hw1, hl]; first | done | omega | assumption | exact ⟨by omega, by omega, by omega, h⟩ | exact ⟨by omega, by omega, h⟩ | exact ⟨by omega, h⟩ | exact h | exact ⟨by omega, by omega, by omega, h5⟩ | exact ⟨by omega, by omega, h5⟩ | (simp_all; done)) | (simp_all; done) | (simp_all; omega))

theorem tkUf_p0 (t0 t1 t2 : List UInt8) (s : List UInt8) (a : Nat) :
    isEnd (evTill Tryd.prog sumsTKf 400 (99) 900 51 [.code (bodyOf Tryd.f51)] (envOf [vP 63] Tryd.f51.ntmps) (sentEnts 23 213 [(5, t0), (6, t1), (0, t2)] ++ (rdW 63 s (a : Nat))) ⟨[.s true, .s false, .s false, .t, .s false, .t, .s false, .s true, .s true], 80⟩) (endP ([]) (.tup [(true, tkT (0) ([]) (0) .vl0), (false, vErr 6)]) ([]) 6000) =
    (OkL [(decide ((0 : Int) ≤ (a : Int) ∧ (a : Int) < (↑s.length : Int)), true), ((↑(s.getD (a : Int).toNat (0 : UInt8)).toNat : Int) == 10, false), ((↑(s.getD (a : Int).toNat (0 : UInt8)).toNat : Int) == 59, false), (ltrI (↑(s.getD (a : Int).toNat (0 : UInt8)).toNat : Int), false), (figI (↑(s.getD (a : Int).toNat (0 : UInt8)).toNat : Int), false), ((↑(s.getD (a : Int).toNat (0 : UInt8)).toNat : Int) == 45, true), (decide ((0 : Int) ≤ (a : Int)) && (decide ((a : Int).toNat < s.length) && (decide (s.length ≤ (10000 : Nat)) && isErR (5 : Nat) (numberR (List.drop (a : Int).toNat s)))), true)] ∧ (((0 : Int) = (0 : Int) ∧ ([] : List UInt8) = [] ∧ (0 : Int) = (0 : Int) ∧ True ∧ (0 : Int) = (0 : Int)) ∧ 0 = 0 ∧ True) ∧ True) := by kernel_rfl
theorem tkUf_p1 (t0 t1 t2 : List UInt8) (s : List UInt8) (a : Nat) :
    isEnd (evTill Tryd.prog sumsTKf 400 (99) 900 51 [.code (bodyOf Tryd.f51)] (envOf [vP 63] Tryd.f51.ntmps) (sentEnts 23 213 [(5, t0), (6, t1), (0, t2)] ++ (rdW 63 s (a : Nat))) ⟨[.s true, .s false, .s false, .t, .s false, .t, .s true, .s true], 80⟩) (endP ([]) (.tup [(true, tkT (0) ([]) (0) .vl0), (false, vErr 6)]) ([]) 6000) =
    (OkL [(decide ((0 : Int) ≤ (a : Int) ∧ (a : Int) < (↑s.length : Int)), true), ((↑(s.getD (a : Int).toNat (0 : UInt8)).toNat : Int) == 10, false), ((↑(s.getD (a : Int).toNat (0 : UInt8)).toNat : Int) == 59, false), (ltrI (↑(s.getD (a : Int).toNat (0 : UInt8)).toNat : Int), false), (figI (↑(s.getD (a : Int).toNat (0 : UInt8)).toNat : Int), true), (decide ((0 : Int) ≤ (a : Int)) && (decide ((a : Int).toNat < s.length) && (decide (s.length ≤ (10000 : Nat)) && isErR (5 : Nat) (numberR (List.drop (a : Int).toNat s)))), true)] ∧ (((0 : Int) = (0 : Int) ∧ ([] : List UInt8) = [] ∧ (0 : Int) = (0 : Int) ∧ True ∧ (0 : Int) = (0 : Int)) ∧ 0 = 0 ∧ True) ∧ True) := by kernel_rfl

set_option maxHeartbeats 4000000 in
theorem tkUf (t0 t1 t2 : List UInt8) (s : List UInt8) (a : Nat) (ha : a < s.length) (hs : s.length ≤ 4000) (n1 : (s.getD a 0).toNat ≠ 10) (n2 : (s.getD a 0).toNat ≠ 59) (hl : ltrI ((s.getD a 0).toNat : Int) = false) (hf : figI ((s.getD a 0).toNat : Int) = true ∨ (s.getD a 0).toNat = 45) (h : isErR 5 (numberR (s.drop a)) = true)  :
    RunsTo Tryd.prog 51 [.code (bodyOf Tryd.f51)] (envOf [vP 63] Tryd.f51.ntmps) (Sx.look (sentEnts 23 213 [(5, t0), (6, t1), (0, t2)] ++ (rdW 63 s (a : Nat)))) 80 (.tup [(true, tkT (0) ([]) (0) .vl0), (false, vErr 6)]) (Sx.look ([])) 6000 := by
  have hw1 : IntKind.i64.wrap ((a : Int) + 1) = ((a + 1 : Nat) : Int) := by rw [wr64 (by omega)]; rfl
  have hb0 := u8nat (s.getD a 0)
  refine bcase (c := (figI (↑(s.getD (↑a : Int).toNat (0 : UInt8)).toNat : Int))) (fun gg0 => (runs_last baseTKf (Sx.Ends.of (tkUf_p0 t0 t1 t2 s a) ⟨(okc ?_ (okc ?_ (okc ?_ (okc ?_ (okc gg0 (okc ?_ (okc ?_ okn))))))), ?_⟩) (by kernel_rfl) rfl (gtL (by decide)) (by decide))) (fun gg0 => (runs_last baseTKf (Sx.Ends.of (tkUf_p1 t0 t1 t2 s a) ⟨(okc ?_ (okc ?_ (okc ?_ (okc ?_ (okc gg0 (okc ?_ okn)))))), ?_⟩) (by kernel_rfl) rfl (gtL (by decide)) (by decide)))
  all_goals first | (refine And.intro ?_ ?_ <;> ((try simp (disch := omega) only [SS, hw1, hl]); (repeat' apply And.intro); (all_goals first | exact True.intro | with_reducible rfl | omega | (intros; first | exact True.intro | (simp_all; done) | omega) | rfl | (simp_all; done)))) | (first | omega | (simp (disch := omega) only [SS, hw1, hl]; first | done | omega | assumption | exact ⟨by omega, by omega, by omega, h⟩ | exact ⟨by omega, by omega, h⟩ | exact ⟨by omega, h⟩ | exact h | exact ⟨by omega, by omega, by omega, h5⟩ | exact ⟨by omega, by omega, h5⟩ | (simp_all; done)) | (simp_all; done) | (simp_all; omega))

theorem tkQ_p0 (t0 t1 t2 : List UInt8) (s : List UInt8) (a : Nat) :
    isEnd (evTill Tryd.prog sumsTKo 400 (99) 900 51 [.code (bodyOf Tryd.f51)] (envOf [vP 63] Tryd.f51.ntmps) (sentEnts 23 213 [(5, t0), (6, t1), (0, t2)] ++ (rdW 63 s (a : Nat))) ⟨[.s true, .s false, .s false, .t, .s false, .t, .s false, .s false, .s true, .s true], 80⟩) (endP ([(141, Rn.to 162)]) (.tup [(true, tkT (3) ([]) (0) (.vl 141 (fun _ => 0) 2 [] (fun _ => ((okT (txR s a)).ps).length))), (false, .ve0)]) (rdW 63 s (a + okN (txR s a) : Nat) ++ prE 141 ((okT (txR s a)).ps)) 6000) =
    (OkL [(decide ((0 : Int) ≤ (a : Int) ∧ (a : Int) < (↑s.length : Int)), true), ((↑(s.getD (a : Int).toNat (0 : UInt8)).toNat : Int) == 10, false), ((↑(s.getD (a : Int).toNat (0 : UInt8)).toNat : Int) == 59, false), (ltrI (↑(s.getD (a : Int).toNat (0 : UInt8)).toNat : Int), false), (figI (↑(s.getD (a : Int).toNat (0 : UInt8)).toNat : Int), false), ((↑(s.getD (a : Int).toNat (0 : UInt8)).toNat : Int) == 45, false), ((↑(s.getD (a : Int).toNat (0 : UInt8)).toNat : Int) == 34, true), (decide ((0 : Int) ≤ (a : Int)) && (decide ((a : Int).toNat < s.length) && (decide (s.length ≤ (10000 : Nat)) && isOkR (txR s (a : Int).toNat))), true)] ∧ (((3 : Int) = (3 : Int) ∧ ([] : List UInt8) = [] ∧ (0 : Int) = (0 : Int) ∧ (0 = 0 ∧ (okT (txR s a)).4.length = (okT (txR s (a : Int).toNat)).4.length) ∧ (0 : Int) = (0 : Int)) ∧ True ∧ True) ∧ (s = s ∧ (↑(a + okN (txR s a)) : Int) = (↑((a : Int).toNat + okN (txR s (a : Int).toNat)) : Int)) ∧ (okT (txR s a)).4.length = (okT (txR s (a : Int).toNat)).4.length ∧ (∀ (i : Nat), i < (okT (txR s a)).4.length → prV (okT (txR s a)).4 [i] = prV (okT (txR s (a : Int).toNat)).4 [i]) ∧ ∀ (i : Nat), i < (okT (txR s a)).4.length → prL (okT (txR s a)).4 [i] = prL (okT (txR s (a : Int).toNat)).4 [i]) := by kernel_rfl

set_option maxHeartbeats 4000000 in
theorem tkQ (t0 t1 t2 : List UInt8) (s : List UInt8) (a : Nat) (ha : a < s.length) (hs : s.length ≤ 4000) (n1 : (s.getD a 0).toNat ≠ 10) (n2 : (s.getD a 0).toNat ≠ 59) (hl : ltrI ((s.getD a 0).toNat : Int) = false) (hf : figI ((s.getD a 0).toNat : Int) = false) (n3 : (s.getD a 0).toNat ≠ 45) (n4 : (s.getD a 0).toNat = 34) (h : isOkR (txR s a) = true)  :
    RunsTo Tryd.prog 51 [.code (bodyOf Tryd.f51)] (envOf [vP 63] Tryd.f51.ntmps) (Sx.look (sentEnts 23 213 [(5, t0), (6, t1), (0, t2)] ++ (rdW 63 s (a : Nat)))) 80 (.tup [(true, tkT (3) ([]) (0) (.vl 141 (fun _ => 0) 2 [] (fun _ => ((okT (txR s a)).ps).length))), (false, .ve0)]) (Sx.look (rdW 63 s (a + okN (txR s a) : Nat) ++ prE 141 ((okT (txR s a)).ps))) 6000 := by
  have hw1 : IntKind.i64.wrap ((a : Int) + 1) = ((a + 1 : Nat) : Int) := by rw [wr64 (by omega)]; rfl
  have hb0 := u8nat (s.getD a 0)
  refine runs_last baseTKo (Sx.Ends.of (tkQ_p0 t0 t1 t2 s a) ⟨(okc ?_ (okc ?_ (okc ?_ (okc ?_ (okc ?_ (okc ?_ (okc ?_ (okc ?_ okn)))))))), ?_⟩) (by kernel_rfl) rfl (gtL (by decide)) (by decide)
  all_goals first | (refine And.intro ?_ ?_ <;> ((try simp (disch := omega) only [SS, hw1, hl, hf]); (repeat' apply And.intro); (all_goals first | exact True.intro | with_reducible rfl | omega | (intros; first | exact True.intro | (simp_all; done) | omega) | rfl | (simp_all; done)))) | (first | omega | (simp (disch := omega) only [SS, hw1, hl, hf]; first | done | omega | assumption | exact ⟨by omega, by omega, by omega, h⟩ | exact ⟨by omega, by omega, h⟩ | exact ⟨by omega, h⟩ | exact h | exact ⟨by omega, by omega, by omega, h5⟩ | exact ⟨by omega, by omega, h5⟩ | (simp_all; done)) | (simp_all; done) | (simp_all; omega))

theorem tkQs_p0 (t0 t1 t2 : List UInt8) (s : List UInt8) (a : Nat) :
    isEnd (evTill Tryd.prog sumsTKs 400 (99) 900 51 [.code (bodyOf Tryd.f51)] (envOf [vP 63] Tryd.f51.ntmps) (sentEnts 23 213 [(5, t0), (6, t1), (0, t2)] ++ (rdW 63 s (a : Nat))) ⟨[.s true, .s false, .s false, .t, .s false, .t, .s false, .s false, .s true, .s true], 80⟩) (endP ([]) (.tup [(true, tkT (0) ([]) (0) .vl0), (false, vErr 5)]) ([]) 6000) =
    (OkL [(decide ((0 : Int) ≤ (a : Int) ∧ (a : Int) < (↑s.length : Int)), true), ((↑(s.getD (a : Int).toNat (0 : UInt8)).toNat : Int) == 10, false), ((↑(s.getD (a : Int).toNat (0 : UInt8)).toNat : Int) == 59, false), (ltrI (↑(s.getD (a : Int).toNat (0 : UInt8)).toNat : Int), false), (figI (↑(s.getD (a : Int).toNat (0 : UInt8)).toNat : Int), false), ((↑(s.getD (a : Int).toNat (0 : UInt8)).toNat : Int) == 45, false), ((↑(s.getD (a : Int).toNat (0 : UInt8)).toNat : Int) == 34, true), (decide ((0 : Int) ≤ (a : Int)) && (decide ((a : Int).toNat < s.length) && (decide (s.length ≤ (10000 : Nat)) && isErR (3 : Nat) (txR s (a : Int).toNat))), true)] ∧ (((0 : Int) = (0 : Int) ∧ ([] : List UInt8) = [] ∧ (0 : Int) = (0 : Int) ∧ True ∧ (0 : Int) = (0 : Int)) ∧ 0 = 0 ∧ True) ∧ True) := by kernel_rfl

set_option maxHeartbeats 4000000 in
theorem tkQs (t0 t1 t2 : List UInt8) (s : List UInt8) (a : Nat) (ha : a < s.length) (hs : s.length ≤ 4000) (n1 : (s.getD a 0).toNat ≠ 10) (n2 : (s.getD a 0).toNat ≠ 59) (hl : ltrI ((s.getD a 0).toNat : Int) = false) (hf : figI ((s.getD a 0).toNat : Int) = false) (n3 : (s.getD a 0).toNat ≠ 45) (n4 : (s.getD a 0).toNat = 34) (h : isErR 3 (txR s a) = true)  :
    RunsTo Tryd.prog 51 [.code (bodyOf Tryd.f51)] (envOf [vP 63] Tryd.f51.ntmps) (Sx.look (sentEnts 23 213 [(5, t0), (6, t1), (0, t2)] ++ (rdW 63 s (a : Nat)))) 80 (.tup [(true, tkT (0) ([]) (0) .vl0), (false, vErr 5)]) (Sx.look ([])) 6000 := by
  have hw1 : IntKind.i64.wrap ((a : Int) + 1) = ((a + 1 : Nat) : Int) := by rw [wr64 (by omega)]; rfl
  have hb0 := u8nat (s.getD a 0)
  refine runs_last baseTKs (Sx.Ends.of (tkQs_p0 t0 t1 t2 s a) ⟨(okc ?_ (okc ?_ (okc ?_ (okc ?_ (okc ?_ (okc ?_ (okc ?_ (okc ?_ okn)))))))), ?_⟩) (by kernel_rfl) rfl (gtL (by decide)) (by decide)
  all_goals first | (refine And.intro ?_ ?_ <;> ((try simp (disch := omega) only [SS, hw1, hl, hf]); (repeat' apply And.intro); (all_goals first | exact True.intro | with_reducible rfl | omega | (intros; first | exact True.intro | (simp_all; done) | omega) | rfl | (simp_all; done)))) | (first | omega | (simp (disch := omega) only [SS, hw1, hl, hf]; first | done | omega | assumption | exact ⟨by omega, by omega, by omega, h⟩ | exact ⟨by omega, by omega, h⟩ | exact ⟨by omega, h⟩ | exact h | exact ⟨by omega, by omega, by omega, h5⟩ | exact ⟨by omega, by omega, h5⟩ | (simp_all; done)) | (simp_all; done) | (simp_all; omega))

theorem tkQf_p0 (t0 t1 t2 : List UInt8) (s : List UInt8) (a : Nat) :
    isEnd (evTill Tryd.prog sumsTKf 400 (99) 900 51 [.code (bodyOf Tryd.f51)] (envOf [vP 63] Tryd.f51.ntmps) (sentEnts 23 213 [(5, t0), (6, t1), (0, t2)] ++ (rdW 63 s (a : Nat))) ⟨[.s true, .s false, .s false, .t, .s false, .t, .s false, .s false, .s true, .s true], 80⟩) (endP ([]) (.tup [(true, tkT (0) ([]) (0) .vl0), (false, vErr 6)]) ([]) 6000) =
    (OkL [(decide ((0 : Int) ≤ (a : Int) ∧ (a : Int) < (↑s.length : Int)), true), ((↑(s.getD (a : Int).toNat (0 : UInt8)).toNat : Int) == 10, false), ((↑(s.getD (a : Int).toNat (0 : UInt8)).toNat : Int) == 59, false), (ltrI (↑(s.getD (a : Int).toNat (0 : UInt8)).toNat : Int), false), (figI (↑(s.getD (a : Int).toNat (0 : UInt8)).toNat : Int), false), ((↑(s.getD (a : Int).toNat (0 : UInt8)).toNat : Int) == 45, false), ((↑(s.getD (a : Int).toNat (0 : UInt8)).toNat : Int) == 34, true), (decide ((0 : Int) ≤ (a : Int)) && (decide ((a : Int).toNat < s.length) && (decide (s.length ≤ (10000 : Nat)) && isErR (5 : Nat) (txR s (a : Int).toNat))), true)] ∧ (((0 : Int) = (0 : Int) ∧ ([] : List UInt8) = [] ∧ (0 : Int) = (0 : Int) ∧ True ∧ (0 : Int) = (0 : Int)) ∧ 0 = 0 ∧ True) ∧ True) := by kernel_rfl

set_option maxHeartbeats 4000000 in
theorem tkQf (t0 t1 t2 : List UInt8) (s : List UInt8) (a : Nat) (ha : a < s.length) (hs : s.length ≤ 4000) (n1 : (s.getD a 0).toNat ≠ 10) (n2 : (s.getD a 0).toNat ≠ 59) (hl : ltrI ((s.getD a 0).toNat : Int) = false) (hf : figI ((s.getD a 0).toNat : Int) = false) (n3 : (s.getD a 0).toNat ≠ 45) (n4 : (s.getD a 0).toNat = 34) (h : isErR 5 (txR s a) = true)  :
    RunsTo Tryd.prog 51 [.code (bodyOf Tryd.f51)] (envOf [vP 63] Tryd.f51.ntmps) (Sx.look (sentEnts 23 213 [(5, t0), (6, t1), (0, t2)] ++ (rdW 63 s (a : Nat)))) 80 (.tup [(true, tkT (0) ([]) (0) .vl0), (false, vErr 6)]) (Sx.look ([])) 6000 := by
  have hw1 : IntKind.i64.wrap ((a : Int) + 1) = ((a + 1 : Nat) : Int) := by rw [wr64 (by omega)]; rfl
  have hb0 := u8nat (s.getD a 0)
  refine runs_last baseTKf (Sx.Ends.of (tkQf_p0 t0 t1 t2 s a) ⟨(okc ?_ (okc ?_ (okc ?_ (okc ?_ (okc ?_ (okc ?_ (okc ?_ (okc ?_ okn)))))))), ?_⟩) (by kernel_rfl) rfl (gtL (by decide)) (by decide)
  all_goals first | (refine And.intro ?_ ?_ <;> ((try simp (disch := omega) only [SS, hw1, hl, hf]); (repeat' apply And.intro); (all_goals first | exact True.intro | with_reducible rfl | omega | (intros; first | exact True.intro | (simp_all; done) | omega) | rfl | (simp_all; done)))) | (first | omega | (simp (disch := omega) only [SS, hw1, hl, hf]; first | done | omega | assumption | exact ⟨by omega, by omega, by omega, h⟩ | exact ⟨by omega, by omega, h⟩ | exact ⟨by omega, h⟩ | exact h | exact ⟨by omega, by omega, by omega, h5⟩ | exact ⟨by omega, by omega, h5⟩ | (simp_all; done)) | (simp_all; done) | (simp_all; omega))

theorem tkQl_p0 (t0 t1 t2 : List UInt8) (s : List UInt8) (a : Nat) :
    isEnd (evTill Tryd.prog sumsTKl 400 (99) 900 51 [.code (bodyOf Tryd.f51)] (envOf [vP 63] Tryd.f51.ntmps) (sentEnts 23 213 [(5, t0), (6, t1), (0, t2)] ++ (rdW 63 s (a : Nat))) ⟨[.s true, .s false, .s false, .t, .s false, .t, .s false, .s false, .s true, .s true], 80⟩) (endP ([]) (.tup [(true, tkT (0) ([]) (0) .vl0), (false, vErr 0)]) ([]) 6000) =
    (OkL [(decide ((0 : Int) ≤ (a : Int) ∧ (a : Int) < (↑s.length : Int)), true), ((↑(s.getD (a : Int).toNat (0 : UInt8)).toNat : Int) == 10, false), ((↑(s.getD (a : Int).toNat (0 : UInt8)).toNat : Int) == 59, false), (ltrI (↑(s.getD (a : Int).toNat (0 : UInt8)).toNat : Int), false), (figI (↑(s.getD (a : Int).toNat (0 : UInt8)).toNat : Int), false), ((↑(s.getD (a : Int).toNat (0 : UInt8)).toNat : Int) == 45, false), ((↑(s.getD (a : Int).toNat (0 : UInt8)).toNat : Int) == 34, true), (decide ((0 : Int) ≤ (a : Int)) && (decide ((a : Int).toNat < s.length) && (decide (s.length ≤ (10000 : Nat)) && isErR (4 : Nat) (txR s (a : Int).toNat))), true)] ∧ (((0 : Int) = (0 : Int) ∧ ([] : List UInt8) = [] ∧ (0 : Int) = (0 : Int) ∧ True ∧ (0 : Int) = (0 : Int)) ∧ 0 = 0 ∧ True) ∧ True) := by kernel_rfl

set_option maxHeartbeats 4000000 in
theorem tkQl (t0 t1 t2 : List UInt8) (s : List UInt8) (a : Nat) (ha : a < s.length) (hs : s.length ≤ 4000) (n1 : (s.getD a 0).toNat ≠ 10) (n2 : (s.getD a 0).toNat ≠ 59) (hl : ltrI ((s.getD a 0).toNat : Int) = false) (hf : figI ((s.getD a 0).toNat : Int) = false) (n3 : (s.getD a 0).toNat ≠ 45) (n4 : (s.getD a 0).toNat = 34) (h : isErR 4 (txR s a) = true)  :
    RunsTo Tryd.prog 51 [.code (bodyOf Tryd.f51)] (envOf [vP 63] Tryd.f51.ntmps) (Sx.look (sentEnts 23 213 [(5, t0), (6, t1), (0, t2)] ++ (rdW 63 s (a : Nat)))) 80 (.tup [(true, tkT (0) ([]) (0) .vl0), (false, vErr 0)]) (Sx.look ([])) 6000 := by
  have hw1 : IntKind.i64.wrap ((a : Int) + 1) = ((a + 1 : Nat) : Int) := by rw [wr64 (by omega)]; rfl
  have hb0 := u8nat (s.getD a 0)
  refine runs_last baseTKl (Sx.Ends.of (tkQl_p0 t0 t1 t2 s a) ⟨(okc ?_ (okc ?_ (okc ?_ (okc ?_ (okc ?_ (okc ?_ (okc ?_ (okc ?_ okn)))))))), ?_⟩) (by kernel_rfl) rfl (gtL (by decide)) (by decide)
  all_goals first | (refine And.intro ?_ ?_ <;> ((try simp (disch := omega) only [SS, hw1, hl, hf]); (repeat' apply And.intro); (all_goals first | exact True.intro | with_reducible rfl | omega | (intros; first | exact True.intro | (simp_all; done) | omega) | rfl | (simp_all; done)))) | (first | omega | (simp (disch := omega) only [SS, hw1, hl, hf]; first | done | omega | assumption | exact ⟨by omega, by omega, by omega, h⟩ | exact ⟨by omega, by omega, h⟩ | exact ⟨by omega, h⟩ | exact h | exact ⟨by omega, by omega, by omega, h5⟩ | exact ⟨by omega, by omega, h5⟩ | (simp_all; done)) | (simp_all; done) | (simp_all; omega))

theorem tkG_p0 (t0 t1 t2 : List UInt8) (s : List UInt8) (a : Nat) :
    isEnd (evTill Tryd.prog sumsTKo 400 (99) 900 51 [.code (bodyOf Tryd.f51)] (envOf [vP 63] Tryd.f51.ntmps) (sentEnts 23 213 [(5, t0), (6, t1), (0, t2)] ++ (rdW 63 s (a : Nat))) ⟨[.s true, .s false, .s false, .t, .s false, .t, .s false, .s false, .s false, .s true], 80⟩) (endP ([(141, Rn.nil 2)]) (.tup [(true, tkT (4) ((okT (signR (s.drop a))).text) (0) (.vl 141 (fun _ => 0) 2 [] (fun _ => (([] : List Pc)).length))), (false, .ve0)]) (rdW 63 s (a + okN (signR (s.drop a)) : Nat) ++ prE 141 (([] : List Pc))) 6000) =
    (OkL [(decide ((0 : Int) ≤ (a : Int) ∧ (a : Int) < (↑s.length : Int)), true), ((↑(s.getD (a : Int).toNat (0 : UInt8)).toNat : Int) == 10, false), ((↑(s.getD (a : Int).toNat (0 : UInt8)).toNat : Int) == 59, false), (ltrI (↑(s.getD (a : Int).toNat (0 : UInt8)).toNat : Int), false), (figI (↑(s.getD (a : Int).toNat (0 : UInt8)).toNat : Int), false), ((↑(s.getD (a : Int).toNat (0 : UInt8)).toNat : Int) == 45, false), ((↑(s.getD (a : Int).toNat (0 : UInt8)).toNat : Int) == 34, false), (decide ((0 : Int) ≤ (a : Int)) && (decide ((a : Int).toNat < s.length) && (decide (s.length ≤ (10000 : Nat)) && isOkR (signR (List.drop (a : Int).toNat s)))), true)] ∧ (((4 : Int) = (4 : Int) ∧ (okT (signR (List.drop a s))).2 = (okT (signR (List.drop (a : Int).toNat s))).2 ∧ (0 : Int) = (0 : Int) ∧ 0 = 0 ∧ (0 : Int) = (0 : Int)) ∧ True ∧ True) ∧ (s = s ∧ (↑(a + okN (signR (List.drop a s))) : Int) = (↑((a : Int).toNat + okN (signR (List.drop (a : Int).toNat s))) : Int)) ∧ 0 = 0) := by kernel_rfl

set_option maxHeartbeats 4000000 in
theorem tkG (t0 t1 t2 : List UInt8) (s : List UInt8) (a : Nat) (ha : a < s.length) (hs : s.length ≤ 4000) (n1 : (s.getD a 0).toNat ≠ 10) (n2 : (s.getD a 0).toNat ≠ 59) (hl : ltrI ((s.getD a 0).toNat : Int) = false) (hf : figI ((s.getD a 0).toNat : Int) = false) (n3 : (s.getD a 0).toNat ≠ 45) (n4 : (s.getD a 0).toNat ≠ 34) (h : isOkR (signR (s.drop a)) = true)  :
    RunsTo Tryd.prog 51 [.code (bodyOf Tryd.f51)] (envOf [vP 63] Tryd.f51.ntmps) (Sx.look (sentEnts 23 213 [(5, t0), (6, t1), (0, t2)] ++ (rdW 63 s (a : Nat)))) 80 (.tup [(true, tkT (4) ((okT (signR (s.drop a))).text) (0) (.vl 141 (fun _ => 0) 2 [] (fun _ => (([] : List Pc)).length))), (false, .ve0)]) (Sx.look (rdW 63 s (a + okN (signR (s.drop a)) : Nat) ++ prE 141 (([] : List Pc)))) 6000 := by
  have hw1 : IntKind.i64.wrap ((a : Int) + 1) = ((a + 1 : Nat) : Int) := by rw [wr64 (by omega)]; rfl
  have hb0 := u8nat (s.getD a 0)
  refine runs_last baseTKo (Sx.Ends.of (tkG_p0 t0 t1 t2 s a) ⟨(okc ?_ (okc ?_ (okc ?_ (okc ?_ (okc ?_ (okc ?_ (okc ?_ (okc ?_ okn)))))))), ?_⟩) (by kernel_rfl) rfl (gtL (by decide)) (by decide)
  all_goals first | (refine And.intro ?_ ?_ <;> ((try simp (disch := omega) only [SS, hw1, hl, hf]); (repeat' apply And.intro); (all_goals first | exact True.intro | with_reducible rfl | omega | (intros; first | exact True.intro | (simp_all; done) | omega) | rfl | (simp_all; done)))) | (first | omega | (simp (disch := omega) only [SS, hw1, hl, hf]; first | done | omega | assumption | exact ⟨by omega, by omega, by omega, h⟩ | exact ⟨by omega, by omega, h⟩ | exact ⟨by omega, h⟩ | exact h | exact ⟨by omega, by omega, by omega, h5⟩ | exact ⟨by omega, by omega, h5⟩ | (simp_all; done)) | (simp_all; done) | (simp_all; omega))

theorem tkGf_p0 (t0 t1 t2 : List UInt8) (s : List UInt8) (a : Nat) :
    isEnd (evTill Tryd.prog sumsTKf 400 (99) 900 51 [.code (bodyOf Tryd.f51)] (envOf [vP 63] Tryd.f51.ntmps) (sentEnts 23 213 [(5, t0), (6, t1), (0, t2)] ++ (rdW 63 s (a : Nat))) ⟨[.s true, .s false, .s false, .t, .s false, .t, .s false, .s false, .s false, .s true], 80⟩) (endP ([]) (.tup [(true, tkT (0) ([]) (0) .vl0), (false, vErr 6)]) ([]) 6000) =
    (OkL [(decide ((0 : Int) ≤ (a : Int) ∧ (a : Int) < (↑s.length : Int)), true), ((↑(s.getD (a : Int).toNat (0 : UInt8)).toNat : Int) == 10, false), ((↑(s.getD (a : Int).toNat (0 : UInt8)).toNat : Int) == 59, false), (ltrI (↑(s.getD (a : Int).toNat (0 : UInt8)).toNat : Int), false), (figI (↑(s.getD (a : Int).toNat (0 : UInt8)).toNat : Int), false), ((↑(s.getD (a : Int).toNat (0 : UInt8)).toNat : Int) == 45, false), ((↑(s.getD (a : Int).toNat (0 : UInt8)).toNat : Int) == 34, false), (decide ((0 : Int) ≤ (a : Int)) && (decide ((a : Int).toNat < s.length) && (decide (s.length ≤ (10000 : Nat)) && isErR (5 : Nat) (signR (List.drop (a : Int).toNat s)))), true)] ∧ (((0 : Int) = (0 : Int) ∧ ([] : List UInt8) = [] ∧ (0 : Int) = (0 : Int) ∧ True ∧ (0 : Int) = (0 : Int)) ∧ 0 = 0 ∧ True) ∧ True) := by kernel_rfl

set_option maxHeartbeats 4000000 in
theorem tkGf (t0 t1 t2 : List UInt8) (s : List UInt8) (a : Nat) (ha : a < s.length) (hs : s.length ≤ 4000) (n1 : (s.getD a 0).toNat ≠ 10) (n2 : (s.getD a 0).toNat ≠ 59) (hl : ltrI ((s.getD a 0).toNat : Int) = false) (hf : figI ((s.getD a 0).toNat : Int) = false) (n3 : (s.getD a 0).toNat ≠ 45) (n4 : (s.getD a 0).toNat ≠ 34) (h : isErR 5 (signR (s.drop a)) = true)  :
    RunsTo Tryd.prog 51 [.code (bodyOf Tryd.f51)] (envOf [vP 63] Tryd.f51.ntmps) (Sx.look (sentEnts 23 213 [(5, t0), (6, t1), (0, t2)] ++ (rdW 63 s (a : Nat)))) 80 (.tup [(true, tkT (0) ([]) (0) .vl0), (false, vErr 6)]) (Sx.look ([])) 6000 := by
  have hw1 : IntKind.i64.wrap ((a : Int) + 1) = ((a + 1 : Nat) : Int) := by rw [wr64 (by omega)]; rfl
  have hb0 := u8nat (s.getD a 0)
  refine runs_last baseTKf (Sx.Ends.of (tkGf_p0 t0 t1 t2 s a) ⟨(okc ?_ (okc ?_ (okc ?_ (okc ?_ (okc ?_ (okc ?_ (okc ?_ (okc ?_ okn)))))))), ?_⟩) (by kernel_rfl) rfl (gtL (by decide)) (by decide)
  all_goals first | (refine And.intro ?_ ?_ <;> ((try simp (disch := omega) only [SS, hw1, hl, hf]); (repeat' apply And.intro); (all_goals first | exact True.intro | with_reducible rfl | omega | (intros; first | exact True.intro | (simp_all; done) | omega) | rfl | (simp_all; done)))) | (first | omega | (simp (disch := omega) only [SS, hw1, hl, hf]; first | done | omega | assumption | exact ⟨by omega, by omega, by omega, h⟩ | exact ⟨by omega, by omega, h⟩ | exact ⟨by omega, h⟩ | exact h | exact ⟨by omega, by omega, by omega, h5⟩ | exact ⟨by omega, by omega, h5⟩ | (simp_all; done)) | (simp_all; done) | (simp_all; omega))

def TKR (s : List UInt8) (a : Nat) (X : SV → HF → Prop) : TR → Prop
  | .ok t n => X (.tup [(true, tkT (t.kind) (t.text) (t.num) (.vl 141 (fun _ => 0) 2 [] (fun _ => (t.ps).length))), (false, .ve0)]) (Sx.look (rdW 63 s (a + n : Nat) ++ prE 141 (t.ps)))
  | .err e => (e = 3 ∧ X (.tup [(true, tkT (0) ([]) (0) .vl0), (false, vErr 5)]) (Sx.look [])) ∨ (e = 5 ∧ X (.tup [(true, tkT (0) ([]) (0) .vl0), (false, vErr 6)]) (Sx.look [])) ∨ (e = 4 ∧ X (.tup [(true, tkT (0) ([]) (0) .vl0), (false, vErr 0)]) (Sx.look []))
theorem tok_eq (s : List UInt8) (a : Nat) (ha : a < s.length) : tokR (s.drop a) = if s.getD a 0 = 10 ∨ s.getD a 0 = 59 then .ok ⟨5, [], 0, [], 0⟩ 1 else if ltrI ((s.getD a 0).toNat : Int) = true then nameR (s.drop a) else if figI ((s.getD a 0).toNat : Int) = true ∨ s.getD a 0 = 45 then numberR (s.drop a) else if s.getD a 0 = 34 then txR s a else signR (s.drop a) := by
  have hd := drop_at s ha
  unfold txR
  rw [hd]; rfl
theorem numK_ok {m : Bool} {r : List UInt8} {t : Wt} {n : Nat} (h : numK m r = .ok t n) : t = ⟨2, [], t.num, [], 0⟩ := by
  unfold numK at h
  split at h
  · cases h
  · split at h
    · cases h
    · injection h with h1 h2; rw [← h1]
theorem number_ok {l : List UInt8} {t : Wt} {n : Nat} (h : numberR l = .ok t n) : t = ⟨2, [], t.num, [], 0⟩ := by
  cases l with
  | nil => exact numK_ok h
  | cons c r =>
    rw [numberR] at h
    split at h <;> exact numK_ok h
theorem number_e {l : List UInt8} {e : Nat} (h : numberR l = .err e) : e = 4 ∨ e = 5 := by
  have hk : ∀ {m r e}, numK m r = .err e → e = 4 ∨ e = 5 := by
    intro m r e h
    unfold numK at h
    split at h
    · injection h with h; exact .inl h.symm
    · split at h
      · injection h with h; exact .inr h.symm
      · cases h
  cases l with
  | nil => exact hk h
  | cons c r =>
    rw [numberR] at h
    split at h <;> exact hk h
theorem text_ok : ∀ (f : Nat) (l : List UInt8) (P : List Pc) (n : Nat) {t : Wt} {m : Nat}, textR f l P n = .ok t m → t = ⟨3, [], 0, t.ps, 0⟩
  | 0, l, P, n, t, m, h => by cases h
  | f + 1, [], P, n, t, m, h => by cases h
  | f + 1, c :: r, P, n, t, m, h => by
    rw [textR] at h
    split at h
    · injection h with h1 h2; rw [← h1]
    · split at h
      · cases h
      · split at h
        · exact text_ok f _ _ _ h
        · cases h
      · split at h
        · exact text_ok f _ _ _ h
        · cases h
theorem text_e : ∀ (f : Nat) (l : List UInt8) (P : List Pc) (n : Nat) {e : Nat}, textR f l P n = .err e → (∀ q, (varR q = .err e ∨ escR q = .err e) → e = 3 ∨ e = 4 ∨ e = 5) → e = 3 ∨ e = 4 ∨ e = 5
  | 0, l, P, n, e, h, _ => by injection h with h; exact .inl h.symm
  | f + 1, [], P, n, e, h, _ => by injection h with h; exact .inl h.symm
  | f + 1, c :: r, P, n, e, h, hq => by
    rw [textR] at h
    split at h
    · cases h
    · split at h
      · rename_i k hk
        injection h with h
        subst h
        rw [oneR] at hk
        split at hk
        · exact hq _ (.inl hk)
        · split at hk
          · injection hk with hk; omega
          · split at hk
            · exact hq _ (.inr hk)
            · cases hk
      · split at h
        · exact text_e f _ _ _ h hq
        · injection h with h; omega
      · split at h
        · exact text_e f _ _ _ h hq
        · injection h with h; omega
theorem esc_e {q : List UInt8} {e : Nat} (h : varR q = .err e ∨ escR q = .err e) : e = 3 ∨ e = 4 ∨ e = 5 := by
  rcases h with h | h
  · cases q with
    | nil => injection h with h; omega
    | cons d r =>
      rw [varR] at h
      repeat' split at h
      all_goals first | (cases h; done) | (injection h with h; omega)
  · have hx : ∀ {r e}, hexR r = .err e → e = 3 ∨ e = 4 ∨ e = 5 := by
      intro r e h
      match r, h with
      | [], h => injection h with h; omega
      | [x], h => rw [hexR] at h; split at h <;> (injection h with h; omega)
      | x :: y :: q, h =>
        rw [hexR] at h
        repeat' split at h
        all_goals first | (cases h; done) | (injection h with h; omega)
    cases q with
    | nil => injection h with h; omega
    | cons d r =>
      rw [escR] at h
      repeat' split at h
      all_goals first | (cases h; done) | exact hx h | (injection h with h; omega)
theorem sign_ok {c : UInt8} {r : List UInt8} {t : Wt} {n : Nat} (h : signR (c :: r) = .ok t n) : t = ⟨4, t.text, 0, [], 0⟩ := by
  rw [sign_eq] at h
  split at h
  · injection h with h1 h2; rw [← h1]
  · split at h
    · injection h with h1 h2; rw [← h1]
    · cases h
theorem sign_e {c : UInt8} {r : List UInt8} {e : Nat} (h : signR (c :: r) = .err e) : e = 5 := by
  rw [sign_eq] at h
  split at h
  · cases h
  · split at h
    · cases h
    · injection h with h; exact h.symm
theorem tokT (t0 t1 t2 s : List UInt8) (a : Nat) (ha : a < s.length) (hs : s.length ≤ 4000) : TKR s a (fun v L' => RunsTo Tryd.prog 51 [.code (bodyOf Tryd.f51)] (envOf [vP 63] Tryd.f51.ntmps) (Sx.look (sentEnts 23 213 [(5, t0), (6, t1), (0, t2)] ++ (rdW 63 s (a : Nat)))) 80 (v) (L') 6000) (tokR (s.drop a)) := by
  rw [tok_eq s a ha]
  have hn : ∀ {k : UInt8}, s.getD a 0 ≠ k → (s.getD a 0).toNat ≠ k.toNat := fun h => nat_ne h
  by_cases h1 : s.getD a 0 = 10 ∨ s.getD a 0 = 59
  · rw [if_pos h1]
    exact tkE t0 t1 t2 s a ha hs (h1.imp (fun e => by rw [e]; rfl) (fun e => by rw [e]; rfl))
  rw [if_neg h1]
  have n1 : (s.getD a 0).toNat ≠ 10 := hn (fun e => h1 (.inl e))
  have n2 : (s.getD a 0).toNat ≠ 59 := hn (fun e => h1 (.inr e))
  cases hl : ltrI ((s.getD a 0).toNat : Int) with
  | true =>
    rw [if_pos rfl, nameR]
    by_cases h5 : 24 < spanR goI (s.drop a)
    · rw [if_pos h5]; exact .inr (.inr ⟨rfl, tkNl t0 t1 t2 s a ha hs n1 n2 hl h5⟩)
    · rw [if_neg h5]
      have q := tkN t0 t1 t2 s a ha hs n1 n2 hl (by omega)
      unfold txt at q
      rw [take_drop] at q
      exact q
  | false =>
    rw [if_neg (by decide)]
    by_cases h2 : figI ((s.getD a 0).toNat : Int) = true ∨ s.getD a 0 = 45
    · rw [if_pos h2]
      have hf : figI ((s.getD a 0).toNat : Int) = true ∨ (s.getD a 0).toNat = 45 := h2.imp id (fun e => by rw [e]; rfl)
      cases hz : numberR (s.drop a) with
      | ok t n =>
        have q := tkU t0 t1 t2 s a ha hs n1 n2 hl hf (by rw [hz]; rfl)
        rw [hz] at q
        have e := number_ok hz
        rw [e]
        exact q
      | err e =>
        rcases number_e hz with rfl | rfl
        · exact .inr (.inr ⟨rfl, tkUl t0 t1 t2 s a ha hs n1 n2 hl hf (by rw [hz]; rfl)⟩)
        · exact .inr (.inl ⟨rfl, tkUf t0 t1 t2 s a ha hs n1 n2 hl hf (by rw [hz]; rfl)⟩)
    · rw [if_neg h2]
      have hf : figI ((s.getD a 0).toNat : Int) = false := by
        cases hx : figI ((s.getD a 0).toNat : Int) with
        | true => exact absurd (.inl hx) h2
        | false => rfl
      have n3 : (s.getD a 0).toNat ≠ 45 := hn (fun e => h2 (.inr e))
      by_cases h3 : s.getD a 0 = 34
      · rw [if_pos h3]
        have h3 : (s.getD a 0).toNat = 34 := by rw [h3]; rfl
        cases hz : txR s a with
        | ok t n =>
          have q := tkQ t0 t1 t2 s a ha hs n1 n2 hl hf n3 h3 (by rw [hz]; rfl)
          rw [hz] at q
          have e := text_ok _ _ _ _ hz
          rw [e]
          exact q
        | err e =>
          rcases text_e _ _ _ _ hz (fun q => esc_e) with rfl | rfl | rfl
          · exact .inl ⟨rfl, tkQs t0 t1 t2 s a ha hs n1 n2 hl hf n3 h3 (by rw [hz]; rfl)⟩
          · exact .inr (.inr ⟨rfl, tkQl t0 t1 t2 s a ha hs n1 n2 hl hf n3 h3 (by rw [hz]; rfl)⟩)
          · exact .inr (.inl ⟨rfl, tkQf t0 t1 t2 s a ha hs n1 n2 hl hf n3 h3 (by rw [hz]; rfl)⟩)
      · rw [if_neg h3]
        have n4 : (s.getD a 0).toNat ≠ 34 := hn h3
        cases hz : signR (s.drop a) with
        | ok t n =>
          have q := tkG t0 t1 t2 s a ha hs n1 n2 hl hf n3 n4 (by rw [hz]; rfl)
          rw [hz] at q
          rw [drop_at s ha] at hz
          have e := sign_ok hz
          rw [e]
          exact q
        | err e =>
          have he : e = 5 := by rw [drop_at s ha] at hz; exact sign_e hz
          subst he
          exact .inr (.inl ⟨rfl, tkGf t0 t1 t2 s a ha hs n1 n2 hl hf n3 n4 (by rw [hz]; rfl)⟩)
theorem tokOkT (t0 t1 t2 s : List UInt8) (a : Nat) (ha : a < s.length) (hs : s.length ≤ 4000) (h : isOkR (tokR (s.drop a)) = true) : RunsTo Tryd.prog 51 [.code (bodyOf Tryd.f51)] (envOf [vP 63] Tryd.f51.ntmps) (Sx.look (sentEnts 23 213 [(5, t0), (6, t1), (0, t2)] ++ (rdW 63 s (a : Nat)))) 80 (.tup [(true, tkT ((okT (tokR (s.drop a))).kind) ((okT (tokR (s.drop a))).text) ((okT (tokR (s.drop a))).num) (.vl 141 (fun _ => 0) 2 [] (fun _ => ((okT (tokR (s.drop a))).ps).length))), (false, .ve0)]) (Sx.look (rdW 63 s (a + okN (tokR (s.drop a)) : Nat) ++ prE 141 ((okT (tokR (s.drop a))).ps))) 6000 := by
  have q := tokT t0 t1 t2 s a ha hs
  cases hz : (tokR (s.drop a)) with
  | ok t m => rw [hz] at q; exact q
  | err e =>
    rw [hz] at h; cases h
theorem tokShT (t0 t1 t2 s : List UInt8) (a : Nat) (ha : a < s.length) (hs : s.length ≤ 4000) (h : isErR 3 (tokR (s.drop a)) = true) : RunsTo Tryd.prog 51 [.code (bodyOf Tryd.f51)] (envOf [vP 63] Tryd.f51.ntmps) (Sx.look (sentEnts 23 213 [(5, t0), (6, t1), (0, t2)] ++ (rdW 63 s (a : Nat)))) 80 (.tup [(true, tkT (0) ([]) (0) .vl0), (false, vErr 5)]) (Sx.look ([])) 6000 := by
  have q := tokT t0 t1 t2 s a ha hs
  cases hz : (tokR (s.drop a)) with
  | ok t m =>
    rw [hz] at h; cases h
  | err e =>
    rw [hz] at h q
    have he : e = 3 := by simpa [isErR] using h
    subst he
    simpa [TKR] using q
theorem tokFoT (t0 t1 t2 s : List UInt8) (a : Nat) (ha : a < s.length) (hs : s.length ≤ 4000) (h : isErR 5 (tokR (s.drop a)) = true) : RunsTo Tryd.prog 51 [.code (bodyOf Tryd.f51)] (envOf [vP 63] Tryd.f51.ntmps) (Sx.look (sentEnts 23 213 [(5, t0), (6, t1), (0, t2)] ++ (rdW 63 s (a : Nat)))) 80 (.tup [(true, tkT (0) ([]) (0) .vl0), (false, vErr 6)]) (Sx.look ([])) 6000 := by
  have q := tokT t0 t1 t2 s a ha hs
  cases hz : (tokR (s.drop a)) with
  | ok t m =>
    rw [hz] at h; cases h
  | err e =>
    rw [hz] at h q
    have he : e = 5 := by simpa [isErR] using h
    subst he
    simpa [TKR] using q
theorem tokLoT (t0 t1 t2 s : List UInt8) (a : Nat) (ha : a < s.length) (hs : s.length ≤ 4000) (h : isErR 4 (tokR (s.drop a)) = true) : RunsTo Tryd.prog 51 [.code (bodyOf Tryd.f51)] (envOf [vP 63] Tryd.f51.ntmps) (Sx.look (sentEnts 23 213 [(5, t0), (6, t1), (0, t2)] ++ (rdW 63 s (a : Nat)))) 80 (.tup [(true, tkT (0) ([]) (0) .vl0), (false, vErr 0)]) (Sx.look ([])) 6000 := by
  have q := tokT t0 t1 t2 s a ha hs
  cases hz : (tokR (s.drop a)) with
  | ok t m =>
    rw [hz] at h; cases h
  | err e =>
    rw [hz] at h q
    have he : e = 4 := by simpa [isErR] using h
    subst he
    simpa [TKR] using q
def tokOkP : PC := { args := [.v (.vp 63)], heap := [⟨63, true, 2, .tc (.vs 0) (.tc (.vi .i64 1) .t0)⟩], gs := [5, 6, 0], G := 23, tp := 213, n := 80, n' := 6000, cond := fun e => decide (0 ≤ eI e 1 []) && (decide ((eI e 1 []).toNat < (eS e 0 []).length) && (decide ((eS e 0 []).length ≤ 4000) && isOkR (tokR ((eS e 0 []).drop (eI e 1 []).toNat)))), v := fun e => .tup [(true, tkT ((okT (tokR ((eS e 0 []).drop (eI e 1 []).toNat))).kind) ((okT (tokR ((eS e 0 []).drop (eI e 1 []).toNat))).text) ((okT (tokR ((eS e 0 []).drop (eI e 1 []).toNat))).num) (.vl 141 (fun _ => 0) 2 [] (fun _ => ((okT (tokR ((eS e 0 []).drop (eI e 1 []).toNat))).ps).length))), (false, .ve0)], post := fun e => rdW 63 (eS e 0 []) ((eI e 1 []).toNat + okN (tokR ((eS e 0 []).drop (eI e 1 []).toNat)) : Nat) ++ prE 141 ((okT (tokR ((eS e 0 []).drop (eI e 1 []).toNat))).ps) }
theorem tokOkP_pc : PC.Runs Tryd.prog 51 Tryd.f51 (bodyOf Tryd.f51) tokOkP := ⟨Tryd.func51, by kernel_rfl, (fun g hg => by first | (cases hg; done) | (revert g; show ∀ g ∈ ([5, 6, 0] : List Nat), g < 23; decide)), fun e H hc => by
  have hc : (decide (0 ≤ eI e 1 []) && (decide ((eI e 1 []).toNat < (eS e 0 []).length) && (decide ((eS e 0 []).length ≤ 4000) && isOkR (tokR ((eS e 0 []).drop (eI e 1 []).toNat))))) = true := hc
  try simp only [Bool.and_eq_true, decide_eq_true_eq, Nat.beq_eq] at hc
  exact by obtain ⟨h1, h2, h3, h4⟩ := hc; have hj : ((eI e 1 []).toNat : Int) = eI e 1 [] := Int.toNat_of_nonneg h1; have q := tokOkT (textAt H 28) (textAt H 29) (textAt H 23) (eS e 0 []) (eI e 1 []).toNat h2 h3 h4; rw [hj] at q; exact q⟩
def tokShP : PC := { args := [.v (.vp 63)], heap := [⟨63, true, 2, .tc (.vs 0) (.tc (.vi .i64 1) .t0)⟩], gs := [5, 6, 0], G := 23, tp := 213, n := 80, n' := 6000, cond := fun e => decide (0 ≤ eI e 1 []) && (decide ((eI e 1 []).toNat < (eS e 0 []).length) && (decide ((eS e 0 []).length ≤ 4000) && isErR 3 (tokR ((eS e 0 []).drop (eI e 1 []).toNat)))), v := fun e => .tup [(true, tkT (0) ([]) (0) .vl0), (false, vErr 5)], post := fun e => [] }
theorem tokShP_pc : PC.Runs Tryd.prog 51 Tryd.f51 (bodyOf Tryd.f51) tokShP := ⟨Tryd.func51, by kernel_rfl, (fun g hg => by first | (cases hg; done) | (revert g; show ∀ g ∈ ([5, 6, 0] : List Nat), g < 23; decide)), fun e H hc => by
  have hc : (decide (0 ≤ eI e 1 []) && (decide ((eI e 1 []).toNat < (eS e 0 []).length) && (decide ((eS e 0 []).length ≤ 4000) && isErR 3 (tokR ((eS e 0 []).drop (eI e 1 []).toNat))))) = true := hc
  try simp only [Bool.and_eq_true, decide_eq_true_eq, Nat.beq_eq] at hc
  exact by obtain ⟨h1, h2, h3, h4⟩ := hc; have hj : ((eI e 1 []).toNat : Int) = eI e 1 [] := Int.toNat_of_nonneg h1; have q := tokShT (textAt H 28) (textAt H 29) (textAt H 23) (eS e 0 []) (eI e 1 []).toNat h2 h3 h4; rw [hj] at q; exact q⟩
def tokFoP : PC := { args := [.v (.vp 63)], heap := [⟨63, true, 2, .tc (.vs 0) (.tc (.vi .i64 1) .t0)⟩], gs := [5, 6, 0], G := 23, tp := 213, n := 80, n' := 6000, cond := fun e => decide (0 ≤ eI e 1 []) && (decide ((eI e 1 []).toNat < (eS e 0 []).length) && (decide ((eS e 0 []).length ≤ 4000) && isErR 5 (tokR ((eS e 0 []).drop (eI e 1 []).toNat)))), v := fun e => .tup [(true, tkT (0) ([]) (0) .vl0), (false, vErr 6)], post := fun e => [] }
theorem tokFoP_pc : PC.Runs Tryd.prog 51 Tryd.f51 (bodyOf Tryd.f51) tokFoP := ⟨Tryd.func51, by kernel_rfl, (fun g hg => by first | (cases hg; done) | (revert g; show ∀ g ∈ ([5, 6, 0] : List Nat), g < 23; decide)), fun e H hc => by
  have hc : (decide (0 ≤ eI e 1 []) && (decide ((eI e 1 []).toNat < (eS e 0 []).length) && (decide ((eS e 0 []).length ≤ 4000) && isErR 5 (tokR ((eS e 0 []).drop (eI e 1 []).toNat))))) = true := hc
  try simp only [Bool.and_eq_true, decide_eq_true_eq, Nat.beq_eq] at hc
  exact by obtain ⟨h1, h2, h3, h4⟩ := hc; have hj : ((eI e 1 []).toNat : Int) = eI e 1 [] := Int.toNat_of_nonneg h1; have q := tokFoT (textAt H 28) (textAt H 29) (textAt H 23) (eS e 0 []) (eI e 1 []).toNat h2 h3 h4; rw [hj] at q; exact q⟩
def tokLoP : PC := { args := [.v (.vp 63)], heap := [⟨63, true, 2, .tc (.vs 0) (.tc (.vi .i64 1) .t0)⟩], gs := [5, 6, 0], G := 23, tp := 213, n := 80, n' := 6000, cond := fun e => decide (0 ≤ eI e 1 []) && (decide ((eI e 1 []).toNat < (eS e 0 []).length) && (decide ((eS e 0 []).length ≤ 4000) && isErR 4 (tokR ((eS e 0 []).drop (eI e 1 []).toNat)))), v := fun e => .tup [(true, tkT (0) ([]) (0) .vl0), (false, vErr 0)], post := fun e => [] }
theorem tokLoP_pc : PC.Runs Tryd.prog 51 Tryd.f51 (bodyOf Tryd.f51) tokLoP := ⟨Tryd.func51, by kernel_rfl, (fun g hg => by first | (cases hg; done) | (revert g; show ∀ g ∈ ([5, 6, 0] : List Nat), g < 23; decide)), fun e H hc => by
  have hc : (decide (0 ≤ eI e 1 []) && (decide ((eI e 1 []).toNat < (eS e 0 []).length) && (decide ((eS e 0 []).length ≤ 4000) && isErR 4 (tokR ((eS e 0 []).drop (eI e 1 []).toNat))))) = true := hc
  try simp only [Bool.and_eq_true, decide_eq_true_eq, Nat.beq_eq] at hc
  exact by obtain ⟨h1, h2, h3, h4⟩ := hc; have hj : ((eI e 1 []).toNat : Int) = eI e 1 [] := Int.toNat_of_nonneg h1; have q := tokLoT (textAt H 28) (textAt H 29) (textAt H 23) (eS e 0 []) (eI e 1 []).toNat h2 h3 h4; rw [hj] at q; exact q⟩
end Go.Proofs.YtaleenklamognaaDoor

