/- Telling: what tokens are told as is of the grammar. -/
import Derived.Test.YtcphocfnhekdaaaDoorUyC
set_option linter.unusedSimpArgs false
set_option linter.unusedVariables false
namespace Go.Proofs.YtcphocfnhekdaaaDoor
open Go.Sx GramR

theorem sub_dbl (o : Nat) (rest : List UInt8) : ∀ (b acc : List UInt8) (i : Nat), subI o (dbl b ++ 255 :: 240 :: rest) acc i = .ok ⟨5, 0, o, acc ++ b⟩ (i + (dbl b).length + 2)
  | [], acc, i => by simp [dbl, subI]
  | c :: r, acc, i => by
    by_cases hc : c = 255
    · subst hc
      have e : ∀ q : List UInt8, subI o (255 :: 255 :: q) acc i = subI o q (acc ++ [255]) (i + 2) := fun q => by simp [subI]
      simp only [dbl, if_pos, List.cons_append]
      rw [e, sub_dbl o rest r]
      simp only [List.append_assoc, List.cons_append, List.nil_append, List.length_cons, Res.ok.injEq, true_and]
      omega
    · have e : ∀ q : List UInt8, subI o (c :: q) acc i = subI o q (acc ++ [c]) (i + 1) := fun q => by rw [subI.eq_def]; simp [hc]
      simp only [dbl, if_neg hc, List.cons_append]
      rw [e, sub_dbl o rest r]
      simp only [List.append_assoc, List.cons_append, List.nil_append, List.length_cons, Res.ok.injEq, true_and]
      omega
theorem u8o_nat {c : Int} (h : 0 ≤ c ∧ c ≤ 255) : (((u8o c).toNat : Nat) : Int) = c := u8of (by omega)
/-- A token's bytes are one item. -/
theorem emit_item {k c o : Int} {b l : List UInt8} {cut : Bool} (h : tkR k c o b cut = .inl l) (rest : List UInt8) :
    ∃ x, itemI true (l ++ rest) = .ok x l.length ∧ (x.kind : Int) = (if k = 1 then 1 else k + 1) ∧ 0 < l.length := by
  unfold tkR at h
  by_cases h1 : k = 1
  · rw [if_pos h1] at h
    cases hc : byN c with
    | false => rw [hc, if_pos rfl] at h; cases h
    | true =>
      rw [hc, if_neg (by decide)] at h
      injection h with h
      subst h
      by_cases hq : u8o c = 255
      · refine ⟨⟨1, 255, 0, []⟩, ?_, by rw [if_pos h1]; rfl, by simp [dbl, hq]⟩
        rw [hq]
        simp [dbl, itemI, cmdI]
      · refine ⟨⟨1, (u8o c).toNat, 0, []⟩, ?_, by rw [if_pos h1]; rfl, by simp [dbl, hq]⟩
        simp only [dbl, if_neg hq, List.cons_append, List.nil_append, itemI, List.length_cons, List.length_nil]
        rw [if_pos (.inr trivial)]
  rw [if_neg h1] at h
  by_cases h2 : k = 2
  · rw [if_pos h2] at h
    unfold plR at h
    by_cases hc : 241 ≤ c ∧ c ≤ 249
    · rw [if_pos hc] at h
      injection h with h
      subst h
      have hn := u8o_nat (c := c) (by omega)
      have hd : u8o c ≠ 255 := fun e => by rw [e] at hn; have : ((255 : UInt8).toNat : Int) = 255 := rfl; omega
      have hp : 241 ≤ (u8o c).toNat ∧ (u8o c).toNat ≤ 249 := by omega
      refine ⟨⟨3, (u8o c).toNat, 0, []⟩, ?_, by rw [if_neg h1, h2]; rfl, by simp⟩
      simp [itemI, cmdI, hd, hp]
    · rw [if_neg hc] at h; cases h
  rw [if_neg h2] at h
  by_cases h3 : k = 3
  · rw [if_pos h3] at h
    unfold vbR at h
    by_cases hc : 251 ≤ c ∧ c ≤ 254
    · rw [if_neg (fun e => e hc)] at h
      cases ho : byN o with
      | false => rw [ho, if_pos rfl] at h; cases h
      | true =>
        rw [ho, if_neg (by decide)] at h
        injection h with h
        subst h
        have hn := u8o_nat (c := c) (by omega)
        have hd : u8o c ≠ 255 := fun e => by rw [e] at hn; have : ((255 : UInt8).toNat : Int) = 255 := rfl; omega
        have hp : ¬ (241 ≤ (u8o c).toNat ∧ (u8o c).toNat ≤ 249) := by omega
        have hv : 251 ≤ (u8o c).toNat ∧ (u8o c).toNat ≤ 254 := by omega
        refine ⟨⟨4, (u8o c).toNat, (u8o o).toNat, []⟩, ?_, by rw [if_neg h1, h3]; rfl, by simp⟩
        simp only [List.cons_append, List.nil_append, itemI, cmdI, if_pos, if_neg hd, if_neg hp, if_pos hv, List.length_cons, List.length_nil]
    · rw [if_pos hc] at h; cases h
  rw [if_neg h3] at h
  by_cases h4 : k = 4
  · rw [if_pos h4] at h
    have hs : ∀ m, sbR o b = .inl m → m = [255, 250, u8o o] ++ dbl b ++ [255, 240] := by
      intro m hm
      unfold sbR at hm
      split at hm
      · cases hm
      · split at hm
        · cases hm
        · injection hm with hm; exact hm.symm
    cases hq : sbR o b with
    | inr e => rw [hq] at h; cases h
    | inl m =>
      rw [hq] at h
      simp only at h
      split at h
      · cases h
      · injection h with h
        subst h
        rw [hs _ hq]
        refine ⟨⟨5, 0, (u8o o).toNat, b⟩, ?_, by rw [if_neg h1, h4]; rfl, by simp⟩
        have e : [255, 250, u8o o] ++ dbl b ++ [255, 240] ++ rest = 255 :: 250 :: u8o o :: (dbl b ++ 255 :: 240 :: rest) := by simp
        have e2 : cmdI (250 :: u8o o :: (dbl b ++ 255 :: 240 :: rest)) = subI (u8o o).toNat (dbl b ++ 255 :: 240 :: rest) [] 3 := by simp [cmdI]
        rw [e]
        simp only [itemI, if_pos]
        rw [e2, sub_dbl]
        simp only [List.nil_append, List.length_append, List.length_cons, List.length_nil, Res.ok.injEq, true_and]
  rw [if_neg h4] at h; cases h

def catF (f : Nat → List UInt8) : Nat → Nat → List UInt8
  | 0, _ => []
  | k + 1, i => f i ++ catF f k (i + 1)
theorem read_cat (f : Nat → List UInt8) (kd : Nat → Int) : ∀ (k i a fuel : Nat), (catF f k i).length < fuel →
    (∀ j, i ≤ j → j < i + k → ∀ rest, ∃ x, itemI true (f j ++ rest) = .ok x (f j).length ∧ (x.kind : Int) = kd j ∧ 0 < (f j).length) →
    ∃ T : List (It × Nat × Nat), readI true fuel a (catF f k i) = some (T, 0) ∧ T.length = k ∧ ∀ j, j < k → ((T.getD j (⟨0, 0, 0, []⟩, 0, 0)).1.kind : Int) = kd (i + j)
  | 0, i, a, fuel, hf, h => by
    obtain ⟨n, rfl⟩ : ∃ n, fuel = n + 1 := ⟨fuel - 1, by omega⟩
    exact ⟨[], by simp [catF, readI], rfl, fun j hj => absurd hj (by omega)⟩
  | k + 1, i, a, fuel, hf, h => by
    obtain ⟨n, rfl⟩ : ∃ n, fuel = n + 1 := ⟨fuel - 1, by omega⟩
    obtain ⟨x, hx, hk, hl⟩ := h i (Nat.le_refl _) (by omega) (catF f k (i + 1))
    have hlen : (catF f (k + 1) i).length = (f i).length + (catF f k (i + 1)).length := by simp [catF]
    obtain ⟨T, t1, t2, t3⟩ := read_cat f kd k (i + 1) (a + (f i).length) n (by omega) (fun j h1 h2 => h j (by omega) (by omega))
    have hne : f i ++ catF f k (i + 1) ≠ [] := fun e => by
      have := congrArg List.length e
      rw [List.length_append, List.length_nil] at this; omega
    refine ⟨(x, a, a + (f i).length) :: T, ?_, by rw [List.length_cons, t2], fun j hj => ?_⟩
    · show readI true (n + 1) a (f i ++ catF f k (i + 1)) = _
      simp only [readI]
      rw [if_neg hne, hx]
      simp only [List.drop_left]
      rw [t1]
    · cases j with
      | zero => exact hk
      | succ j =>
        have := t3 j (by omega)
        rw [show i + (j + 1) = i + 1 + j by omega]
        simpa using this
theorem cat_snoc (f : Nat → List UInt8) : ∀ k i, catF f (k + 1) i = catF f k i ++ f (i + k)
  | 0, i => by simp [catF]
  | k + 1, i => by
    have := cat_snoc f k (i + 1)
    rw [catF, this, catF, List.append_assoc, show i + 1 + k = i + (k + 1) by omega]
theorem alB_cat (K C O : Ix → Int) (m n : Ix → Nat) (CU : Ix → Bool) (F : Ix → Int) : ∀ i, alB K C O m n CU F i = catF (fun j => theB (tkAt K C O m n CU F j)) i 0
  | 0 => rfl
  | i + 1 => by rw [cat_snoc, ← alB_cat K C O m n CU F i, Nat.zero_add]; rfl
theorem alE_inl (K C O : Ix → Int) (m n : Ix → Nat) (CU : Ix → Bool) (F : Ix → Int) : ∀ k i, alE K C O m n CU F k i = 0 → ∀ j, i ≤ j → j < i + k → ∃ l, tkAt K C O m n CU F j = .inl l
  | 0, i, h, j, h1, h2 => by omega
  | k + 1, i, h, j, h1, h2 => by
    simp only [alE] at h
    cases hz : tkAt K C O m n CU F i with
    | inr e => rw [hz] at h; exact absurd h (tkR_le hz).1
    | inl l =>
      rw [hz] at h
      by_cases e : j = i
      · subst e; exact ⟨l, hz⟩
      · exact alE_inl K C O m n CU F k (i + 1) h j (by omega) (by omega)
/-- What tokens are told as, told back as items. -/
theorem emits (K C O : Ix → Int) (m n : Ix → Nat) (CU : Ix → Bool) (F : Ix → Int) (N : Nat) (h : alE K C O m n CU F N 0 = 0) :
    ∃ T : List (It × Nat × Nat), parseI true (alB K C O m n CU F N) = some (T, 0) ∧ T.length = N ∧ ∀ j, j < N → ((T.getD j (⟨0, 0, 0, []⟩, 0, 0)).1.kind : Int) = (if K [j] = 1 then 1 else K [j] + 1) := by
  rw [alB_cat]
  unfold parseI
  obtain ⟨T, t1, t2, t3⟩ := read_cat (fun j => theB (tkAt K C O m n CU F j)) (fun j => if K [j] = 1 then 1 else K [j] + 1) N 0 0 _ (Nat.lt_succ_self _) (fun j _ h2 rest => by
    obtain ⟨l, hl⟩ := alE_inl K C O m n CU F N 0 h j (by omega) (by omega)
    have := emit_item hl rest
    simp only [hl, theB]
    exact this)
  exact ⟨T, t1, t2, fun j hj => by have := t3 j hj; rw [Nat.zero_add] at this; exact this⟩
end Go.Proofs.YtcphocfnhekdaaaDoor

set_option linter.unusedSimpArgs false
set_option linter.unusedVariables false
namespace Go.Proofs.YtcphocfnhekdaaaDoor
open Go.Sx GramR

/-- A token: its kind (1 data, 2 plain, 3 verb, 4 sub, 5 bad), its code, its option, its body, and whether the body is cut. -/
structure Tk where
  kind : Nat
  code : Nat
  opt : Nat
  body : List UInt8
  cut : Bool
deriving DecidableEq, Repr
/-- The machine (layer 5): its state, and the token under way. -/
structure Mc where
  st : Nat
  code : Nat
  opt : Nat
  body : List UInt8
  cut : Bool
def Mc0 : Mc := ⟨0, 0, 0, [], false⟩
def addC (m : Mc) (c : UInt8) : Mc := if 256 ≤ m.body.length then ⟨4, m.code, m.opt, m.body, true⟩ else ⟨4, m.code, m.opt, m.body ++ [c], m.cut⟩
def feedC (m : Mc) (c : UInt8) : Mc × Option Tk :=
  if m.st = 1 then
    if c = 255 then (Mc0, some ⟨1, 255, 0, [], false⟩)
    else if c = 250 then (⟨3, m.code, m.opt, m.body, m.cut⟩, none)
    else if 251 ≤ c.toNat ∧ c.toNat ≤ 254 then (⟨2, c.toNat, 0, [], false⟩, none)
    else (Mc0, some ⟨2, c.toNat, 0, [], false⟩)
  else if m.st = 2 then (Mc0, some ⟨3, m.code, c.toNat, [], false⟩)
  else if m.st = 3 then (⟨4, 0, c.toNat, [], false⟩, none)
  else if m.st = 4 then (if c = 255 then (⟨5, m.code, m.opt, m.body, m.cut⟩, none) else (addC m c, none))
  else if m.st = 5 then
    if c = 255 then (addC m 255, none)
    else if c = 240 then (Mc0, some ⟨4, m.code, m.opt, m.body, m.cut⟩)
    else (Mc0, some ⟨5, c.toNat, m.opt, [], false⟩)
  else if c = 255 then (⟨1, m.code, m.opt, m.body, m.cut⟩, none) else (Mc0, some ⟨1, c.toNat, 0, [], false⟩)
def runC : Mc → List UInt8 → List Tk × Mc
  | m, [] => ([], m)
  | m, c :: r => match feedC m c with
    | (m', none) => runC m' r
    | (m', some t) => (t :: (runC m' r).1, (runC m' r).2)
theorem runC_n {m m' : Mc} {c : UInt8} (h : feedC m c = (m', none)) (r : List UInt8) : runC m (c :: r) = runC m' r := by
  rw [runC, h]
theorem runC_s {m m' : Mc} {c : UInt8} {t : Tk} (h : feedC m c = (m', some t)) (r : List UInt8) : runC m (c :: r) = (t :: (runC m' r).1, (runC m' r).2) := by
  rw [runC, h]
/-- What is left of a token that is told: what its kind has. -/
def cnT (k c o : Int) (b : List UInt8) : Tk := if k = 4 then ⟨4, 0, o.toNat, b, false⟩ else if k = 3 then ⟨3, c.toNat, o.toNat, [], false⟩ else ⟨k.toNat, c.toNat, 0, [], false⟩
theorem run_body (o : Nat) (rest : List UInt8) : ∀ (b acc : List UInt8), acc.length + b.length ≤ 256 → runC ⟨4, 0, o, acc, false⟩ (dbl b ++ 255 :: 240 :: rest) = (⟨4, 0, o, acc ++ b, false⟩ :: (runC Mc0 rest).1, (runC Mc0 rest).2)
  | [], acc, _ => by
    simp only [dbl, List.nil_append, List.append_nil]
    rw [runC_n (m' := ⟨5, 0, o, acc, false⟩) (by simp [feedC]), runC_s (m' := Mc0) (t := ⟨4, 0, o, acc, false⟩) (by simp [feedC])]
  | c :: r, acc, h => by
    simp only [List.length_cons] at h
    by_cases hc : c = 255
    · subst hc
      simp only [dbl, if_pos, List.cons_append]
      rw [runC_n (m' := ⟨5, 0, o, acc, false⟩) (by simp [feedC]), runC_n (m' := ⟨4, 0, o, acc ++ [255], false⟩) (by simp [feedC, addC]; omega), run_body o rest r _ (by simp; omega)]
      simp
    · simp only [dbl, if_neg hc, List.cons_append]
      rw [runC_n (m' := ⟨4, 0, o, acc ++ [c], false⟩) (by simp [feedC, addC, hc]; omega), run_body o rest r _ (by simp; omega)]
      simp
theorem u8o_n {c : Int} (h : 0 ≤ c ∧ c ≤ 255) : (u8o c).toNat = c.toNat := by have := u8o_nat h; omega
theorem byN_r {c : Int} (h : byN c = true) : 0 ≤ c ∧ c ≤ 255 := by rw [byN_T] at h; exact h
theorem run_tell {k c o : Int} {b l : List UInt8} {cut : Bool} (h : tkR k c o b cut = .inl l) (rest : List UInt8) :
    runC Mc0 (l ++ rest) = (cnT k c o b :: (runC Mc0 rest).1, (runC Mc0 rest).2) := by
  unfold tkR at h
  by_cases h1 : k = 1
  · rw [if_pos h1] at h
    subst h1
    cases hc : byN c with
    | false => rw [hc, if_pos rfl] at h; cases h
    | true =>
      rw [hc, if_neg (by decide)] at h
      injection h with h
      subst h
      have hn := u8o_n (byN_r hc)
      have e : cnT 1 c o b = ⟨1, c.toNat, 0, [], false⟩ := rfl
      by_cases hq : u8o c = 255
      · have hcn : c.toNat = 255 := by rw [← hn, hq]; rfl
        rw [e, hq, hcn]
        simp only [dbl, if_pos, List.cons_append, List.nil_append]
        rw [runC_n (m' := ⟨1, 0, 0, [], false⟩) (by simp [feedC, Mc0]), runC_s (m' := Mc0) (t := ⟨1, 255, 0, [], false⟩) (by simp [feedC])]
      · simp only [dbl, if_neg hq, List.cons_append, List.nil_append]
        rw [e, runC_s (m' := Mc0) (t := ⟨1, (u8o c).toNat, 0, [], false⟩) (by simp [feedC, Mc0, hq]), hn]
  rw [if_neg h1] at h
  by_cases h2 : k = 2
  · rw [if_pos h2] at h
    subst h2
    unfold plR at h
    by_cases hc : 241 ≤ c ∧ c ≤ 249
    · rw [if_pos hc] at h
      injection h with h
      subst h
      have hn := u8o_n (c := c) (by omega)
      have d1 : u8o c ≠ 255 := fun e => by rw [e] at hn; have : (255 : UInt8).toNat = 255 := rfl; omega
      have d2 : u8o c ≠ 250 := fun e => by rw [e] at hn; have : (250 : UInt8).toNat = 250 := rfl; omega
      have d3 : ¬ (251 ≤ (u8o c).toNat ∧ (u8o c).toNat ≤ 254) := by omega
      simp only [List.cons_append, List.nil_append]
      rw [runC_n (m' := ⟨1, 0, 0, [], false⟩) (by simp [feedC, Mc0]), runC_s (m' := Mc0) (t := ⟨2, (u8o c).toNat, 0, [], false⟩) (by simp only [feedC, if_pos, if_neg d1, if_neg d2, if_neg d3]), hn]
      rfl
    · rw [if_neg hc] at h; cases h
  rw [if_neg h2] at h
  by_cases h3 : k = 3
  · rw [if_pos h3] at h
    subst h3
    unfold vbR at h
    by_cases hc : 251 ≤ c ∧ c ≤ 254
    · rw [if_neg (fun e => e hc)] at h
      cases ho : byN o with
      | false => rw [ho, if_pos rfl] at h; cases h
      | true =>
        rw [ho, if_neg (by decide)] at h
        injection h with h
        subst h
        have hn := u8o_n (c := c) (by omega)
        have hm := u8o_n (byN_r ho)
        have d1 : u8o c ≠ 255 := fun e => by rw [e] at hn; have : (255 : UInt8).toNat = 255 := rfl; omega
        have d2 : u8o c ≠ 250 := fun e => by rw [e] at hn; have : (250 : UInt8).toNat = 250 := rfl; omega
        have d3 : 251 ≤ (u8o c).toNat ∧ (u8o c).toNat ≤ 254 := by omega
        simp only [List.cons_append, List.nil_append]
        rw [runC_n (m' := ⟨1, 0, 0, [], false⟩) (by simp [feedC, Mc0]), runC_n (m' := ⟨2, (u8o c).toNat, 0, [], false⟩) (by simp only [feedC, if_pos, if_neg d1, if_neg d2, if_pos d3]), runC_s (m' := Mc0) (t := ⟨3, (u8o c).toNat, (u8o o).toNat, [], false⟩) (by simp [feedC]), hn, hm]
        rfl
    · rw [if_pos hc] at h; cases h
  rw [if_neg h3] at h
  by_cases h4 : k = 4
  · rw [if_pos h4] at h
    subst h4
    cases hq : sbR o b with
    | inr e => rw [hq] at h; cases h
    | inl m =>
      rw [hq] at h
      simp only at h
      split at h
      · cases h
      · injection h with h
        subst h
        unfold sbR at hq
        cases ho : byN o with
        | false => rw [ho, if_pos rfl] at hq; cases hq
        | true =>
          rw [ho, if_neg (by decide)] at hq
          by_cases hl : 256 < b.length
          · rw [if_pos hl] at hq; cases hq
          · rw [if_neg hl] at hq
            injection hq with hq
            subst hq
            have hm := u8o_n (byN_r ho)
            have e : [255, 250, u8o o] ++ dbl b ++ [255, 240] ++ rest = 255 :: 250 :: u8o o :: (dbl b ++ 255 :: 240 :: rest) := by simp
            rw [e, runC_n (m' := ⟨1, 0, 0, [], false⟩) (by simp [feedC, Mc0]), runC_n (m' := ⟨3, 0, 0, [], false⟩) (by simp [feedC]), runC_n (m' := ⟨4, 0, (u8o o).toNat, [], false⟩) (by simp [feedC]), run_body _ rest b [] (by simp; omega), hm]
            rfl
  rw [if_neg h4] at h; cases h
/-- All tokens that are told are read as they were, and nothing is left. -/
theorem run_cat (K C O : Ix → Int) (m n : Ix → Nat) (CU : Ix → Bool) (F : Ix → Int) : ∀ (k i : Nat), (∀ j, i ≤ j → j < i + k → ∃ l, tkAt K C O m n CU F j = .inl l) →
    runC Mc0 (catF (fun j => theB (tkAt K C O m n CU F j)) k i) = ((List.range' i k).map fun j => cnT (K [j]) (C [j]) (O [j]) (bytesOf F [m [j]] 0 (n [j])), Mc0)
  | 0, i, _ => rfl
  | k + 1, i, h => by
    obtain ⟨l, hl⟩ := h i (Nat.le_refl _) (by omega)
    have e : theB (tkAt K C O m n CU F i) = l := by rw [hl]; rfl
    rw [catF, e]
    rw [run_tell hl, run_cat K C O m n CU F k (i + 1) (fun j h1 h2 => h j (by omega) (by omega))]
    simp [List.range'_succ]
end Go.Proofs.YtcphocfnhekdaaaDoor

set_option linter.unusedSimpArgs false
set_option linter.unusedVariables false
set_option maxRecDepth 100000
namespace Go.Proofs.YtcphocfnhekdaaaDoor
open Go.Sx

open GramR
def kz : Tk := ⟨0, 0, 0, [], false⟩
def mk5 (k c o : Nat) (b : List UInt8) (u : Bool) : Tk := ⟨k, c, o, b, u⟩
def kK (T : List Tk) : Ix → Int := fun is => ((T.getD (is.headD 0) kz).kind : Int)
def kC (T : List Tk) : Ix → Int := fun is => ((T.getD (is.headD 0) kz).code : Int)
def kO (T : List Tk) : Ix → Int := fun is => ((T.getD (is.headD 0) kz).opt : Int)
def kU (T : List Tk) : Ix → Bool := fun is => (T.getD (is.headD 0) kz).cut
def kM (T : List Tk) : Ix → Nat := fun is => T.length - 1 - is.headD 0
def kL (T : List Tk) : Ix → Nat := fun is => (T.getD (is.headD 0) kz).body.length
def gL (T : List Tk) : Nat → Nat := fun m => (T.getD (T.length - 1 - m) kz).body.length
def gB (T : List Tk) : Ix → Int := fun is => (((T.getD (T.length - 1 - is.headD 0) kz).body.getD (is.tail.headD 0) 0).toNat : Int)
def toK (l f : Nat) (T : List Tk) : List Ent := [⟨l, true, none, 5, .ta T.length (.tc (.vi .i64 (kK T)) (.tc (.vi .i64 (kC T)) (.tc (.vi .i64 (kO T)) (.tc (.vl f (kM T) 1 [] (kL T)) (.tc (.vb (kU T)) .t0)))))⟩, ⟨f, true, some (T.length, gL T), 1, .vi .u8 (gB T)⟩]
def cxE (p l st cd op : Nat) (b : List UInt8) (u : Bool) : List Ent := ⟨p, true, none, 6, .tc (.vi .i64 fun _ => st) (.tc (.tc (.vi .i64 fun _ => 0) (.tc (.vi .i64 fun _ => cd) (.tc (.vi .i64 fun _ => op) (.tc (.vl l (fun _ => 0) 1 [] (fun _ => b.length)) (.tc (.vb fun _ => u) .t0))))) .t0)⟩ :: bW l b
def cxN (p st cd op : Nat) : List Ent := [⟨p, true, none, 6, .tc (.vi .i64 fun _ => st) (.tc (.tc (.vi .i64 fun _ => 0) (.tc (.vi .i64 fun _ => cd) (.tc (.vi .i64 fun _ => op) (.tc .vl0 (.tc (.vb fun _ => false) .t0))))) .t0)⟩]
theorem ktok_app {β : Type} (f : Tk → β) (T : List Tk) (t : Tk) (g : Ix → β) (hg : g [0] = f t) : ∀ k, k < T.length + 1 → f ((T ++ [t]).getD k kz) = appF T.length 0 (fun is => f (T.getD (is.headD 0) kz)) g [k] := fun k hk =>
  app_get f kz T [t] g (fun j hj => by
    have : j = 0 := by simp at hj; omega
    subst this; exact hg) k (by simpa using hk)
theorem kK_app (T : List Tk) (t : Tk) (g : Ix → Int) (hg : g [0] = (t.kind : Int)) : ∀ k, k < T.length + 1 → kK (T ++ [t]) [k] = appF T.length 0 (kK T) g [k] := ktok_app (fun t => (t.kind : Int)) T t g hg
theorem kC_app (T : List Tk) (t : Tk) (g : Ix → Int) (hg : g [0] = (t.code : Int)) : ∀ k, k < T.length + 1 → kC (T ++ [t]) [k] = appF T.length 0 (kC T) g [k] := ktok_app (fun t => (t.code : Int)) T t g hg
theorem kO_app (T : List Tk) (t : Tk) (g : Ix → Int) (hg : g [0] = (t.opt : Int)) : ∀ k, k < T.length + 1 → kO (T ++ [t]) [k] = appF T.length 0 (kO T) g [k] := ktok_app (fun t => (t.opt : Int)) T t g hg
theorem kL_app (T : List Tk) (t : Tk) (g : Ix → Nat) (hg : g [0] = t.body.length) : ∀ k, k < T.length + 1 → kL (T ++ [t]) [k] = appF T.length 0 (kL T) g [k] := ktok_app (fun t => t.body.length) T t g hg
theorem kU_app (T : List Tk) (t : Tk) (g : Ix → Bool) (hg : g [0] = t.cut) : ∀ k, k < T.length + 1 → kU (T ++ [t]) [k] = appF T.length 0 (kU T) g [k] := ktok_app (fun t => t.cut) T t g hg
theorem kM_app (T : List Tk) (t : Tk) (f g : Ix → Nat) (hf : ∀ k, k < T.length → f [k] = T.length - 1 - k + 1) (hg : g [0] = 0) : ∀ k, k < T.length + 1 → kM (T ++ [t]) [k] = appF T.length 0 f g [k] := fun k hk => by
  simp only [kM, appF, List.length_append, List.length_cons, List.length_nil, List.headD, Nat.zero_add]
  split
  · rename_i h; have := hf k h; omega
  · have : k = T.length := by omega
    subst this; simp [hg]
theorem kgetD_last (T : List Tk) (t : Tk) : (T ++ [t]).getD T.length kz = t := by simp
theorem kgetD_pre (T : List Tk) (t : Tk) {k : Nat} (h : k < T.length) : (T ++ [t]).getD k kz = T.getD k kz := by simp [List.getD_eq_getElem?_getD, List.getElem?_append_left h]
theorem gL_cons (T : List Tk) (t : Tk) (n : Nat) (hn : n = t.body.length) : ∀ m, m < T.length + 1 → gL (T ++ [t]) m = consN n (gL T) m
  | 0, _ => by simp [gL, consN, hn]
  | m + 1, h => by
    simp only [gL, consN, List.length_append, List.length_cons, List.length_nil]
    rw [show T.length + (0 + 1) - 1 - (m + 1) = T.length - 1 - m by omega, kgetD_pre T t (by omega)]
theorem gB_cons (T : List Tk) (t : Tk) (g : Ix → Int) : ∀ m, m < T.length + 1 → ∀ j, (∀ j, j < t.body.length → g [j] = ((t.body.getD j 0).toNat : Int)) → j < gL (T ++ [t]) m → gB (T ++ [t]) [m, j] = consF g (gB T) [m, j]
  | 0, _, j, hg, hj => by
    have hj2 : j < t.body.length := by simpa [gL] using hj
    simp only [gB, consF, List.headD, List.tail, List.length_append, List.length_cons, List.length_nil]
    rw [show T.length + (0 + 1) - 1 - 0 = T.length by omega, kgetD_last, hg j hj2]
  | m + 1, h, j, hg, hj => by
    simp only [gB, consF, List.headD, List.tail, List.length_append, List.length_cons, List.length_nil]
    rw [show T.length + (0 + 1) - 1 - (m + 1) = T.length - 1 - m by omega, kgetD_pre T t (by omega)]
theorem iaStart_p0 (N M : Nat) (B : Ix → Int) :
    isMore (evTill Tryd.prog [] 500 (behind Tryd.f33 0) 900 33 [.code (bodyOf Tryd.f33)] (envOf [vL 60 1 N] Tryd.f33.ntmps) (rB 60 M B ++ ([])) ⟨[], 80⟩) (moreP (headOf Tryd.f33 0) ([((101 : Nat), Rn.to (80 : Nat)), ((102 : Nat), Rn.nil (5 : Nat)), ((103 : Nat), Rn.nil (1 : Nat))]) Tryd.f33.ntmps ([(4, vP 101), (5, vL 102 5 (([] : List Tk)).length), (12, vL 60 1 N), (13, vN N), (14, vN (0 : Nat))]) (cxN 101 0 0 0 ++ toK 102 103 ([] : List Tk)) 300) =
    (OkL [] ∧ headOf Tryd.f33 (0 : Nat) = headOf Tryd.f33 (0 : Nat) ∧ ((0 : Nat) = (0 : Nat) ∧ (0 : Nat) = (0 : Nat) ∧ ((0 : Nat) = (0 : Nat) ∧ N = N) ∧ (↑N : Int) = (↑N : Int) ∧ (↑(0 : Nat) : Int) = (0 : Int)) ∧ ((↑(0 : Nat) : Int) = (0 : Int) ∧ (0 : Int) = (0 : Int) ∧ (↑(0 : Nat) : Int) = (0 : Int) ∧ (↑(0 : Nat) : Int) = (0 : Int) ∧ True ∧ false = false) ∧ (0 : Nat) = (0 : Nat) ∧ (0 : Nat) = (0 : Nat)) := by kernel_rfl

set_option maxHeartbeats 4000000 in
theorem iaStart (N M : Nat) (B : Ix → Int)  (v : SV) (L' : HF) (next : RunsTo Tryd.prog 33 (headOf Tryd.f33 0) (envAt Tryd.f33.ntmps ([(4, vP 101), (5, vL 102 5 (([] : List Tk)).length), (12, vL 60 1 N), (13, vN N), (14, vN (0 : Nat))])) (Sx.look (rB 60 M B ++ (cxN 101 0 0 0 ++ toK 102 103 ([] : List Tk)))) 80 (v) (L') 300) :
    RunsTo Tryd.prog 33 [.code (bodyOf Tryd.f33)] (envOf [vL 60 1 N] Tryd.f33.ntmps) (Sx.look (rB 60 M B ++ ([]))) 80 (v) (L') 300 := by
  refine runs_more baseO (More.of (iaStart_p0 N M B) ⟨?oo, rfl, ?rr⟩) (by kernel_rfl) (by kernel_rfl) rfl (gtL (by decide)) (by decide) next
  case oo =>
    clear next
    refine okn
    all_goals ((try simp (disch := omega) only [SS]); first | done | omega | assumption | (simp (disch := omega) only [SS] at *; first | done | omega | assumption) | (simp_all; done))
  case rr =>
    clear next
    try simp (disch := omega) only [SS]
    repeat' apply And.intro
    all_goals first | exact True.intro | with_reducible rfl | omega | (intros; first | exact True.intro | with_reducible rfl | omega | (simp_all; done)) | (simp_all; done) | rfl

theorem in0_p0 (N M : Nat) (B : Ix → Int) (T : List Tk) (cd op : Nat) (body : List UInt8) (cu : Bool) (i : Nat) (c : UInt8) :
    isMore (evTill Tryd.prog [] 500 (behind Tryd.f33 0) 900 33 (headOf Tryd.f33 0) (envAt Tryd.f33.ntmps ([(4, vP 101), (5, vL 102 5 (T).length), (12, vL 60 1 N), (13, vN N), (14, vN (i : Nat))])) (rB 60 M B ++ (cxN 101 0 cd op ++ toK 102 103 T)) ⟨[.s true, .s true, .s true, .s true, .f, .f, .f, .f, .f, .s true, .f], 130⟩) (moreP (headOf Tryd.f33 0) ([]) Tryd.f33.ntmps ([(4, vP 101), (5, vL 102 5 (T).length), (12, vL 60 1 N), (13, vN N), (14, vN (i + 1 : Nat))]) (cxN 101 1 cd op ++ toK 102 103 T) 300) =
    (OkL [(decide ((↑i : Int) < (↑N : Int)), true), (decide ((0 : Int) ≤ (↑i : Int) ∧ (↑i : Int) < (↑N : Int)), true), (((0 : Nat) + (↑i : Int).toNat).blt M, true), (((0 : Nat) + (↑i : Int).toNat).blt M, true), (B [(0 : Nat) + (↑i : Int).toNat] == (255 : Int), true)] ∧ headOf Tryd.f33 (0 : Nat) = headOf Tryd.f33 (0 : Nat) ∧ ((0 : Nat) = (0 : Nat) ∧ ((0 : Nat) = (0 : Nat) ∧ T.length = T.length) ∧ ((0 : Nat) = (0 : Nat) ∧ N = N) ∧ (↑N : Int) = (↑N : Int) ∧ (↑(i + (1 : Nat)) : Int) = IntKind.i64.wrap ((↑i : Int) + (1 : Int))) ∧ ((↑(1 : Nat) : Int) = (1 : Int) ∧ (0 : Int) = (0 : Int) ∧ (↑cd : Int) = (↑cd : Int) ∧ (↑op : Int) = (↑op : Int) ∧ True ∧ false = false) ∧ (T.length = T.length ∧ (∀ (i : Nat), i < T.length → kK T [i] = kK T [i]) ∧ (∀ (i : Nat), i < T.length → kC T [i] = kC T [i]) ∧ (∀ (i : Nat), i < T.length → kO T [i] = kO T [i]) ∧ ((∀ (i : Nat), i < T.length → kM T [i] = kM T [i]) ∧ ∀ (i : Nat), i < T.length → kL T [i] = kL T [i]) ∧ ∀ (i : Nat), i < T.length → kU T [i] = kU T [i]) ∧ T.length = T.length ∧ ∀ (m : Nat), m < T.length → gL T m = gL T m ∧ ∀ (i : Nat), i < gL T m → gB T [m, i] = gB T [m, i]) := by kernel_rfl

set_option maxHeartbeats 4000000 in
theorem in0 (N M : Nat) (B : Ix → Int) (T : List Tk) (cd op : Nat) (body : List UInt8) (cu : Bool) (i : Nat) (c : UInt8) (hi : i < N) (hN : N ≤ 400000) (hT : T.length ≤ 400000) (hl : body.length ≤ 256) (hb : B [i] = (c.toNat : Int)) (hc : c.toNat < 256) (hcd : cd < 256) (hop : op < 256) (hM : N ≤ M) (h : c.toNat = 255)  (v : SV) (L' : HF) (next : RunsTo Tryd.prog 33 (headOf Tryd.f33 0) (envAt Tryd.f33.ntmps ([(4, vP 101), (5, vL 102 5 (T).length), (12, vL 60 1 N), (13, vN N), (14, vN (i + 1 : Nat))])) (Sx.look (rB 60 M B ++ (cxN 101 1 cd op ++ toK 102 103 T))) 80 (v) (L') 300) :
    RunsTo Tryd.prog 33 (headOf Tryd.f33 0) (envAt Tryd.f33.ntmps ([(4, vP 101), (5, vL 102 5 (T).length), (12, vL 60 1 N), (13, vN N), (14, vN (i : Nat))])) (Sx.look (rB 60 M B ++ (cxN 101 0 cd op ++ toK 102 103 T))) 80 (v) (L') 300 := by
  have hw : IntKind.i64.wrap ((i : Int) + 1) = ((i + 1 : Nat) : Int) := by rw [wr64 (by omega)]; rfl
  have hb8 : IntKind.i64.wrap (c.toNat : Int) = (c.toNat : Int) := wr64 (by omega)
  have hu8 : IntKind.u8.wrap (c.toNat : Int) = (c.toNat : Int) := u8id (by omega)
  refine runs_more baseO (More.of (in0_p0 N M B T cd op body cu i c) ⟨?oo, rfl, ?rr⟩) (by kernel_rfl) (by kernel_rfl) rfl (gtL (by decide)) (by decide) next
  case oo =>
    clear next
    refine (okc ?_ (okc ?_ (okc ?_ (okc ?_ (okc ?_ okn)))))
    all_goals ((try simp (disch := omega) only [SS, hw, hb, hb8, hu8]); first | done | omega | assumption | (simp (disch := omega) only [SS, hw, hb, hb8, hu8] at *; first | done | omega | assumption) | (simp_all; done))
  case rr =>
    clear next
    simp (disch := omega) only [SS, hw, hb, hb8, hu8, Go.Sx.sum, List.length_append, List.length_cons, List.length_nil, Nat.zero_add]
    repeat' apply And.intro
    all_goals first | exact True.intro | with_reducible rfl | omega | exact kK_app T _ _ rfl | exact kC_app T _ _ rfl | exact kO_app T _ _ rfl | exact kL_app T _ _ rfl | exact kU_app T _ _ rfl | exact kM_app T _ _ _ (fun k hk => rfl) rfl | exact gL_cons T _ _ rfl | (intro m hm; exact ⟨gL_cons T _ _ rfl m hm, fun j hj => gB_cons T _ _ m hm j (fun j hj => by first | exact absurd hj (Nat.not_lt_zero _) | rfl | (simp [mk5]; done) | (simp [mk5, appF, subIx]; done)) hj⟩) | (intro k hk; exact app_byte1 ([] : List UInt8) _ _ (by first | exact hb | (simpa [subIx] using hb) | (simp only [subIx, List.tail]; simp_all)) k hk) | (intro k hk; exact kC_app T _ _ (by first | rfl | (simp [mk5]; done) | (simp [mk5]; omega)) k hk) | (simp [subIx, hb]; done) | (simp_all [subIx]; done) | (intros; simp_all; done) | (simp_all; done)

theorem in1s_p0 (N M : Nat) (B : Ix → Int) (T : List Tk) (cd op : Nat) (body : List UInt8) (cu : Bool) (i : Nat) (c : UInt8) :
    isMore (evTill Tryd.prog [] 500 (behind Tryd.f33 0) 900 33 (headOf Tryd.f33 0) (envAt Tryd.f33.ntmps ([(4, vP 101), (5, vL 102 5 (T).length), (12, vL 60 1 N), (13, vN N), (14, vN (i : Nat))])) (rB 60 M B ++ (cxN 101 1 cd op ++ toK 102 103 T)) ⟨[.s true, .s true, .s true, .s true, .t, .s false, .s true, .f], 130⟩) (moreP (headOf Tryd.f33 0) ([]) Tryd.f33.ntmps ([(4, vP 101), (5, vL 102 5 (T).length), (12, vL 60 1 N), (13, vN N), (14, vN (i + 1 : Nat))]) (cxN 101 3 cd op ++ toK 102 103 T) 300) =
    (OkL [(decide ((↑i : Int) < (↑N : Int)), true), (decide ((0 : Int) ≤ (↑i : Int) ∧ (↑i : Int) < (↑N : Int)), true), (((0 : Nat) + (↑i : Int).toNat).blt M, true), (((0 : Nat) + (↑i : Int).toNat).blt M, true), (B [(0 : Nat) + (↑i : Int).toNat] == (255 : Int), false), (B [(0 : Nat) + (↑i : Int).toNat] == (250 : Int), true)] ∧ headOf Tryd.f33 (0 : Nat) = headOf Tryd.f33 (0 : Nat) ∧ ((0 : Nat) = (0 : Nat) ∧ ((0 : Nat) = (0 : Nat) ∧ T.length = T.length) ∧ ((0 : Nat) = (0 : Nat) ∧ N = N) ∧ (↑N : Int) = (↑N : Int) ∧ (↑(i + (1 : Nat)) : Int) = IntKind.i64.wrap ((↑i : Int) + (1 : Int))) ∧ ((↑(3 : Nat) : Int) = (3 : Int) ∧ (0 : Int) = (0 : Int) ∧ (↑cd : Int) = (↑cd : Int) ∧ (↑op : Int) = (↑op : Int) ∧ True ∧ false = false) ∧ (T.length = T.length ∧ (∀ (i : Nat), i < T.length → kK T [i] = kK T [i]) ∧ (∀ (i : Nat), i < T.length → kC T [i] = kC T [i]) ∧ (∀ (i : Nat), i < T.length → kO T [i] = kO T [i]) ∧ ((∀ (i : Nat), i < T.length → kM T [i] = kM T [i]) ∧ ∀ (i : Nat), i < T.length → kL T [i] = kL T [i]) ∧ ∀ (i : Nat), i < T.length → kU T [i] = kU T [i]) ∧ T.length = T.length ∧ ∀ (m : Nat), m < T.length → gL T m = gL T m ∧ ∀ (i : Nat), i < gL T m → gB T [m, i] = gB T [m, i]) := by kernel_rfl

set_option maxHeartbeats 4000000 in
theorem in1s (N M : Nat) (B : Ix → Int) (T : List Tk) (cd op : Nat) (body : List UInt8) (cu : Bool) (i : Nat) (c : UInt8) (hi : i < N) (hN : N ≤ 400000) (hT : T.length ≤ 400000) (hl : body.length ≤ 256) (hb : B [i] = (c.toNat : Int)) (hc : c.toNat < 256) (hcd : cd < 256) (hop : op < 256) (hM : N ≤ M) (h : c.toNat = 250)  (v : SV) (L' : HF) (next : RunsTo Tryd.prog 33 (headOf Tryd.f33 0) (envAt Tryd.f33.ntmps ([(4, vP 101), (5, vL 102 5 (T).length), (12, vL 60 1 N), (13, vN N), (14, vN (i + 1 : Nat))])) (Sx.look (rB 60 M B ++ (cxN 101 3 cd op ++ toK 102 103 T))) 80 (v) (L') 300) :
    RunsTo Tryd.prog 33 (headOf Tryd.f33 0) (envAt Tryd.f33.ntmps ([(4, vP 101), (5, vL 102 5 (T).length), (12, vL 60 1 N), (13, vN N), (14, vN (i : Nat))])) (Sx.look (rB 60 M B ++ (cxN 101 1 cd op ++ toK 102 103 T))) 80 (v) (L') 300 := by
  have hw : IntKind.i64.wrap ((i : Int) + 1) = ((i + 1 : Nat) : Int) := by rw [wr64 (by omega)]; rfl
  have hb8 : IntKind.i64.wrap (c.toNat : Int) = (c.toNat : Int) := wr64 (by omega)
  have hu8 : IntKind.u8.wrap (c.toNat : Int) = (c.toNat : Int) := u8id (by omega)
  refine runs_more baseO (More.of (in1s_p0 N M B T cd op body cu i c) ⟨?oo, rfl, ?rr⟩) (by kernel_rfl) (by kernel_rfl) rfl (gtL (by decide)) (by decide) next
  case oo =>
    clear next
    refine (okc ?_ (okc ?_ (okc ?_ (okc ?_ (okc ?_ (okc ?_ okn))))))
    all_goals ((try simp (disch := omega) only [SS, hw, hb, hb8, hu8]); first | done | omega | assumption | (simp (disch := omega) only [SS, hw, hb, hb8, hu8] at *; first | done | omega | assumption) | (simp_all; done))
  case rr =>
    clear next
    simp (disch := omega) only [SS, hw, hb, hb8, hu8, Go.Sx.sum, List.length_append, List.length_cons, List.length_nil, Nat.zero_add]
    repeat' apply And.intro
    all_goals first | exact True.intro | with_reducible rfl | omega | exact kK_app T _ _ rfl | exact kC_app T _ _ rfl | exact kO_app T _ _ rfl | exact kL_app T _ _ rfl | exact kU_app T _ _ rfl | exact kM_app T _ _ _ (fun k hk => rfl) rfl | exact gL_cons T _ _ rfl | (intro m hm; exact ⟨gL_cons T _ _ rfl m hm, fun j hj => gB_cons T _ _ m hm j (fun j hj => by first | exact absurd hj (Nat.not_lt_zero _) | rfl | (simp [mk5]; done) | (simp [mk5, appF, subIx]; done)) hj⟩) | (intro k hk; exact app_byte1 ([] : List UInt8) _ _ (by first | exact hb | (simpa [subIx] using hb) | (simp only [subIx, List.tail]; simp_all)) k hk) | (intro k hk; exact kC_app T _ _ (by first | rfl | (simp [mk5]; done) | (simp [mk5]; omega)) k hk) | (simp [subIx, hb]; done) | (simp_all [subIx]; done) | (intros; simp_all; done) | (simp_all; done)

theorem in1v_p0 (N M : Nat) (B : Ix → Int) (T : List Tk) (cd op : Nat) (body : List UInt8) (cu : Bool) (i : Nat) (c : UInt8) :
    isMore (evTill Tryd.prog [] 500 (behind Tryd.f33 0) 900 33 (headOf Tryd.f33 0) (envAt Tryd.f33.ntmps ([(4, vP 101), (5, vL 102 5 (T).length), (12, vL 60 1 N), (13, vN N), (14, vN (i : Nat))])) (rB 60 M B ++ (cxN 101 1 cd op ++ toK 102 103 T)) ⟨[.s true, .s true, .s true, .s true, .t, .s false, .s false, .s true, .s true, .f], 130⟩) (moreP (headOf Tryd.f33 0) ([]) Tryd.f33.ntmps ([(4, vP 101), (5, vL 102 5 (T).length), (12, vL 60 1 N), (13, vN N), (14, vN (i + 1 : Nat))]) (cxN 101 2 c.toNat 0 ++ toK 102 103 T) 300) =
    (OkL [(decide ((↑i : Int) < (↑N : Int)), true), (decide ((0 : Int) ≤ (↑i : Int) ∧ (↑i : Int) < (↑N : Int)), true), (((0 : Nat) + (↑i : Int).toNat).blt M, true), (((0 : Nat) + (↑i : Int).toNat).blt M, true), (B [(0 : Nat) + (↑i : Int).toNat] == (255 : Int), false), (B [(0 : Nat) + (↑i : Int).toNat] == (250 : Int), false), (decide (IntKind.i64.wrap (B [(0 : Nat) + (↑i : Int).toNat]) ≥ (251 : Int)), true), (decide (IntKind.i64.wrap (B [(0 : Nat) + (↑i : Int).toNat]) ≤ (254 : Int)), true)] ∧ headOf Tryd.f33 (0 : Nat) = headOf Tryd.f33 (0 : Nat) ∧ ((0 : Nat) = (0 : Nat) ∧ ((0 : Nat) = (0 : Nat) ∧ T.length = T.length) ∧ ((0 : Nat) = (0 : Nat) ∧ N = N) ∧ (↑N : Int) = (↑N : Int) ∧ (↑(i + (1 : Nat)) : Int) = IntKind.i64.wrap ((↑i : Int) + (1 : Int))) ∧ ((↑(2 : Nat) : Int) = (2 : Int) ∧ (0 : Int) = (0 : Int) ∧ (↑c.toNat : Int) = IntKind.i64.wrap (B [(0 : Nat) + (↑i : Int).toNat]) ∧ (↑(0 : Nat) : Int) = (0 : Int) ∧ True ∧ false = false) ∧ (T.length = T.length ∧ (∀ (i : Nat), i < T.length → kK T [i] = kK T [i]) ∧ (∀ (i : Nat), i < T.length → kC T [i] = kC T [i]) ∧ (∀ (i : Nat), i < T.length → kO T [i] = kO T [i]) ∧ ((∀ (i : Nat), i < T.length → kM T [i] = kM T [i]) ∧ ∀ (i : Nat), i < T.length → kL T [i] = kL T [i]) ∧ ∀ (i : Nat), i < T.length → kU T [i] = kU T [i]) ∧ T.length = T.length ∧ ∀ (m : Nat), m < T.length → gL T m = gL T m ∧ ∀ (i : Nat), i < gL T m → gB T [m, i] = gB T [m, i]) := by kernel_rfl

set_option maxHeartbeats 4000000 in
theorem in1v (N M : Nat) (B : Ix → Int) (T : List Tk) (cd op : Nat) (body : List UInt8) (cu : Bool) (i : Nat) (c : UInt8) (hi : i < N) (hN : N ≤ 400000) (hT : T.length ≤ 400000) (hl : body.length ≤ 256) (hb : B [i] = (c.toNat : Int)) (hc : c.toNat < 256) (hcd : cd < 256) (hop : op < 256) (hM : N ≤ M) (h : 251 ≤ c.toNat ∧ c.toNat ≤ 254)  (v : SV) (L' : HF) (next : RunsTo Tryd.prog 33 (headOf Tryd.f33 0) (envAt Tryd.f33.ntmps ([(4, vP 101), (5, vL 102 5 (T).length), (12, vL 60 1 N), (13, vN N), (14, vN (i + 1 : Nat))])) (Sx.look (rB 60 M B ++ (cxN 101 2 c.toNat 0 ++ toK 102 103 T))) 80 (v) (L') 300) :
    RunsTo Tryd.prog 33 (headOf Tryd.f33 0) (envAt Tryd.f33.ntmps ([(4, vP 101), (5, vL 102 5 (T).length), (12, vL 60 1 N), (13, vN N), (14, vN (i : Nat))])) (Sx.look (rB 60 M B ++ (cxN 101 1 cd op ++ toK 102 103 T))) 80 (v) (L') 300 := by
  have hw : IntKind.i64.wrap ((i : Int) + 1) = ((i + 1 : Nat) : Int) := by rw [wr64 (by omega)]; rfl
  have hb8 : IntKind.i64.wrap (c.toNat : Int) = (c.toNat : Int) := wr64 (by omega)
  have hu8 : IntKind.u8.wrap (c.toNat : Int) = (c.toNat : Int) := u8id (by omega)
  refine runs_more baseO (More.of (in1v_p0 N M B T cd op body cu i c) ⟨?oo, rfl, ?rr⟩) (by kernel_rfl) (by kernel_rfl) rfl (gtL (by decide)) (by decide) next
  case oo =>
    clear next
    refine (okc ?_ (okc ?_ (okc ?_ (okc ?_ (okc ?_ (okc ?_ (okc ?_ (okc ?_ okn))))))))
    all_goals ((try simp (disch := omega) only [SS, hw, hb, hb8, hu8]); first | done | omega | assumption | (simp (disch := omega) only [SS, hw, hb, hb8, hu8] at *; first | done | omega | assumption) | (simp_all; done))
  case rr =>
    clear next
    simp (disch := omega) only [SS, hw, hb, hb8, hu8, Go.Sx.sum, List.length_append, List.length_cons, List.length_nil, Nat.zero_add]
    repeat' apply And.intro
    all_goals first | exact True.intro | with_reducible rfl | omega | exact kK_app T _ _ rfl | exact kC_app T _ _ rfl | exact kO_app T _ _ rfl | exact kL_app T _ _ rfl | exact kU_app T _ _ rfl | exact kM_app T _ _ _ (fun k hk => rfl) rfl | exact gL_cons T _ _ rfl | (intro m hm; exact ⟨gL_cons T _ _ rfl m hm, fun j hj => gB_cons T _ _ m hm j (fun j hj => by first | exact absurd hj (Nat.not_lt_zero _) | rfl | (simp [mk5]; done) | (simp [mk5, appF, subIx]; done)) hj⟩) | (intro k hk; exact app_byte1 ([] : List UInt8) _ _ (by first | exact hb | (simpa [subIx] using hb) | (simp only [subIx, List.tail]; simp_all)) k hk) | (intro k hk; exact kC_app T _ _ (by first | rfl | (simp [mk5]; done) | (simp [mk5]; omega)) k hk) | (simp [subIx, hb]; done) | (simp_all [subIx]; done) | (intros; simp_all; done) | (simp_all; done)

theorem in3_p0 (N M : Nat) (B : Ix → Int) (T : List Tk) (cd op : Nat) (body : List UInt8) (cu : Bool) (i : Nat) (c : UInt8) :
    isMore (evTill Tryd.prog [] 500 (behind Tryd.f33 0) 900 33 (headOf Tryd.f33 0) (envAt Tryd.f33.ntmps ([(4, vP 101), (5, vL 102 5 (T).length), (12, vL 60 1 N), (13, vN N), (14, vN (i : Nat))])) (rB 60 M B ++ (cxN 101 3 cd op ++ toK 102 103 T)) ⟨[.s true, .s true, .s true, .s true, .f, .f, .t, .f], 130⟩) (moreP (headOf Tryd.f33 0) ([]) Tryd.f33.ntmps ([(4, vP 101), (5, vL 102 5 (T).length), (12, vL 60 1 N), (13, vN N), (14, vN (i + 1 : Nat))]) (cxN 101 4 0 c.toNat ++ toK 102 103 T) 300) =
    (OkL [(decide ((↑i : Int) < (↑N : Int)), true), (decide ((0 : Int) ≤ (↑i : Int) ∧ (↑i : Int) < (↑N : Int)), true), (((0 : Nat) + (↑i : Int).toNat).blt M, true), (((0 : Nat) + (↑i : Int).toNat).blt M, true)] ∧ headOf Tryd.f33 (0 : Nat) = headOf Tryd.f33 (0 : Nat) ∧ ((0 : Nat) = (0 : Nat) ∧ ((0 : Nat) = (0 : Nat) ∧ T.length = T.length) ∧ ((0 : Nat) = (0 : Nat) ∧ N = N) ∧ (↑N : Int) = (↑N : Int) ∧ (↑(i + (1 : Nat)) : Int) = IntKind.i64.wrap ((↑i : Int) + (1 : Int))) ∧ ((↑(4 : Nat) : Int) = (4 : Int) ∧ (0 : Int) = (0 : Int) ∧ (↑(0 : Nat) : Int) = (0 : Int) ∧ (↑c.toNat : Int) = IntKind.i64.wrap (B [(0 : Nat) + (↑i : Int).toNat]) ∧ True ∧ false = false) ∧ (T.length = T.length ∧ (∀ (i : Nat), i < T.length → kK T [i] = kK T [i]) ∧ (∀ (i : Nat), i < T.length → kC T [i] = kC T [i]) ∧ (∀ (i : Nat), i < T.length → kO T [i] = kO T [i]) ∧ ((∀ (i : Nat), i < T.length → kM T [i] = kM T [i]) ∧ ∀ (i : Nat), i < T.length → kL T [i] = kL T [i]) ∧ ∀ (i : Nat), i < T.length → kU T [i] = kU T [i]) ∧ T.length = T.length ∧ ∀ (m : Nat), m < T.length → gL T m = gL T m ∧ ∀ (i : Nat), i < gL T m → gB T [m, i] = gB T [m, i]) := by kernel_rfl

set_option maxHeartbeats 4000000 in
theorem in3 (N M : Nat) (B : Ix → Int) (T : List Tk) (cd op : Nat) (body : List UInt8) (cu : Bool) (i : Nat) (c : UInt8) (hi : i < N) (hN : N ≤ 400000) (hT : T.length ≤ 400000) (hl : body.length ≤ 256) (hb : B [i] = (c.toNat : Int)) (hc : c.toNat < 256) (hcd : cd < 256) (hop : op < 256) (hM : N ≤ M)  (v : SV) (L' : HF) (next : RunsTo Tryd.prog 33 (headOf Tryd.f33 0) (envAt Tryd.f33.ntmps ([(4, vP 101), (5, vL 102 5 (T).length), (12, vL 60 1 N), (13, vN N), (14, vN (i + 1 : Nat))])) (Sx.look (rB 60 M B ++ (cxN 101 4 0 c.toNat ++ toK 102 103 T))) 80 (v) (L') 300) :
    RunsTo Tryd.prog 33 (headOf Tryd.f33 0) (envAt Tryd.f33.ntmps ([(4, vP 101), (5, vL 102 5 (T).length), (12, vL 60 1 N), (13, vN N), (14, vN (i : Nat))])) (Sx.look (rB 60 M B ++ (cxN 101 3 cd op ++ toK 102 103 T))) 80 (v) (L') 300 := by
  have hw : IntKind.i64.wrap ((i : Int) + 1) = ((i + 1 : Nat) : Int) := by rw [wr64 (by omega)]; rfl
  have hb8 : IntKind.i64.wrap (c.toNat : Int) = (c.toNat : Int) := wr64 (by omega)
  have hu8 : IntKind.u8.wrap (c.toNat : Int) = (c.toNat : Int) := u8id (by omega)
  refine runs_more baseO (More.of (in3_p0 N M B T cd op body cu i c) ⟨?oo, rfl, ?rr⟩) (by kernel_rfl) (by kernel_rfl) rfl (gtL (by decide)) (by decide) next
  case oo =>
    clear next
    refine (okc ?_ (okc ?_ (okc ?_ (okc ?_ okn))))
    all_goals ((try simp (disch := omega) only [SS, hw, hb, hb8, hu8]); first | done | omega | assumption | (simp (disch := omega) only [SS, hw, hb, hb8, hu8] at *; first | done | omega | assumption) | (simp_all; done))
  case rr =>
    clear next
    simp (disch := omega) only [SS, hw, hb, hb8, hu8, Go.Sx.sum, List.length_append, List.length_cons, List.length_nil, Nat.zero_add]
    repeat' apply And.intro
    all_goals first | exact True.intro | with_reducible rfl | omega | exact kK_app T _ _ rfl | exact kC_app T _ _ rfl | exact kO_app T _ _ rfl | exact kL_app T _ _ rfl | exact kU_app T _ _ rfl | exact kM_app T _ _ _ (fun k hk => rfl) rfl | exact gL_cons T _ _ rfl | (intro m hm; exact ⟨gL_cons T _ _ rfl m hm, fun j hj => gB_cons T _ _ m hm j (fun j hj => by first | exact absurd hj (Nat.not_lt_zero _) | rfl | (simp [mk5]; done) | (simp [mk5, appF, subIx]; done)) hj⟩) | (intro k hk; exact app_byte1 ([] : List UInt8) _ _ (by first | exact hb | (simpa [subIx] using hb) | (simp only [subIx, List.tail]; simp_all)) k hk) | (intro k hk; exact kC_app T _ _ (by first | rfl | (simp [mk5]; done) | (simp [mk5]; omega)) k hk) | (simp [subIx, hb]; done) | (simp_all [subIx]; done) | (intros; simp_all; done) | (simp_all; done)

theorem in4eN_p0 (N M : Nat) (B : Ix → Int) (T : List Tk) (cd op : Nat) (body : List UInt8) (cu : Bool) (i : Nat) (c : UInt8) :
    isMore (evTill Tryd.prog [] 500 (behind Tryd.f33 0) 900 33 (headOf Tryd.f33 0) (envAt Tryd.f33.ntmps ([(4, vP 101), (5, vL 102 5 (T).length), (12, vL 60 1 N), (13, vN N), (14, vN (i : Nat))])) (rB 60 M B ++ (cxN 101 4 cd op ++ toK 102 103 T)) ⟨[.s true, .s true, .s true, .s true, .f, .f, .f, .t, .s true, .f], 130⟩) (moreP (headOf Tryd.f33 0) ([]) Tryd.f33.ntmps ([(4, vP 101), (5, vL 102 5 (T).length), (12, vL 60 1 N), (13, vN N), (14, vN (i + 1 : Nat))]) (cxN 101 5 cd op ++ toK 102 103 T) 300) =
    (OkL [(decide ((↑i : Int) < (↑N : Int)), true), (decide ((0 : Int) ≤ (↑i : Int) ∧ (↑i : Int) < (↑N : Int)), true), (((0 : Nat) + (↑i : Int).toNat).blt M, true), (((0 : Nat) + (↑i : Int).toNat).blt M, true), (B [(0 : Nat) + (↑i : Int).toNat] == (255 : Int), true)] ∧ headOf Tryd.f33 (0 : Nat) = headOf Tryd.f33 (0 : Nat) ∧ ((0 : Nat) = (0 : Nat) ∧ ((0 : Nat) = (0 : Nat) ∧ T.length = T.length) ∧ ((0 : Nat) = (0 : Nat) ∧ N = N) ∧ (↑N : Int) = (↑N : Int) ∧ (↑(i + (1 : Nat)) : Int) = IntKind.i64.wrap ((↑i : Int) + (1 : Int))) ∧ ((↑(5 : Nat) : Int) = (5 : Int) ∧ (0 : Int) = (0 : Int) ∧ (↑cd : Int) = (↑cd : Int) ∧ (↑op : Int) = (↑op : Int) ∧ True ∧ false = false) ∧ (T.length = T.length ∧ (∀ (i : Nat), i < T.length → kK T [i] = kK T [i]) ∧ (∀ (i : Nat), i < T.length → kC T [i] = kC T [i]) ∧ (∀ (i : Nat), i < T.length → kO T [i] = kO T [i]) ∧ ((∀ (i : Nat), i < T.length → kM T [i] = kM T [i]) ∧ ∀ (i : Nat), i < T.length → kL T [i] = kL T [i]) ∧ ∀ (i : Nat), i < T.length → kU T [i] = kU T [i]) ∧ T.length = T.length ∧ ∀ (m : Nat), m < T.length → gL T m = gL T m ∧ ∀ (i : Nat), i < gL T m → gB T [m, i] = gB T [m, i]) := by kernel_rfl

set_option maxHeartbeats 4000000 in
theorem in4eN (N M : Nat) (B : Ix → Int) (T : List Tk) (cd op : Nat) (body : List UInt8) (cu : Bool) (i : Nat) (c : UInt8) (hi : i < N) (hN : N ≤ 400000) (hT : T.length ≤ 400000) (hl : body.length ≤ 256) (hb : B [i] = (c.toNat : Int)) (hc : c.toNat < 256) (hcd : cd < 256) (hop : op < 256) (hM : N ≤ M) (h : c.toNat = 255)  (v : SV) (L' : HF) (next : RunsTo Tryd.prog 33 (headOf Tryd.f33 0) (envAt Tryd.f33.ntmps ([(4, vP 101), (5, vL 102 5 (T).length), (12, vL 60 1 N), (13, vN N), (14, vN (i + 1 : Nat))])) (Sx.look (rB 60 M B ++ (cxN 101 5 cd op ++ toK 102 103 T))) 80 (v) (L') 300) :
    RunsTo Tryd.prog 33 (headOf Tryd.f33 0) (envAt Tryd.f33.ntmps ([(4, vP 101), (5, vL 102 5 (T).length), (12, vL 60 1 N), (13, vN N), (14, vN (i : Nat))])) (Sx.look (rB 60 M B ++ (cxN 101 4 cd op ++ toK 102 103 T))) 80 (v) (L') 300 := by
  have hw : IntKind.i64.wrap ((i : Int) + 1) = ((i + 1 : Nat) : Int) := by rw [wr64 (by omega)]; rfl
  have hb8 : IntKind.i64.wrap (c.toNat : Int) = (c.toNat : Int) := wr64 (by omega)
  have hu8 : IntKind.u8.wrap (c.toNat : Int) = (c.toNat : Int) := u8id (by omega)
  refine runs_more baseO (More.of (in4eN_p0 N M B T cd op body cu i c) ⟨?oo, rfl, ?rr⟩) (by kernel_rfl) (by kernel_rfl) rfl (gtL (by decide)) (by decide) next
  case oo =>
    clear next
    refine (okc ?_ (okc ?_ (okc ?_ (okc ?_ (okc ?_ okn)))))
    all_goals ((try simp (disch := omega) only [SS, hw, hb, hb8, hu8]); first | done | omega | assumption | (simp (disch := omega) only [SS, hw, hb, hb8, hu8] at *; first | done | omega | assumption) | (simp_all; done))
  case rr =>
    clear next
    simp (disch := omega) only [SS, hw, hb, hb8, hu8, Go.Sx.sum, List.length_append, List.length_cons, List.length_nil, Nat.zero_add]
    repeat' apply And.intro
    all_goals first | exact True.intro | with_reducible rfl | omega | exact kK_app T _ _ rfl | exact kC_app T _ _ rfl | exact kO_app T _ _ rfl | exact kL_app T _ _ rfl | exact kU_app T _ _ rfl | exact kM_app T _ _ _ (fun k hk => rfl) rfl | exact gL_cons T _ _ rfl | (intro m hm; exact ⟨gL_cons T _ _ rfl m hm, fun j hj => gB_cons T _ _ m hm j (fun j hj => by first | exact absurd hj (Nat.not_lt_zero _) | rfl | (simp [mk5]; done) | (simp [mk5, appF, subIx]; done)) hj⟩) | (intro k hk; exact app_byte1 ([] : List UInt8) _ _ (by first | exact hb | (simpa [subIx] using hb) | (simp only [subIx, List.tail]; simp_all)) k hk) | (intro k hk; exact kC_app T _ _ (by first | rfl | (simp [mk5]; done) | (simp [mk5]; omega)) k hk) | (simp [subIx, hb]; done) | (simp_all [subIx]; done) | (intros; simp_all; done) | (simp_all; done)

theorem in4N_p0 (N M : Nat) (B : Ix → Int) (T : List Tk) (cd op : Nat) (body : List UInt8) (cu : Bool) (i : Nat) (c : UInt8) :
    isMore (evTill Tryd.prog [] 500 (behind Tryd.f33 0) 900 33 (headOf Tryd.f33 0) (envAt Tryd.f33.ntmps ([(4, vP 101), (5, vL 102 5 (T).length), (12, vL 60 1 N), (13, vN N), (14, vN (i : Nat))])) (rB 60 M B ++ (cxN 101 4 cd op ++ toK 102 103 T)) ⟨[.s true, .s true, .s true, .s true, .f, .f, .f, .t, .s false, .f, .t, .t, .f], 130⟩) (moreP (headOf Tryd.f33 0) ([((104 : Nat), Rn.to (133 : Nat))]) Tryd.f33.ntmps ([(4, vP 101), (5, vL 102 5 (T).length), (12, vL 60 1 N), (13, vN N), (14, vN (i + 1 : Nat))]) (cxE 101 104 4 cd op [c] false ++ toK 102 103 T) 300) =
    (OkL [(decide ((↑i : Int) < (↑N : Int)), true), (decide ((0 : Int) ≤ (↑i : Int) ∧ (↑i : Int) < (↑N : Int)), true), (((0 : Nat) + (↑i : Int).toNat).blt M, true), (((0 : Nat) + (↑i : Int).toNat).blt M, true), (B [(0 : Nat) + (↑i : Int).toNat] == (255 : Int), false)] ∧ headOf Tryd.f33 (0 : Nat) = headOf Tryd.f33 (0 : Nat) ∧ ((0 : Nat) = (0 : Nat) ∧ ((0 : Nat) = (0 : Nat) ∧ T.length = T.length) ∧ ((0 : Nat) = (0 : Nat) ∧ N = N) ∧ (↑N : Int) = (↑N : Int) ∧ (↑(i + (1 : Nat)) : Int) = IntKind.i64.wrap ((↑i : Int) + (1 : Int))) ∧ ((↑(4 : Nat) : Int) = (↑(4 : Nat) : Int) ∧ (0 : Int) = (0 : Int) ∧ (↑cd : Int) = (↑cd : Int) ∧ (↑op : Int) = (↑op : Int) ∧ ((0 : Nat) = (0 : Nat) ∧ [c].length = (1 : Nat)) ∧ false = false) ∧ ([c].length = (1 : Nat) ∧ ∀ (i_1 : Nat), i_1 < [c].length → (↑([c].getD i_1 (0 : UInt8)).toNat : Int) = B (((0 : Nat) + (↑i : Int).toNat) :: List.tail (subIx (0 : Nat) [i_1]))) ∧ (T.length = T.length ∧ (∀ (i : Nat), i < T.length → kK T [i] = kK T [i]) ∧ (∀ (i : Nat), i < T.length → kC T [i] = kC T [i]) ∧ (∀ (i : Nat), i < T.length → kO T [i] = kO T [i]) ∧ ((∀ (i : Nat), i < T.length → kM T [i] = kM T [i]) ∧ ∀ (i : Nat), i < T.length → kL T [i] = kL T [i]) ∧ ∀ (i : Nat), i < T.length → kU T [i] = kU T [i]) ∧ T.length = T.length ∧ ∀ (m : Nat), m < T.length → gL T m = gL T m ∧ ∀ (i : Nat), i < gL T m → gB T [m, i] = gB T [m, i]) := by kernel_rfl

set_option maxHeartbeats 4000000 in
theorem in4N (N M : Nat) (B : Ix → Int) (T : List Tk) (cd op : Nat) (body : List UInt8) (cu : Bool) (i : Nat) (c : UInt8) (hi : i < N) (hN : N ≤ 400000) (hT : T.length ≤ 400000) (hl : body.length ≤ 256) (hb : B [i] = (c.toNat : Int)) (hc : c.toNat < 256) (hcd : cd < 256) (hop : op < 256) (hM : N ≤ M) (h : c.toNat ≠ 255)  (v : SV) (L' : HF) (next : RunsTo Tryd.prog 33 (headOf Tryd.f33 0) (envAt Tryd.f33.ntmps ([(4, vP 101), (5, vL 102 5 (T).length), (12, vL 60 1 N), (13, vN N), (14, vN (i + 1 : Nat))])) (Sx.look (rB 60 M B ++ (cxE 101 104 4 cd op [c] false ++ toK 102 103 T))) 80 (v) (L') 300) :
    RunsTo Tryd.prog 33 (headOf Tryd.f33 0) (envAt Tryd.f33.ntmps ([(4, vP 101), (5, vL 102 5 (T).length), (12, vL 60 1 N), (13, vN N), (14, vN (i : Nat))])) (Sx.look (rB 60 M B ++ (cxN 101 4 cd op ++ toK 102 103 T))) 80 (v) (L') 300 := by
  have hw : IntKind.i64.wrap ((i : Int) + 1) = ((i + 1 : Nat) : Int) := by rw [wr64 (by omega)]; rfl
  have hb8 : IntKind.i64.wrap (c.toNat : Int) = (c.toNat : Int) := wr64 (by omega)
  have hu8 : IntKind.u8.wrap (c.toNat : Int) = (c.toNat : Int) := u8id (by omega)
  refine runs_more baseO (More.of (in4N_p0 N M B T cd op body cu i c) ⟨?oo, rfl, ?rr⟩) (by kernel_rfl) (by kernel_rfl) rfl (gtL (by decide)) (by decide) next
  case oo =>
    clear next
    refine (okc ?_ (okc ?_ (okc ?_ (okc ?_ (okc ?_ okn)))))
    all_goals ((try simp (disch := omega) only [SS, hw, hb, hb8, hu8]); first | done | omega | assumption | (simp (disch := omega) only [SS, hw, hb, hb8, hu8] at *; first | done | omega | assumption) | (simp_all; done))
  case rr =>
    clear next
    simp (disch := omega) only [SS, hw, hb, hb8, hu8, Go.Sx.sum, List.length_append, List.length_cons, List.length_nil, Nat.zero_add]
    repeat' apply And.intro
    all_goals first | exact True.intro | with_reducible rfl | omega | exact kK_app T _ _ rfl | exact kC_app T _ _ rfl | exact kO_app T _ _ rfl | exact kL_app T _ _ rfl | exact kU_app T _ _ rfl | exact kM_app T _ _ _ (fun k hk => rfl) rfl | exact gL_cons T _ _ rfl | (intro m hm; exact ⟨gL_cons T _ _ rfl m hm, fun j hj => gB_cons T _ _ m hm j (fun j hj => by first | exact absurd hj (Nat.not_lt_zero _) | rfl | (simp [mk5]; done) | (simp [mk5, appF, subIx]; done)) hj⟩) | (intro k hk; exact app_byte1 ([] : List UInt8) _ _ (by first | exact hb | (simpa [subIx] using hb) | (simp only [subIx, List.tail]; simp_all)) k hk) | (intro k hk; exact kC_app T _ _ (by first | rfl | (simp [mk5]; done) | (simp [mk5]; omega)) k hk) | (simp [subIx, hb]; done) | (simp_all [subIx]; done) | (intros; simp_all; done) | (simp_all; done)

theorem in5eN_p0 (N M : Nat) (B : Ix → Int) (T : List Tk) (cd op : Nat) (body : List UInt8) (cu : Bool) (i : Nat) (c : UInt8) :
    isMore (evTill Tryd.prog [] 500 (behind Tryd.f33 0) 900 33 (headOf Tryd.f33 0) (envAt Tryd.f33.ntmps ([(4, vP 101), (5, vL 102 5 (T).length), (12, vL 60 1 N), (13, vN N), (14, vN (i : Nat))])) (rB 60 M B ++ (cxN 101 5 cd op ++ toK 102 103 T)) ⟨[.s true, .s true, .s true, .s true, .f, .f, .f, .f, .t, .s true, .f, .t, .t, .f], 130⟩) (moreP (headOf Tryd.f33 0) ([((104 : Nat), Rn.to (133 : Nat))]) Tryd.f33.ntmps ([(4, vP 101), (5, vL 102 5 (T).length), (12, vL 60 1 N), (13, vN N), (14, vN (i + 1 : Nat))]) (cxE 101 104 4 cd op [255] false ++ toK 102 103 T) 300) =
    (OkL [(decide ((↑i : Int) < (↑N : Int)), true), (decide ((0 : Int) ≤ (↑i : Int) ∧ (↑i : Int) < (↑N : Int)), true), (((0 : Nat) + (↑i : Int).toNat).blt M, true), (((0 : Nat) + (↑i : Int).toNat).blt M, true), (B [(0 : Nat) + (↑i : Int).toNat] == (255 : Int), true)] ∧ headOf Tryd.f33 (0 : Nat) = headOf Tryd.f33 (0 : Nat) ∧ ((0 : Nat) = (0 : Nat) ∧ ((0 : Nat) = (0 : Nat) ∧ T.length = T.length) ∧ ((0 : Nat) = (0 : Nat) ∧ N = N) ∧ (↑N : Int) = (↑N : Int) ∧ (↑(i + (1 : Nat)) : Int) = IntKind.i64.wrap ((↑i : Int) + (1 : Int))) ∧ ((↑(4 : Nat) : Int) = (4 : Int) ∧ (0 : Int) = (0 : Int) ∧ (↑cd : Int) = (↑cd : Int) ∧ (↑op : Int) = (↑op : Int) ∧ ((0 : Nat) = (0 : Nat) ∧ (1 : Nat) = (1 : Nat)) ∧ false = false) ∧ ((1 : Nat) = (1 : Nat) ∧ ∀ (i_1 : Nat), i_1 < (1 : Nat) → (↑([(255 : UInt8)].getD i_1 (0 : UInt8)).toNat : Int) = B (((0 : Nat) + (↑i : Int).toNat) :: List.tail (subIx (0 : Nat) [i_1]))) ∧ (T.length = T.length ∧ (∀ (i : Nat), i < T.length → kK T [i] = kK T [i]) ∧ (∀ (i : Nat), i < T.length → kC T [i] = kC T [i]) ∧ (∀ (i : Nat), i < T.length → kO T [i] = kO T [i]) ∧ ((∀ (i : Nat), i < T.length → kM T [i] = kM T [i]) ∧ ∀ (i : Nat), i < T.length → kL T [i] = kL T [i]) ∧ ∀ (i : Nat), i < T.length → kU T [i] = kU T [i]) ∧ T.length = T.length ∧ ∀ (m : Nat), m < T.length → gL T m = gL T m ∧ ∀ (i : Nat), i < gL T m → gB T [m, i] = gB T [m, i]) := by kernel_rfl

set_option maxHeartbeats 4000000 in
theorem in5eN (N M : Nat) (B : Ix → Int) (T : List Tk) (cd op : Nat) (body : List UInt8) (cu : Bool) (i : Nat) (c : UInt8) (hi : i < N) (hN : N ≤ 400000) (hT : T.length ≤ 400000) (hl : body.length ≤ 256) (hb : B [i] = (c.toNat : Int)) (hc : c.toNat < 256) (hcd : cd < 256) (hop : op < 256) (hM : N ≤ M) (h : c.toNat = 255)  (v : SV) (L' : HF) (next : RunsTo Tryd.prog 33 (headOf Tryd.f33 0) (envAt Tryd.f33.ntmps ([(4, vP 101), (5, vL 102 5 (T).length), (12, vL 60 1 N), (13, vN N), (14, vN (i + 1 : Nat))])) (Sx.look (rB 60 M B ++ (cxE 101 104 4 cd op [255] false ++ toK 102 103 T))) 80 (v) (L') 300) :
    RunsTo Tryd.prog 33 (headOf Tryd.f33 0) (envAt Tryd.f33.ntmps ([(4, vP 101), (5, vL 102 5 (T).length), (12, vL 60 1 N), (13, vN N), (14, vN (i : Nat))])) (Sx.look (rB 60 M B ++ (cxN 101 5 cd op ++ toK 102 103 T))) 80 (v) (L') 300 := by
  have hw : IntKind.i64.wrap ((i : Int) + 1) = ((i + 1 : Nat) : Int) := by rw [wr64 (by omega)]; rfl
  have hb8 : IntKind.i64.wrap (c.toNat : Int) = (c.toNat : Int) := wr64 (by omega)
  have hu8 : IntKind.u8.wrap (c.toNat : Int) = (c.toNat : Int) := u8id (by omega)
  refine runs_more baseO (More.of (in5eN_p0 N M B T cd op body cu i c) ⟨?oo, rfl, ?rr⟩) (by kernel_rfl) (by kernel_rfl) rfl (gtL (by decide)) (by decide) next
  case oo =>
    clear next
    refine (okc ?_ (okc ?_ (okc ?_ (okc ?_ (okc ?_ okn)))))
    all_goals ((try simp (disch := omega) only [SS, hw, hb, hb8, hu8]); first | done | omega | assumption | (simp (disch := omega) only [SS, hw, hb, hb8, hu8] at *; first | done | omega | assumption) | (simp_all; done))
  case rr =>
    clear next
    simp (disch := omega) only [SS, hw, hb, hb8, hu8, Go.Sx.sum, List.length_append, List.length_cons, List.length_nil, Nat.zero_add]
    repeat' apply And.intro
    all_goals first | exact True.intro | with_reducible rfl | omega | exact kK_app T _ _ rfl | exact kC_app T _ _ rfl | exact kO_app T _ _ rfl | exact kL_app T _ _ rfl | exact kU_app T _ _ rfl | exact kM_app T _ _ _ (fun k hk => rfl) rfl | exact gL_cons T _ _ rfl | (intro m hm; exact ⟨gL_cons T _ _ rfl m hm, fun j hj => gB_cons T _ _ m hm j (fun j hj => by first | exact absurd hj (Nat.not_lt_zero _) | rfl | (simp [mk5]; done) | (simp [mk5, appF, subIx]; done)) hj⟩) | (intro k hk; exact app_byte1 ([] : List UInt8) _ _ (by first | exact hb | (simpa [subIx] using hb) | (simp only [subIx, List.tail]; simp_all)) k hk) | (intro k hk; exact kC_app T _ _ (by first | rfl | (simp [mk5]; done) | (simp [mk5]; omega)) k hk) | (simp [subIx, hb]; done) | (simp_all [subIx]; done) | (intros; simp_all; done) | (simp_all; done)

theorem icP_p0 (N M : Nat) (B : Ix → Int) (T : List Tk) (cd op : Nat) (body : List UInt8) (cu : Bool) (i : Nat) (c : UInt8) :
    isMore (evTill Tryd.prog [] 500 (behind Tryd.f33 0) 900 33 (headOf Tryd.f33 0) (envAt Tryd.f33.ntmps ([(4, vP 101), (5, vL 102 5 (T).length), (12, vL 60 1 N), (13, vN N), (14, vN (i : Nat))])) (rB 60 M B ++ (cxN 101 1 cd op ++ toK 102 103 T)) ⟨[.s true, .s true, .s true, .s true, .t, .s false, .s false, .s false, .f, .t, .t, .t, .s true, .s true], 130⟩) (moreP (headOf Tryd.f33 0) ([((102 : Nat), Rn.to (135 : Nat)), ((103 : Nat), Rn.to (134 : Nat))]) Tryd.f33.ntmps ([(4, vP 101), (5, vL 102 5 ((T ++ [mk5 2 c.toNat 0 [] false])).length), (12, vL 60 1 N), (13, vN N), (14, vN (i + 1 : Nat))]) (cxN 101 0 0 0 ++ toK 102 103 (T ++ [mk5 2 c.toNat 0 [] false])) 300) =
    (OkL [(decide ((↑i : Int) < (↑N : Int)), true), (decide ((0 : Int) ≤ (↑i : Int) ∧ (↑i : Int) < (↑N : Int)), true), (((0 : Nat) + (↑i : Int).toNat).blt M, true), (((0 : Nat) + (↑i : Int).toNat).blt M, true), (B [(0 : Nat) + (↑i : Int).toNat] == (255 : Int), false), (B [(0 : Nat) + (↑i : Int).toNat] == (250 : Int), false), (decide (IntKind.i64.wrap (B [(0 : Nat) + (↑i : Int).toNat]) ≥ (251 : Int)), false), (((0 : Nat) + T.length).ble T.length, true), (decide (((2 : Nat) * (T.length + (1 : Nat)) + (192 : Nat)) * (56 : Nat) ≤ (281474976710656 : Nat)), true)] ∧ headOf Tryd.f33 (0 : Nat) = headOf Tryd.f33 (0 : Nat) ∧ ((0 : Nat) = (0 : Nat) ∧ ((0 : Nat) = (0 : Nat) ∧ (T ++ [mk5 (2 : Nat) c.toNat (0 : Nat) [] false]).length = T.length + (1 : Nat)) ∧ ((0 : Nat) = (0 : Nat) ∧ N = N) ∧ (↑N : Int) = (↑N : Int) ∧ (↑(i + (1 : Nat)) : Int) = IntKind.i64.wrap ((↑i : Int) + (1 : Int))) ∧ ((↑(0 : Nat) : Int) = (0 : Int) ∧ (0 : Int) = (0 : Int) ∧ (↑(0 : Nat) : Int) = (0 : Int) ∧ (↑(0 : Nat) : Int) = (0 : Int) ∧ True ∧ false = false) ∧ ((T ++ [mk5 (2 : Nat) c.toNat (0 : Nat) [] false]).length = T.length + (1 : Nat) ∧ (∀ (i : Nat), i < (T ++ [mk5 (2 : Nat) c.toNat (0 : Nat) [] false]).length → kK (T ++ [mk5 (2 : Nat) c.toNat (0 : Nat) [] false]) [i] = appF T.length (0 : Nat) (kK T) (fun js => (2 : Int)) [i]) ∧ (∀ (i_1 : Nat), i_1 < (T ++ [mk5 (2 : Nat) c.toNat (0 : Nat) [] false]).length → kC (T ++ [mk5 (2 : Nat) c.toNat (0 : Nat) [] false]) [i_1] = appF T.length (0 : Nat) (kC T) (fun js => IntKind.i64.wrap (B [(0 : Nat) + (↑i : Int).toNat])) [i_1]) ∧ (∀ (i : Nat), i < (T ++ [mk5 (2 : Nat) c.toNat (0 : Nat) [] false]).length → kO (T ++ [mk5 (2 : Nat) c.toNat (0 : Nat) [] false]) [i] = appF T.length (0 : Nat) (kO T) (fun js => (0 : Int)) [i]) ∧ ((∀ (i : Nat), i < (T ++ [mk5 (2 : Nat) c.toNat (0 : Nat) [] false]).length → kM (T ++ [mk5 (2 : Nat) c.toNat (0 : Nat) [] false]) [i] = appF T.length (0 : Nat) (fun is => kM T is + (1 : Nat)) (fun js => (0 : Nat)) [i]) ∧ ∀ (i : Nat), i < (T ++ [mk5 (2 : Nat) c.toNat (0 : Nat) [] false]).length → kL (T ++ [mk5 (2 : Nat) c.toNat (0 : Nat) [] false]) [i] = appF T.length (0 : Nat) (kL T) (fun js => (0 : Nat)) [i]) ∧ ∀ (i : Nat), i < (T ++ [mk5 (2 : Nat) c.toNat (0 : Nat) [] false]).length → kU (T ++ [mk5 (2 : Nat) c.toNat (0 : Nat) [] false]) [i] = appF T.length (0 : Nat) (kU T) (fun js => false) [i]) ∧ (T ++ [mk5 (2 : Nat) c.toNat (0 : Nat) [] false]).length = T.length + (1 : Nat) ∧ ∀ (m : Nat), m < (T ++ [mk5 (2 : Nat) c.toNat (0 : Nat) [] false]).length → gL (T ++ [mk5 (2 : Nat) c.toNat (0 : Nat) [] false]) m = consN (0 : Nat) (gL T) m ∧ ∀ (i : Nat), i < gL (T ++ [mk5 (2 : Nat) c.toNat (0 : Nat) [] false]) m → gB (T ++ [mk5 (2 : Nat) c.toNat (0 : Nat) [] false]) [m, i] = consF (gB T) (gB T) [m, i]) := by kernel_rfl

set_option maxHeartbeats 4000000 in
theorem icP (N M : Nat) (B : Ix → Int) (T : List Tk) (cd op : Nat) (body : List UInt8) (cu : Bool) (i : Nat) (c : UInt8) (hi : i < N) (hN : N ≤ 400000) (hT : T.length ≤ 400000) (hl : body.length ≤ 256) (hb : B [i] = (c.toNat : Int)) (hc : c.toNat < 256) (hcd : cd < 256) (hop : op < 256) (hM : N ≤ M) (h : c.toNat < 250)  (v : SV) (L' : HF) (next : RunsTo Tryd.prog 33 (headOf Tryd.f33 0) (envAt Tryd.f33.ntmps ([(4, vP 101), (5, vL 102 5 ((T ++ [mk5 2 c.toNat 0 [] false])).length), (12, vL 60 1 N), (13, vN N), (14, vN (i + 1 : Nat))])) (Sx.look (rB 60 M B ++ (cxN 101 0 0 0 ++ toK 102 103 (T ++ [mk5 2 c.toNat 0 [] false])))) 80 (v) (L') 300) :
    RunsTo Tryd.prog 33 (headOf Tryd.f33 0) (envAt Tryd.f33.ntmps ([(4, vP 101), (5, vL 102 5 (T).length), (12, vL 60 1 N), (13, vN N), (14, vN (i : Nat))])) (Sx.look (rB 60 M B ++ (cxN 101 1 cd op ++ toK 102 103 T))) 80 (v) (L') 300 := by
  have hw : IntKind.i64.wrap ((i : Int) + 1) = ((i + 1 : Nat) : Int) := by rw [wr64 (by omega)]; rfl
  have hb8 : IntKind.i64.wrap (c.toNat : Int) = (c.toNat : Int) := wr64 (by omega)
  have hu8 : IntKind.u8.wrap (c.toNat : Int) = (c.toNat : Int) := u8id (by omega)
  refine runs_more baseO (More.of (icP_p0 N M B T cd op body cu i c) ⟨?oo, rfl, ?rr⟩) (by kernel_rfl) (by kernel_rfl) rfl (gtL (by decide)) (by decide) next
  case oo =>
    clear next
    refine (okc ?_ (okc ?_ (okc ?_ (okc ?_ (okc ?_ (okc ?_ (okc ?_ (okc ?_ (okc ?_ okn)))))))))
    all_goals ((try simp (disch := omega) only [SS, hw, hb, hb8, hu8]); first | done | omega | assumption | (simp (disch := omega) only [SS, hw, hb, hb8, hu8] at *; first | done | omega | assumption) | (simp_all; done))
  case rr =>
    clear next
    simp (disch := omega) only [SS, hw, hb, hb8, hu8, Go.Sx.sum, List.length_append, List.length_cons, List.length_nil, Nat.zero_add]
    repeat' apply And.intro
    all_goals first | exact True.intro | with_reducible rfl | omega | exact kK_app T _ _ rfl | exact kC_app T _ _ rfl | exact kO_app T _ _ rfl | exact kL_app T _ _ rfl | exact kU_app T _ _ rfl | exact kM_app T _ _ _ (fun k hk => rfl) rfl | exact gL_cons T _ _ rfl | (intro m hm; exact ⟨gL_cons T _ _ rfl m hm, fun j hj => gB_cons T _ _ m hm j (fun j hj => by first | exact absurd hj (Nat.not_lt_zero _) | rfl | (simp [mk5]; done) | (simp [mk5, appF, subIx]; done)) hj⟩) | (intro k hk; exact app_byte1 ([] : List UInt8) _ _ (by first | exact hb | (simpa [subIx] using hb) | (simp only [subIx, List.tail]; simp_all)) k hk) | (intro k hk; exact kC_app T _ _ (by first | rfl | (simp [mk5]; done) | (simp [mk5]; omega)) k hk) | (simp [subIx, hb]; done) | (simp_all [subIx]; done) | (intros; simp_all; done) | (simp_all; done)

theorem icV_p0 (N M : Nat) (B : Ix → Int) (T : List Tk) (cd op : Nat) (body : List UInt8) (cu : Bool) (i : Nat) (c : UInt8) :
    isMore (evTill Tryd.prog [] 500 (behind Tryd.f33 0) 900 33 (headOf Tryd.f33 0) (envAt Tryd.f33.ntmps ([(4, vP 101), (5, vL 102 5 (T).length), (12, vL 60 1 N), (13, vN N), (14, vN (i : Nat))])) (rB 60 M B ++ (cxN 101 2 cd op ++ toK 102 103 T)) ⟨[.s true, .s true, .s true, .s true, .f, .t, .t, .t, .t, .s true, .s true], 130⟩) (moreP (headOf Tryd.f33 0) ([((102 : Nat), Rn.to (135 : Nat)), ((103 : Nat), Rn.to (134 : Nat))]) Tryd.f33.ntmps ([(4, vP 101), (5, vL 102 5 ((T ++ [mk5 3 cd c.toNat [] false])).length), (12, vL 60 1 N), (13, vN N), (14, vN (i + 1 : Nat))]) (cxN 101 0 0 0 ++ toK 102 103 (T ++ [mk5 3 cd c.toNat [] false])) 300) =
    (OkL [(decide ((↑i : Int) < (↑N : Int)), true), (decide ((0 : Int) ≤ (↑i : Int) ∧ (↑i : Int) < (↑N : Int)), true), (((0 : Nat) + (↑i : Int).toNat).blt M, true), (((0 : Nat) + (↑i : Int).toNat).blt M, true), (((0 : Nat) + T.length).ble T.length, true), (decide (((2 : Nat) * (T.length + (1 : Nat)) + (192 : Nat)) * (56 : Nat) ≤ (281474976710656 : Nat)), true)] ∧ headOf Tryd.f33 (0 : Nat) = headOf Tryd.f33 (0 : Nat) ∧ ((0 : Nat) = (0 : Nat) ∧ ((0 : Nat) = (0 : Nat) ∧ (T ++ [mk5 (3 : Nat) cd c.toNat [] false]).length = T.length + (1 : Nat)) ∧ ((0 : Nat) = (0 : Nat) ∧ N = N) ∧ (↑N : Int) = (↑N : Int) ∧ (↑(i + (1 : Nat)) : Int) = IntKind.i64.wrap ((↑i : Int) + (1 : Int))) ∧ ((↑(0 : Nat) : Int) = (0 : Int) ∧ (0 : Int) = (0 : Int) ∧ (↑(0 : Nat) : Int) = (0 : Int) ∧ (↑(0 : Nat) : Int) = (0 : Int) ∧ True ∧ false = false) ∧ ((T ++ [mk5 (3 : Nat) cd c.toNat [] false]).length = T.length + (1 : Nat) ∧ (∀ (i : Nat), i < (T ++ [mk5 (3 : Nat) cd c.toNat [] false]).length → kK (T ++ [mk5 (3 : Nat) cd c.toNat [] false]) [i] = appF T.length (0 : Nat) (kK T) (fun js => (3 : Int)) [i]) ∧ (∀ (i : Nat), i < (T ++ [mk5 (3 : Nat) cd c.toNat [] false]).length → kC (T ++ [mk5 (3 : Nat) cd c.toNat [] false]) [i] = appF T.length (0 : Nat) (kC T) (fun js => (↑cd : Int)) [i]) ∧ (∀ (i_1 : Nat), i_1 < (T ++ [mk5 (3 : Nat) cd c.toNat [] false]).length → kO (T ++ [mk5 (3 : Nat) cd c.toNat [] false]) [i_1] = appF T.length (0 : Nat) (kO T) (fun js => IntKind.i64.wrap (B [(0 : Nat) + (↑i : Int).toNat])) [i_1]) ∧ ((∀ (i : Nat), i < (T ++ [mk5 (3 : Nat) cd c.toNat [] false]).length → kM (T ++ [mk5 (3 : Nat) cd c.toNat [] false]) [i] = appF T.length (0 : Nat) (fun is => kM T is + (1 : Nat)) (fun js => (0 : Nat)) [i]) ∧ ∀ (i : Nat), i < (T ++ [mk5 (3 : Nat) cd c.toNat [] false]).length → kL (T ++ [mk5 (3 : Nat) cd c.toNat [] false]) [i] = appF T.length (0 : Nat) (kL T) (fun js => (0 : Nat)) [i]) ∧ ∀ (i : Nat), i < (T ++ [mk5 (3 : Nat) cd c.toNat [] false]).length → kU (T ++ [mk5 (3 : Nat) cd c.toNat [] false]) [i] = appF T.length (0 : Nat) (kU T) (fun js => false) [i]) ∧ (T ++ [mk5 (3 : Nat) cd c.toNat [] false]).length = T.length + (1 : Nat) ∧ ∀ (m : Nat), m < (T ++ [mk5 (3 : Nat) cd c.toNat [] false]).length → gL (T ++ [mk5 (3 : Nat) cd c.toNat [] false]) m = consN (0 : Nat) (gL T) m ∧ ∀ (i : Nat), i < gL (T ++ [mk5 (3 : Nat) cd c.toNat [] false]) m → gB (T ++ [mk5 (3 : Nat) cd c.toNat [] false]) [m, i] = consF (gB T) (gB T) [m, i]) := by kernel_rfl

set_option maxHeartbeats 4000000 in
theorem icV (N M : Nat) (B : Ix → Int) (T : List Tk) (cd op : Nat) (body : List UInt8) (cu : Bool) (i : Nat) (c : UInt8) (hi : i < N) (hN : N ≤ 400000) (hT : T.length ≤ 400000) (hl : body.length ≤ 256) (hb : B [i] = (c.toNat : Int)) (hc : c.toNat < 256) (hcd : cd < 256) (hop : op < 256) (hM : N ≤ M)  (v : SV) (L' : HF) (next : RunsTo Tryd.prog 33 (headOf Tryd.f33 0) (envAt Tryd.f33.ntmps ([(4, vP 101), (5, vL 102 5 ((T ++ [mk5 3 cd c.toNat [] false])).length), (12, vL 60 1 N), (13, vN N), (14, vN (i + 1 : Nat))])) (Sx.look (rB 60 M B ++ (cxN 101 0 0 0 ++ toK 102 103 (T ++ [mk5 3 cd c.toNat [] false])))) 80 (v) (L') 300) :
    RunsTo Tryd.prog 33 (headOf Tryd.f33 0) (envAt Tryd.f33.ntmps ([(4, vP 101), (5, vL 102 5 (T).length), (12, vL 60 1 N), (13, vN N), (14, vN (i : Nat))])) (Sx.look (rB 60 M B ++ (cxN 101 2 cd op ++ toK 102 103 T))) 80 (v) (L') 300 := by
  have hw : IntKind.i64.wrap ((i : Int) + 1) = ((i + 1 : Nat) : Int) := by rw [wr64 (by omega)]; rfl
  have hb8 : IntKind.i64.wrap (c.toNat : Int) = (c.toNat : Int) := wr64 (by omega)
  have hu8 : IntKind.u8.wrap (c.toNat : Int) = (c.toNat : Int) := u8id (by omega)
  refine runs_more baseO (More.of (icV_p0 N M B T cd op body cu i c) ⟨?oo, rfl, ?rr⟩) (by kernel_rfl) (by kernel_rfl) rfl (gtL (by decide)) (by decide) next
  case oo =>
    clear next
    refine (okc ?_ (okc ?_ (okc ?_ (okc ?_ (okc ?_ (okc ?_ okn))))))
    all_goals ((try simp (disch := omega) only [SS, hw, hb, hb8, hu8]); first | done | omega | assumption | (simp (disch := omega) only [SS, hw, hb, hb8, hu8] at *; first | done | omega | assumption) | (simp_all; done))
  case rr =>
    clear next
    simp (disch := omega) only [SS, hw, hb, hb8, hu8, Go.Sx.sum, List.length_append, List.length_cons, List.length_nil, Nat.zero_add]
    repeat' apply And.intro
    all_goals first | exact True.intro | with_reducible rfl | omega | exact kK_app T _ _ rfl | exact kC_app T _ _ rfl | exact kO_app T _ _ rfl | exact kL_app T _ _ rfl | exact kU_app T _ _ rfl | exact kM_app T _ _ _ (fun k hk => rfl) rfl | exact gL_cons T _ _ rfl | (intro m hm; exact ⟨gL_cons T _ _ rfl m hm, fun j hj => gB_cons T _ _ m hm j (fun j hj => by first | exact absurd hj (Nat.not_lt_zero _) | rfl | (simp [mk5]; done) | (simp [mk5, appF, subIx]; done)) hj⟩) | (intro k hk; exact app_byte1 ([] : List UInt8) _ _ (by first | exact hb | (simpa [subIx] using hb) | (simp only [subIx, List.tail]; simp_all)) k hk) | (intro k hk; exact kC_app T _ _ (by first | rfl | (simp [mk5]; done) | (simp [mk5]; omega)) k hk) | (simp [subIx, hb]; done) | (simp_all [subIx]; done) | (intros; simp_all; done) | (simp_all; done)

theorem icSN_p0 (N M : Nat) (B : Ix → Int) (T : List Tk) (cd op : Nat) (body : List UInt8) (cu : Bool) (i : Nat) (c : UInt8) :
    isMore (evTill Tryd.prog [] 500 (behind Tryd.f33 0) 900 33 (headOf Tryd.f33 0) (envAt Tryd.f33.ntmps ([(4, vP 101), (5, vL 102 5 (T).length), (12, vL 60 1 N), (13, vN N), (14, vN (i : Nat))])) (rB 60 M B ++ (cxN 101 5 cd op ++ toK 102 103 T)) ⟨[.s true, .s true, .s true, .s true, .f, .f, .f, .f, .t, .s false, .s true, .t, .t, .t, .s true, .s true], 130⟩) (moreP (headOf Tryd.f33 0) ([((102 : Nat), Rn.to (135 : Nat)), ((103 : Nat), Rn.to (134 : Nat))]) Tryd.f33.ntmps ([(4, vP 101), (5, vL 102 5 ((T ++ [mk5 4 cd op [] false])).length), (12, vL 60 1 N), (13, vN N), (14, vN (i + 1 : Nat))]) (cxN 101 0 0 0 ++ toK 102 103 (T ++ [mk5 4 cd op [] false])) 300) =
    (OkL [(decide ((↑i : Int) < (↑N : Int)), true), (decide ((0 : Int) ≤ (↑i : Int) ∧ (↑i : Int) < (↑N : Int)), true), (((0 : Nat) + (↑i : Int).toNat).blt M, true), (((0 : Nat) + (↑i : Int).toNat).blt M, true), (B [(0 : Nat) + (↑i : Int).toNat] == (255 : Int), false), (B [(0 : Nat) + (↑i : Int).toNat] == (240 : Int), true), (((0 : Nat) + T.length).ble T.length, true), (decide (((2 : Nat) * (T.length + (1 : Nat)) + (192 : Nat)) * (56 : Nat) ≤ (281474976710656 : Nat)), true)] ∧ headOf Tryd.f33 (0 : Nat) = headOf Tryd.f33 (0 : Nat) ∧ ((0 : Nat) = (0 : Nat) ∧ ((0 : Nat) = (0 : Nat) ∧ (T ++ [mk5 (4 : Nat) cd op [] false]).length = T.length + (1 : Nat)) ∧ ((0 : Nat) = (0 : Nat) ∧ N = N) ∧ (↑N : Int) = (↑N : Int) ∧ (↑(i + (1 : Nat)) : Int) = IntKind.i64.wrap ((↑i : Int) + (1 : Int))) ∧ ((↑(0 : Nat) : Int) = (0 : Int) ∧ (0 : Int) = (0 : Int) ∧ (↑(0 : Nat) : Int) = (0 : Int) ∧ (↑(0 : Nat) : Int) = (0 : Int) ∧ True ∧ false = false) ∧ ((T ++ [mk5 (4 : Nat) cd op [] false]).length = T.length + (1 : Nat) ∧ (∀ (i : Nat), i < (T ++ [mk5 (4 : Nat) cd op [] false]).length → kK (T ++ [mk5 (4 : Nat) cd op [] false]) [i] = appF T.length (0 : Nat) (kK T) (fun js => (4 : Int)) [i]) ∧ (∀ (i : Nat), i < (T ++ [mk5 (4 : Nat) cd op [] false]).length → kC (T ++ [mk5 (4 : Nat) cd op [] false]) [i] = appF T.length (0 : Nat) (kC T) (fun js => (↑cd : Int)) [i]) ∧ (∀ (i : Nat), i < (T ++ [mk5 (4 : Nat) cd op [] false]).length → kO (T ++ [mk5 (4 : Nat) cd op [] false]) [i] = appF T.length (0 : Nat) (kO T) (fun js => (↑op : Int)) [i]) ∧ ((∀ (i : Nat), i < (T ++ [mk5 (4 : Nat) cd op [] false]).length → kM (T ++ [mk5 (4 : Nat) cd op [] false]) [i] = appF T.length (0 : Nat) (fun is => kM T is + (1 : Nat)) (fun js => (0 : Nat)) [i]) ∧ ∀ (i : Nat), i < (T ++ [mk5 (4 : Nat) cd op [] false]).length → kL (T ++ [mk5 (4 : Nat) cd op [] false]) [i] = appF T.length (0 : Nat) (kL T) (fun js => (0 : Nat)) [i]) ∧ ∀ (i : Nat), i < (T ++ [mk5 (4 : Nat) cd op [] false]).length → kU (T ++ [mk5 (4 : Nat) cd op [] false]) [i] = appF T.length (0 : Nat) (kU T) (fun js => false) [i]) ∧ (T ++ [mk5 (4 : Nat) cd op [] false]).length = T.length + (1 : Nat) ∧ ∀ (m : Nat), m < (T ++ [mk5 (4 : Nat) cd op [] false]).length → gL (T ++ [mk5 (4 : Nat) cd op [] false]) m = consN (0 : Nat) (gL T) m ∧ ∀ (i : Nat), i < gL (T ++ [mk5 (4 : Nat) cd op [] false]) m → gB (T ++ [mk5 (4 : Nat) cd op [] false]) [m, i] = consF (gB T) (gB T) [m, i]) := by kernel_rfl

set_option maxHeartbeats 4000000 in
theorem icSN (N M : Nat) (B : Ix → Int) (T : List Tk) (cd op : Nat) (body : List UInt8) (cu : Bool) (i : Nat) (c : UInt8) (hi : i < N) (hN : N ≤ 400000) (hT : T.length ≤ 400000) (hl : body.length ≤ 256) (hb : B [i] = (c.toNat : Int)) (hc : c.toNat < 256) (hcd : cd < 256) (hop : op < 256) (hM : N ≤ M) (h : c.toNat = 240)  (v : SV) (L' : HF) (next : RunsTo Tryd.prog 33 (headOf Tryd.f33 0) (envAt Tryd.f33.ntmps ([(4, vP 101), (5, vL 102 5 ((T ++ [mk5 4 cd op [] false])).length), (12, vL 60 1 N), (13, vN N), (14, vN (i + 1 : Nat))])) (Sx.look (rB 60 M B ++ (cxN 101 0 0 0 ++ toK 102 103 (T ++ [mk5 4 cd op [] false])))) 80 (v) (L') 300) :
    RunsTo Tryd.prog 33 (headOf Tryd.f33 0) (envAt Tryd.f33.ntmps ([(4, vP 101), (5, vL 102 5 (T).length), (12, vL 60 1 N), (13, vN N), (14, vN (i : Nat))])) (Sx.look (rB 60 M B ++ (cxN 101 5 cd op ++ toK 102 103 T))) 80 (v) (L') 300 := by
  have hw : IntKind.i64.wrap ((i : Int) + 1) = ((i + 1 : Nat) : Int) := by rw [wr64 (by omega)]; rfl
  have hb8 : IntKind.i64.wrap (c.toNat : Int) = (c.toNat : Int) := wr64 (by omega)
  have hu8 : IntKind.u8.wrap (c.toNat : Int) = (c.toNat : Int) := u8id (by omega)
  refine runs_more baseO (More.of (icSN_p0 N M B T cd op body cu i c) ⟨?oo, rfl, ?rr⟩) (by kernel_rfl) (by kernel_rfl) rfl (gtL (by decide)) (by decide) next
  case oo =>
    clear next
    refine (okc ?_ (okc ?_ (okc ?_ (okc ?_ (okc ?_ (okc ?_ (okc ?_ (okc ?_ okn))))))))
    all_goals ((try simp (disch := omega) only [SS, hw, hb, hb8, hu8]); first | done | omega | assumption | (simp (disch := omega) only [SS, hw, hb, hb8, hu8] at *; first | done | omega | assumption) | (simp_all; done))
  case rr =>
    clear next
    simp (disch := omega) only [SS, hw, hb, hb8, hu8, Go.Sx.sum, List.length_append, List.length_cons, List.length_nil, Nat.zero_add]
    repeat' apply And.intro
    all_goals first | exact True.intro | with_reducible rfl | omega | exact kK_app T _ _ rfl | exact kC_app T _ _ rfl | exact kO_app T _ _ rfl | exact kL_app T _ _ rfl | exact kU_app T _ _ rfl | exact kM_app T _ _ _ (fun k hk => rfl) rfl | exact gL_cons T _ _ rfl | (intro m hm; exact ⟨gL_cons T _ _ rfl m hm, fun j hj => gB_cons T _ _ m hm j (fun j hj => by first | exact absurd hj (Nat.not_lt_zero _) | rfl | (simp [mk5]; done) | (simp [mk5, appF, subIx]; done)) hj⟩) | (intro k hk; exact app_byte1 ([] : List UInt8) _ _ (by first | exact hb | (simpa [subIx] using hb) | (simp only [subIx, List.tail]; simp_all)) k hk) | (intro k hk; exact kC_app T _ _ (by first | rfl | (simp [mk5]; done) | (simp [mk5]; omega)) k hk) | (simp [subIx, hb]; done) | (simp_all [subIx]; done) | (intros; simp_all; done) | (simp_all; done)

theorem icBN_p0 (N M : Nat) (B : Ix → Int) (T : List Tk) (cd op : Nat) (body : List UInt8) (cu : Bool) (i : Nat) (c : UInt8) :
    isMore (evTill Tryd.prog [] 500 (behind Tryd.f33 0) 900 33 (headOf Tryd.f33 0) (envAt Tryd.f33.ntmps ([(4, vP 101), (5, vL 102 5 (T).length), (12, vL 60 1 N), (13, vN N), (14, vN (i : Nat))])) (rB 60 M B ++ (cxN 101 5 cd op ++ toK 102 103 T)) ⟨[.s true, .s true, .s true, .s true, .f, .f, .f, .f, .t, .s false, .s false, .t, .t, .t, .s true, .s true], 130⟩) (moreP (headOf Tryd.f33 0) ([((102 : Nat), Rn.to (135 : Nat)), ((103 : Nat), Rn.to (134 : Nat))]) Tryd.f33.ntmps ([(4, vP 101), (5, vL 102 5 ((T ++ [mk5 5 c.toNat op [] false])).length), (12, vL 60 1 N), (13, vN N), (14, vN (i + 1 : Nat))]) (cxN 101 0 0 0 ++ toK 102 103 (T ++ [mk5 5 c.toNat op [] false])) 300) =
    (OkL [(decide ((↑i : Int) < (↑N : Int)), true), (decide ((0 : Int) ≤ (↑i : Int) ∧ (↑i : Int) < (↑N : Int)), true), (((0 : Nat) + (↑i : Int).toNat).blt M, true), (((0 : Nat) + (↑i : Int).toNat).blt M, true), (B [(0 : Nat) + (↑i : Int).toNat] == (255 : Int), false), (B [(0 : Nat) + (↑i : Int).toNat] == (240 : Int), false), (((0 : Nat) + T.length).ble T.length, true), (decide (((2 : Nat) * (T.length + (1 : Nat)) + (192 : Nat)) * (56 : Nat) ≤ (281474976710656 : Nat)), true)] ∧ headOf Tryd.f33 (0 : Nat) = headOf Tryd.f33 (0 : Nat) ∧ ((0 : Nat) = (0 : Nat) ∧ ((0 : Nat) = (0 : Nat) ∧ (T ++ [mk5 (5 : Nat) c.toNat op [] false]).length = T.length + (1 : Nat)) ∧ ((0 : Nat) = (0 : Nat) ∧ N = N) ∧ (↑N : Int) = (↑N : Int) ∧ (↑(i + (1 : Nat)) : Int) = IntKind.i64.wrap ((↑i : Int) + (1 : Int))) ∧ ((↑(0 : Nat) : Int) = (0 : Int) ∧ (0 : Int) = (0 : Int) ∧ (↑(0 : Nat) : Int) = (0 : Int) ∧ (↑(0 : Nat) : Int) = (0 : Int) ∧ True ∧ false = false) ∧ ((T ++ [mk5 (5 : Nat) c.toNat op [] false]).length = T.length + (1 : Nat) ∧ (∀ (i : Nat), i < (T ++ [mk5 (5 : Nat) c.toNat op [] false]).length → kK (T ++ [mk5 (5 : Nat) c.toNat op [] false]) [i] = appF T.length (0 : Nat) (kK T) (fun js => (5 : Int)) [i]) ∧ (∀ (i_1 : Nat), i_1 < (T ++ [mk5 (5 : Nat) c.toNat op [] false]).length → kC (T ++ [mk5 (5 : Nat) c.toNat op [] false]) [i_1] = appF T.length (0 : Nat) (kC T) (fun js => IntKind.i64.wrap (B [(0 : Nat) + (↑i : Int).toNat])) [i_1]) ∧ (∀ (i : Nat), i < (T ++ [mk5 (5 : Nat) c.toNat op [] false]).length → kO (T ++ [mk5 (5 : Nat) c.toNat op [] false]) [i] = appF T.length (0 : Nat) (kO T) (fun js => (↑op : Int)) [i]) ∧ ((∀ (i : Nat), i < (T ++ [mk5 (5 : Nat) c.toNat op [] false]).length → kM (T ++ [mk5 (5 : Nat) c.toNat op [] false]) [i] = appF T.length (0 : Nat) (fun is => kM T is + (1 : Nat)) (fun js => (0 : Nat)) [i]) ∧ ∀ (i : Nat), i < (T ++ [mk5 (5 : Nat) c.toNat op [] false]).length → kL (T ++ [mk5 (5 : Nat) c.toNat op [] false]) [i] = appF T.length (0 : Nat) (kL T) (fun js => (0 : Nat)) [i]) ∧ ∀ (i : Nat), i < (T ++ [mk5 (5 : Nat) c.toNat op [] false]).length → kU (T ++ [mk5 (5 : Nat) c.toNat op [] false]) [i] = appF T.length (0 : Nat) (kU T) (fun js => false) [i]) ∧ (T ++ [mk5 (5 : Nat) c.toNat op [] false]).length = T.length + (1 : Nat) ∧ ∀ (m : Nat), m < (T ++ [mk5 (5 : Nat) c.toNat op [] false]).length → gL (T ++ [mk5 (5 : Nat) c.toNat op [] false]) m = consN (0 : Nat) (gL T) m ∧ ∀ (i : Nat), i < gL (T ++ [mk5 (5 : Nat) c.toNat op [] false]) m → gB (T ++ [mk5 (5 : Nat) c.toNat op [] false]) [m, i] = consF (gB T) (gB T) [m, i]) := by kernel_rfl

set_option maxHeartbeats 4000000 in
theorem icBN (N M : Nat) (B : Ix → Int) (T : List Tk) (cd op : Nat) (body : List UInt8) (cu : Bool) (i : Nat) (c : UInt8) (hi : i < N) (hN : N ≤ 400000) (hT : T.length ≤ 400000) (hl : body.length ≤ 256) (hb : B [i] = (c.toNat : Int)) (hc : c.toNat < 256) (hcd : cd < 256) (hop : op < 256) (hM : N ≤ M) (h : c.toNat ≠ 255) (h2 : c.toNat ≠ 240)  (v : SV) (L' : HF) (next : RunsTo Tryd.prog 33 (headOf Tryd.f33 0) (envAt Tryd.f33.ntmps ([(4, vP 101), (5, vL 102 5 ((T ++ [mk5 5 c.toNat op [] false])).length), (12, vL 60 1 N), (13, vN N), (14, vN (i + 1 : Nat))])) (Sx.look (rB 60 M B ++ (cxN 101 0 0 0 ++ toK 102 103 (T ++ [mk5 5 c.toNat op [] false])))) 80 (v) (L') 300) :
    RunsTo Tryd.prog 33 (headOf Tryd.f33 0) (envAt Tryd.f33.ntmps ([(4, vP 101), (5, vL 102 5 (T).length), (12, vL 60 1 N), (13, vN N), (14, vN (i : Nat))])) (Sx.look (rB 60 M B ++ (cxN 101 5 cd op ++ toK 102 103 T))) 80 (v) (L') 300 := by
  have hw : IntKind.i64.wrap ((i : Int) + 1) = ((i + 1 : Nat) : Int) := by rw [wr64 (by omega)]; rfl
  have hb8 : IntKind.i64.wrap (c.toNat : Int) = (c.toNat : Int) := wr64 (by omega)
  have hu8 : IntKind.u8.wrap (c.toNat : Int) = (c.toNat : Int) := u8id (by omega)
  refine runs_more baseO (More.of (icBN_p0 N M B T cd op body cu i c) ⟨?oo, rfl, ?rr⟩) (by kernel_rfl) (by kernel_rfl) rfl (gtL (by decide)) (by decide) next
  case oo =>
    clear next
    refine (okc ?_ (okc ?_ (okc ?_ (okc ?_ (okc ?_ (okc ?_ (okc ?_ (okc ?_ okn))))))))
    all_goals ((try simp (disch := omega) only [SS, hw, hb, hb8, hu8]); first | done | omega | assumption | (simp (disch := omega) only [SS, hw, hb, hb8, hu8] at *; first | done | omega | assumption) | (simp_all; done))
  case rr =>
    clear next
    simp (disch := omega) only [SS, hw, hb, hb8, hu8, Go.Sx.sum, List.length_append, List.length_cons, List.length_nil, Nat.zero_add]
    repeat' apply And.intro
    all_goals first | exact True.intro | with_reducible rfl | omega | exact kK_app T _ _ rfl | exact kC_app T _ _ rfl | exact kO_app T _ _ rfl | exact kL_app T _ _ rfl | exact kU_app T _ _ rfl | exact kM_app T _ _ _ (fun k hk => rfl) rfl | exact gL_cons T _ _ rfl | (intro m hm; exact ⟨gL_cons T _ _ rfl m hm, fun j hj => gB_cons T _ _ m hm j (fun j hj => by first | exact absurd hj (Nat.not_lt_zero _) | rfl | (simp [mk5]; done) | (simp [mk5, appF, subIx]; done)) hj⟩) | (intro k hk; exact app_byte1 ([] : List UInt8) _ _ (by first | exact hb | (simpa [subIx] using hb) | (simp only [subIx, List.tail]; simp_all)) k hk) | (intro k hk; exact kC_app T _ _ (by first | rfl | (simp [mk5]; done) | (simp [mk5]; omega)) k hk) | (simp [subIx, hb]; done) | (simp_all [subIx]; done) | (intros; simp_all; done) | (simp_all; done)

theorem id0_p0 (N M : Nat) (B : Ix → Int) (T : List Tk) (cd op : Nat) (body : List UInt8) (cu : Bool) (i : Nat) (c : UInt8) :
    isMore (evTill Tryd.prog [] 500 (behind Tryd.f33 0) 900 33 (headOf Tryd.f33 0) (envAt Tryd.f33.ntmps ([(4, vP 101), (5, vL 102 5 (T).length), (12, vL 60 1 N), (13, vN N), (14, vN (i : Nat))])) (rB 60 M B ++ (cxN 101 0 cd op ++ toK 102 103 T)) ⟨[.s true, .s true, .s true, .s true, .f, .f, .f, .f, .f, .s false, .t, .t, .t, .s true, .s true], 130⟩) (moreP (headOf Tryd.f33 0) ([((102 : Nat), Rn.to (135 : Nat)), ((103 : Nat), Rn.to (134 : Nat))]) Tryd.f33.ntmps ([(4, vP 101), (5, vL 102 5 ((T ++ [mk5 1 c.toNat 0 [] false])).length), (12, vL 60 1 N), (13, vN N), (14, vN (i + 1 : Nat))]) (cxN 101 0 0 0 ++ toK 102 103 (T ++ [mk5 1 c.toNat 0 [] false])) 300) =
    (OkL [(decide ((↑i : Int) < (↑N : Int)), true), (decide ((0 : Int) ≤ (↑i : Int) ∧ (↑i : Int) < (↑N : Int)), true), (((0 : Nat) + (↑i : Int).toNat).blt M, true), (((0 : Nat) + (↑i : Int).toNat).blt M, true), (B [(0 : Nat) + (↑i : Int).toNat] == (255 : Int), false), (((0 : Nat) + T.length).ble T.length, true), (decide (((2 : Nat) * (T.length + (1 : Nat)) + (192 : Nat)) * (56 : Nat) ≤ (281474976710656 : Nat)), true)] ∧ headOf Tryd.f33 (0 : Nat) = headOf Tryd.f33 (0 : Nat) ∧ ((0 : Nat) = (0 : Nat) ∧ ((0 : Nat) = (0 : Nat) ∧ (T ++ [mk5 (1 : Nat) c.toNat (0 : Nat) [] false]).length = T.length + (1 : Nat)) ∧ ((0 : Nat) = (0 : Nat) ∧ N = N) ∧ (↑N : Int) = (↑N : Int) ∧ (↑(i + (1 : Nat)) : Int) = IntKind.i64.wrap ((↑i : Int) + (1 : Int))) ∧ ((↑(0 : Nat) : Int) = (0 : Int) ∧ (0 : Int) = (0 : Int) ∧ (↑(0 : Nat) : Int) = (0 : Int) ∧ (↑(0 : Nat) : Int) = (0 : Int) ∧ True ∧ false = false) ∧ ((T ++ [mk5 (1 : Nat) c.toNat (0 : Nat) [] false]).length = T.length + (1 : Nat) ∧ (∀ (i : Nat), i < (T ++ [mk5 (1 : Nat) c.toNat (0 : Nat) [] false]).length → kK (T ++ [mk5 (1 : Nat) c.toNat (0 : Nat) [] false]) [i] = appF T.length (0 : Nat) (kK T) (fun js => (1 : Int)) [i]) ∧ (∀ (i_1 : Nat), i_1 < (T ++ [mk5 (1 : Nat) c.toNat (0 : Nat) [] false]).length → kC (T ++ [mk5 (1 : Nat) c.toNat (0 : Nat) [] false]) [i_1] = appF T.length (0 : Nat) (kC T) (fun js => IntKind.i64.wrap (B [(0 : Nat) + (↑i : Int).toNat])) [i_1]) ∧ (∀ (i : Nat), i < (T ++ [mk5 (1 : Nat) c.toNat (0 : Nat) [] false]).length → kO (T ++ [mk5 (1 : Nat) c.toNat (0 : Nat) [] false]) [i] = appF T.length (0 : Nat) (kO T) (fun js => (0 : Int)) [i]) ∧ ((∀ (i : Nat), i < (T ++ [mk5 (1 : Nat) c.toNat (0 : Nat) [] false]).length → kM (T ++ [mk5 (1 : Nat) c.toNat (0 : Nat) [] false]) [i] = appF T.length (0 : Nat) (fun is => kM T is + (1 : Nat)) (fun js => (0 : Nat)) [i]) ∧ ∀ (i : Nat), i < (T ++ [mk5 (1 : Nat) c.toNat (0 : Nat) [] false]).length → kL (T ++ [mk5 (1 : Nat) c.toNat (0 : Nat) [] false]) [i] = appF T.length (0 : Nat) (kL T) (fun js => (0 : Nat)) [i]) ∧ ∀ (i : Nat), i < (T ++ [mk5 (1 : Nat) c.toNat (0 : Nat) [] false]).length → kU (T ++ [mk5 (1 : Nat) c.toNat (0 : Nat) [] false]) [i] = appF T.length (0 : Nat) (kU T) (fun js => false) [i]) ∧ (T ++ [mk5 (1 : Nat) c.toNat (0 : Nat) [] false]).length = T.length + (1 : Nat) ∧ ∀ (m : Nat), m < (T ++ [mk5 (1 : Nat) c.toNat (0 : Nat) [] false]).length → gL (T ++ [mk5 (1 : Nat) c.toNat (0 : Nat) [] false]) m = consN (0 : Nat) (gL T) m ∧ ∀ (i : Nat), i < gL (T ++ [mk5 (1 : Nat) c.toNat (0 : Nat) [] false]) m → gB (T ++ [mk5 (1 : Nat) c.toNat (0 : Nat) [] false]) [m, i] = consF (gB T) (gB T) [m, i]) := by kernel_rfl

set_option maxHeartbeats 4000000 in
theorem id0 (N M : Nat) (B : Ix → Int) (T : List Tk) (cd op : Nat) (body : List UInt8) (cu : Bool) (i : Nat) (c : UInt8) (hi : i < N) (hN : N ≤ 400000) (hT : T.length ≤ 400000) (hl : body.length ≤ 256) (hb : B [i] = (c.toNat : Int)) (hc : c.toNat < 256) (hcd : cd < 256) (hop : op < 256) (hM : N ≤ M) (h : c.toNat ≠ 255)  (v : SV) (L' : HF) (next : RunsTo Tryd.prog 33 (headOf Tryd.f33 0) (envAt Tryd.f33.ntmps ([(4, vP 101), (5, vL 102 5 ((T ++ [mk5 1 c.toNat 0 [] false])).length), (12, vL 60 1 N), (13, vN N), (14, vN (i + 1 : Nat))])) (Sx.look (rB 60 M B ++ (cxN 101 0 0 0 ++ toK 102 103 (T ++ [mk5 1 c.toNat 0 [] false])))) 80 (v) (L') 300) :
    RunsTo Tryd.prog 33 (headOf Tryd.f33 0) (envAt Tryd.f33.ntmps ([(4, vP 101), (5, vL 102 5 (T).length), (12, vL 60 1 N), (13, vN N), (14, vN (i : Nat))])) (Sx.look (rB 60 M B ++ (cxN 101 0 cd op ++ toK 102 103 T))) 80 (v) (L') 300 := by
  have hw : IntKind.i64.wrap ((i : Int) + 1) = ((i + 1 : Nat) : Int) := by rw [wr64 (by omega)]; rfl
  have hb8 : IntKind.i64.wrap (c.toNat : Int) = (c.toNat : Int) := wr64 (by omega)
  have hu8 : IntKind.u8.wrap (c.toNat : Int) = (c.toNat : Int) := u8id (by omega)
  refine runs_more baseO (More.of (id0_p0 N M B T cd op body cu i c) ⟨?oo, rfl, ?rr⟩) (by kernel_rfl) (by kernel_rfl) rfl (gtL (by decide)) (by decide) next
  case oo =>
    clear next
    refine (okc ?_ (okc ?_ (okc ?_ (okc ?_ (okc ?_ (okc ?_ (okc ?_ okn)))))))
    all_goals ((try simp (disch := omega) only [SS, hw, hb, hb8, hu8]); first | done | omega | assumption | (simp (disch := omega) only [SS, hw, hb, hb8, hu8] at *; first | done | omega | assumption) | (simp_all; done))
  case rr =>
    clear next
    simp (disch := omega) only [SS, hw, hb, hb8, hu8, Go.Sx.sum, List.length_append, List.length_cons, List.length_nil, Nat.zero_add]
    repeat' apply And.intro
    all_goals first | exact True.intro | with_reducible rfl | omega | exact kK_app T _ _ rfl | exact kC_app T _ _ rfl | exact kO_app T _ _ rfl | exact kL_app T _ _ rfl | exact kU_app T _ _ rfl | exact kM_app T _ _ _ (fun k hk => rfl) rfl | exact gL_cons T _ _ rfl | (intro m hm; exact ⟨gL_cons T _ _ rfl m hm, fun j hj => gB_cons T _ _ m hm j (fun j hj => by first | exact absurd hj (Nat.not_lt_zero _) | rfl | (simp [mk5]; done) | (simp [mk5, appF, subIx]; done)) hj⟩) | (intro k hk; exact app_byte1 ([] : List UInt8) _ _ (by first | exact hb | (simpa [subIx] using hb) | (simp only [subIx, List.tail]; simp_all)) k hk) | (intro k hk; exact kC_app T _ _ (by first | rfl | (simp [mk5]; done) | (simp [mk5]; omega)) k hk) | (simp [subIx, hb]; done) | (simp_all [subIx]; done) | (intros; simp_all; done) | (simp_all; done)

theorem id1_p0 (N M : Nat) (B : Ix → Int) (T : List Tk) (cd op : Nat) (body : List UInt8) (cu : Bool) (i : Nat) (c : UInt8) :
    isMore (evTill Tryd.prog [] 500 (behind Tryd.f33 0) 900 33 (headOf Tryd.f33 0) (envAt Tryd.f33.ntmps ([(4, vP 101), (5, vL 102 5 (T).length), (12, vL 60 1 N), (13, vN N), (14, vN (i : Nat))])) (rB 60 M B ++ (cxN 101 1 cd op ++ toK 102 103 T)) ⟨[.s true, .s true, .s true, .s true, .t, .s true, .t, .t, .t, .s true, .s true], 130⟩) (moreP (headOf Tryd.f33 0) ([((102 : Nat), Rn.to (135 : Nat)), ((103 : Nat), Rn.to (134 : Nat))]) Tryd.f33.ntmps ([(4, vP 101), (5, vL 102 5 ((T ++ [mk5 1 255 0 [] false])).length), (12, vL 60 1 N), (13, vN N), (14, vN (i + 1 : Nat))]) (cxN 101 0 0 0 ++ toK 102 103 (T ++ [mk5 1 255 0 [] false])) 300) =
    (OkL [(decide ((↑i : Int) < (↑N : Int)), true), (decide ((0 : Int) ≤ (↑i : Int) ∧ (↑i : Int) < (↑N : Int)), true), (((0 : Nat) + (↑i : Int).toNat).blt M, true), (((0 : Nat) + (↑i : Int).toNat).blt M, true), (B [(0 : Nat) + (↑i : Int).toNat] == (255 : Int), true), (((0 : Nat) + T.length).ble T.length, true), (decide (((2 : Nat) * (T.length + (1 : Nat)) + (192 : Nat)) * (56 : Nat) ≤ (281474976710656 : Nat)), true)] ∧ headOf Tryd.f33 (0 : Nat) = headOf Tryd.f33 (0 : Nat) ∧ ((0 : Nat) = (0 : Nat) ∧ ((0 : Nat) = (0 : Nat) ∧ (T ++ [mk5 (1 : Nat) (255 : Nat) (0 : Nat) [] false]).length = T.length + (1 : Nat)) ∧ ((0 : Nat) = (0 : Nat) ∧ N = N) ∧ (↑N : Int) = (↑N : Int) ∧ (↑(i + (1 : Nat)) : Int) = IntKind.i64.wrap ((↑i : Int) + (1 : Int))) ∧ ((↑(0 : Nat) : Int) = (0 : Int) ∧ (0 : Int) = (0 : Int) ∧ (↑(0 : Nat) : Int) = (0 : Int) ∧ (↑(0 : Nat) : Int) = (0 : Int) ∧ True ∧ false = false) ∧ ((T ++ [mk5 (1 : Nat) (255 : Nat) (0 : Nat) [] false]).length = T.length + (1 : Nat) ∧ (∀ (i : Nat), i < (T ++ [mk5 (1 : Nat) (255 : Nat) (0 : Nat) [] false]).length → kK (T ++ [mk5 (1 : Nat) (255 : Nat) (0 : Nat) [] false]) [i] = appF T.length (0 : Nat) (kK T) (fun js => (1 : Int)) [i]) ∧ (∀ (i : Nat), i < (T ++ [mk5 (1 : Nat) (255 : Nat) (0 : Nat) [] false]).length → kC (T ++ [mk5 (1 : Nat) (255 : Nat) (0 : Nat) [] false]) [i] = appF T.length (0 : Nat) (kC T) (fun js => (255 : Int)) [i]) ∧ (∀ (i : Nat), i < (T ++ [mk5 (1 : Nat) (255 : Nat) (0 : Nat) [] false]).length → kO (T ++ [mk5 (1 : Nat) (255 : Nat) (0 : Nat) [] false]) [i] = appF T.length (0 : Nat) (kO T) (fun js => (0 : Int)) [i]) ∧ ((∀ (i : Nat), i < (T ++ [mk5 (1 : Nat) (255 : Nat) (0 : Nat) [] false]).length → kM (T ++ [mk5 (1 : Nat) (255 : Nat) (0 : Nat) [] false]) [i] = appF T.length (0 : Nat) (fun is => kM T is + (1 : Nat)) (fun js => (0 : Nat)) [i]) ∧ ∀ (i : Nat), i < (T ++ [mk5 (1 : Nat) (255 : Nat) (0 : Nat) [] false]).length → kL (T ++ [mk5 (1 : Nat) (255 : Nat) (0 : Nat) [] false]) [i] = appF T.length (0 : Nat) (kL T) (fun js => (0 : Nat)) [i]) ∧ ∀ (i : Nat), i < (T ++ [mk5 (1 : Nat) (255 : Nat) (0 : Nat) [] false]).length → kU (T ++ [mk5 (1 : Nat) (255 : Nat) (0 : Nat) [] false]) [i] = appF T.length (0 : Nat) (kU T) (fun js => false) [i]) ∧ (T ++ [mk5 (1 : Nat) (255 : Nat) (0 : Nat) [] false]).length = T.length + (1 : Nat) ∧ ∀ (m : Nat), m < (T ++ [mk5 (1 : Nat) (255 : Nat) (0 : Nat) [] false]).length → gL (T ++ [mk5 (1 : Nat) (255 : Nat) (0 : Nat) [] false]) m = consN (0 : Nat) (gL T) m ∧ ∀ (i : Nat), i < gL (T ++ [mk5 (1 : Nat) (255 : Nat) (0 : Nat) [] false]) m → gB (T ++ [mk5 (1 : Nat) (255 : Nat) (0 : Nat) [] false]) [m, i] = consF (gB T) (gB T) [m, i]) := by kernel_rfl

set_option maxHeartbeats 4000000 in
theorem id1 (N M : Nat) (B : Ix → Int) (T : List Tk) (cd op : Nat) (body : List UInt8) (cu : Bool) (i : Nat) (c : UInt8) (hi : i < N) (hN : N ≤ 400000) (hT : T.length ≤ 400000) (hl : body.length ≤ 256) (hb : B [i] = (c.toNat : Int)) (hc : c.toNat < 256) (hcd : cd < 256) (hop : op < 256) (hM : N ≤ M) (h : c.toNat = 255)  (v : SV) (L' : HF) (next : RunsTo Tryd.prog 33 (headOf Tryd.f33 0) (envAt Tryd.f33.ntmps ([(4, vP 101), (5, vL 102 5 ((T ++ [mk5 1 255 0 [] false])).length), (12, vL 60 1 N), (13, vN N), (14, vN (i + 1 : Nat))])) (Sx.look (rB 60 M B ++ (cxN 101 0 0 0 ++ toK 102 103 (T ++ [mk5 1 255 0 [] false])))) 80 (v) (L') 300) :
    RunsTo Tryd.prog 33 (headOf Tryd.f33 0) (envAt Tryd.f33.ntmps ([(4, vP 101), (5, vL 102 5 (T).length), (12, vL 60 1 N), (13, vN N), (14, vN (i : Nat))])) (Sx.look (rB 60 M B ++ (cxN 101 1 cd op ++ toK 102 103 T))) 80 (v) (L') 300 := by
  have hw : IntKind.i64.wrap ((i : Int) + 1) = ((i + 1 : Nat) : Int) := by rw [wr64 (by omega)]; rfl
  have hb8 : IntKind.i64.wrap (c.toNat : Int) = (c.toNat : Int) := wr64 (by omega)
  have hu8 : IntKind.u8.wrap (c.toNat : Int) = (c.toNat : Int) := u8id (by omega)
  refine runs_more baseO (More.of (id1_p0 N M B T cd op body cu i c) ⟨?oo, rfl, ?rr⟩) (by kernel_rfl) (by kernel_rfl) rfl (gtL (by decide)) (by decide) next
  case oo =>
    clear next
    refine (okc ?_ (okc ?_ (okc ?_ (okc ?_ (okc ?_ (okc ?_ (okc ?_ okn)))))))
    all_goals ((try simp (disch := omega) only [SS, hw, hb, hb8, hu8]); first | done | omega | assumption | (simp (disch := omega) only [SS, hw, hb, hb8, hu8] at *; first | done | omega | assumption) | (simp_all; done))
  case rr =>
    clear next
    simp (disch := omega) only [SS, hw, hb, hb8, hu8, Go.Sx.sum, List.length_append, List.length_cons, List.length_nil, Nat.zero_add]
    repeat' apply And.intro
    all_goals first | exact True.intro | with_reducible rfl | omega | exact kK_app T _ _ rfl | exact kC_app T _ _ rfl | exact kO_app T _ _ rfl | exact kL_app T _ _ rfl | exact kU_app T _ _ rfl | exact kM_app T _ _ _ (fun k hk => rfl) rfl | exact gL_cons T _ _ rfl | (intro m hm; exact ⟨gL_cons T _ _ rfl m hm, fun j hj => gB_cons T _ _ m hm j (fun j hj => by first | exact absurd hj (Nat.not_lt_zero _) | rfl | (simp [mk5]; done) | (simp [mk5, appF, subIx]; done)) hj⟩) | (intro k hk; exact app_byte1 ([] : List UInt8) _ _ (by first | exact hb | (simpa [subIx] using hb) | (simp only [subIx, List.tail]; simp_all)) k hk) | (intro k hk; exact kC_app T _ _ (by first | rfl | (simp [mk5]; done) | (simp [mk5]; omega)) k hk) | (simp [subIx, hb]; done) | (simp_all [subIx]; done) | (intros; simp_all; done) | (simp_all; done)

theorem in4e_p0 (N M : Nat) (B : Ix → Int) (T : List Tk) (cd op : Nat) (body : List UInt8) (cu : Bool) (i : Nat) (c : UInt8) :
    isMore (evTill Tryd.prog [] 500 (behind Tryd.f33 0) 900 33 (headOf Tryd.f33 0) (envAt Tryd.f33.ntmps ([(4, vP 101), (5, vL 102 5 (T).length), (12, vL 60 1 N), (13, vN N), (14, vN (i : Nat))])) (rB 60 M B ++ (cxE 101 104 4 cd op body cu ++ toK 102 103 T)) ⟨[.s true, .s true, .s true, .s true, .f, .f, .f, .t, .s true, .f], 130⟩) (moreP (headOf Tryd.f33 0) ([]) Tryd.f33.ntmps ([(4, vP 101), (5, vL 102 5 (T).length), (12, vL 60 1 N), (13, vN N), (14, vN (i + 1 : Nat))]) (cxE 101 104 5 cd op body cu ++ toK 102 103 T) 300) =
    (OkL [(decide ((↑i : Int) < (↑N : Int)), true), (decide ((0 : Int) ≤ (↑i : Int) ∧ (↑i : Int) < (↑N : Int)), true), (((0 : Nat) + (↑i : Int).toNat).blt M, true), (((0 : Nat) + (↑i : Int).toNat).blt M, true), (B [(0 : Nat) + (↑i : Int).toNat] == (255 : Int), true)] ∧ headOf Tryd.f33 (0 : Nat) = headOf Tryd.f33 (0 : Nat) ∧ ((0 : Nat) = (0 : Nat) ∧ ((0 : Nat) = (0 : Nat) ∧ T.length = T.length) ∧ ((0 : Nat) = (0 : Nat) ∧ N = N) ∧ (↑N : Int) = (↑N : Int) ∧ (↑(i + (1 : Nat)) : Int) = IntKind.i64.wrap ((↑i : Int) + (1 : Int))) ∧ ((↑(5 : Nat) : Int) = (5 : Int) ∧ (0 : Int) = (0 : Int) ∧ (↑cd : Int) = (↑cd : Int) ∧ (↑op : Int) = (↑op : Int) ∧ ((0 : Nat) = (0 : Nat) ∧ body.length = body.length) ∧ cu = cu) ∧ (body.length = body.length ∧ ∀ (i : Nat), i < body.length → (↑(body.getD i (0 : UInt8)).toNat : Int) = (↑(body.getD i (0 : UInt8)).toNat : Int)) ∧ (T.length = T.length ∧ (∀ (i : Nat), i < T.length → kK T [i] = kK T [i]) ∧ (∀ (i : Nat), i < T.length → kC T [i] = kC T [i]) ∧ (∀ (i : Nat), i < T.length → kO T [i] = kO T [i]) ∧ ((∀ (i : Nat), i < T.length → kM T [i] = kM T [i]) ∧ ∀ (i : Nat), i < T.length → kL T [i] = kL T [i]) ∧ ∀ (i : Nat), i < T.length → kU T [i] = kU T [i]) ∧ T.length = T.length ∧ ∀ (m : Nat), m < T.length → gL T m = gL T m ∧ ∀ (i : Nat), i < gL T m → gB T [m, i] = gB T [m, i]) := by kernel_rfl

set_option maxHeartbeats 4000000 in
theorem in4e (N M : Nat) (B : Ix → Int) (T : List Tk) (cd op : Nat) (body : List UInt8) (cu : Bool) (i : Nat) (c : UInt8) (hi : i < N) (hN : N ≤ 400000) (hT : T.length ≤ 400000) (hl : body.length ≤ 256) (hb : B [i] = (c.toNat : Int)) (hc : c.toNat < 256) (hcd : cd < 256) (hop : op < 256) (hM : N ≤ M) (h : c.toNat = 255) (hz : 0 < body.length)  (v : SV) (L' : HF) (next : RunsTo Tryd.prog 33 (headOf Tryd.f33 0) (envAt Tryd.f33.ntmps ([(4, vP 101), (5, vL 102 5 (T).length), (12, vL 60 1 N), (13, vN N), (14, vN (i + 1 : Nat))])) (Sx.look (rB 60 M B ++ (cxE 101 104 5 cd op body cu ++ toK 102 103 T))) 80 (v) (L') 300) :
    RunsTo Tryd.prog 33 (headOf Tryd.f33 0) (envAt Tryd.f33.ntmps ([(4, vP 101), (5, vL 102 5 (T).length), (12, vL 60 1 N), (13, vN N), (14, vN (i : Nat))])) (Sx.look (rB 60 M B ++ (cxE 101 104 4 cd op body cu ++ toK 102 103 T))) 80 (v) (L') 300 := by
  have hw : IntKind.i64.wrap ((i : Int) + 1) = ((i + 1 : Nat) : Int) := by rw [wr64 (by omega)]; rfl
  have hb8 : IntKind.i64.wrap (c.toNat : Int) = (c.toNat : Int) := wr64 (by omega)
  have hu8 : IntKind.u8.wrap (c.toNat : Int) = (c.toNat : Int) := u8id (by omega)
  refine runs_more baseO (More.of (in4e_p0 N M B T cd op body cu i c) ⟨?oo, rfl, ?rr⟩) (by kernel_rfl) (by kernel_rfl) rfl (gtL (by decide)) (by decide) next
  case oo =>
    clear next
    refine (okc ?_ (okc ?_ (okc ?_ (okc ?_ (okc ?_ okn)))))
    all_goals ((try simp (disch := omega) only [SS, hw, hb, hb8, hu8]); first | done | omega | assumption | (simp (disch := omega) only [SS, hw, hb, hb8, hu8] at *; first | done | omega | assumption) | (simp_all; done))
  case rr =>
    clear next
    simp (disch := omega) only [SS, hw, hb, hb8, hu8, Go.Sx.sum, List.length_append, List.length_cons, List.length_nil, Nat.zero_add]
    repeat' apply And.intro
    all_goals first | exact True.intro | with_reducible rfl | omega | exact kK_app T _ _ rfl | exact kC_app T _ _ rfl | exact kO_app T _ _ rfl | exact kL_app T _ _ rfl | exact kU_app T _ _ rfl | exact kM_app T _ _ _ (fun k hk => rfl) rfl | exact gL_cons T _ _ rfl | (intro m hm; exact ⟨gL_cons T _ _ rfl m hm, fun j hj => gB_cons T _ _ m hm j (fun j hj => by first | exact absurd hj (Nat.not_lt_zero _) | rfl | (simp [mk5]; done) | (simp [mk5, appF, subIx]; done)) hj⟩) | (intro k hk; exact app_byte1 body _ _ (by first | exact hb | (simpa [subIx] using hb) | (simp only [subIx, List.tail]; simp_all)) k hk) | (intro k hk; exact kC_app T _ _ (by first | rfl | (simp [mk5]; done) | (simp [mk5]; omega)) k hk) | (simp [subIx, hb]; done) | (simp_all [subIx]; done) | (intros; simp_all; done) | (simp_all; done)

theorem in4_p0 (N M : Nat) (B : Ix → Int) (T : List Tk) (cd op : Nat) (body : List UInt8) (cu : Bool) (i : Nat) (c : UInt8) :
    isMore (evTill Tryd.prog [] 500 (behind Tryd.f33 0) 900 33 (headOf Tryd.f33 0) (envAt Tryd.f33.ntmps ([(4, vP 101), (5, vL 102 5 (T).length), (12, vL 60 1 N), (13, vN N), (14, vN (i : Nat))])) (rB 60 M B ++ (cxE 101 104 4 cd op body cu ++ toK 102 103 T)) ⟨[.s true, .s true, .s true, .s true, .f, .f, .f, .t, .s false, .s false, .t, .s true, .s true, .f], 130⟩) (moreP (headOf Tryd.f33 0) ([((104 : Nat), Rn.to (133 : Nat))]) Tryd.f33.ntmps ([(4, vP 101), (5, vL 102 5 (T).length), (12, vL 60 1 N), (13, vN N), (14, vN (i + 1 : Nat))]) (cxE 101 104 4 cd op (body ++ [c]) cu ++ toK 102 103 T) 300) =
    (OkL [(decide ((↑i : Int) < (↑N : Int)), true), (decide ((0 : Int) ≤ (↑i : Int) ∧ (↑i : Int) < (↑N : Int)), true), (((0 : Nat) + (↑i : Int).toNat).blt M, true), (((0 : Nat) + (↑i : Int).toNat).blt M, true), (B [(0 : Nat) + (↑i : Int).toNat] == (255 : Int), false), (decide ((↑body.length : Int) ≥ (256 : Int)), false), (((0 : Nat) + body.length).ble body.length, true), (decide (((2 : Nat) * (body.length + (1 : Nat)) + (192 : Nat)) * (1 : Nat) ≤ (281474976710656 : Nat)), true)] ∧ headOf Tryd.f33 (0 : Nat) = headOf Tryd.f33 (0 : Nat) ∧ ((0 : Nat) = (0 : Nat) ∧ ((0 : Nat) = (0 : Nat) ∧ T.length = T.length) ∧ ((0 : Nat) = (0 : Nat) ∧ N = N) ∧ (↑N : Int) = (↑N : Int) ∧ (↑(i + (1 : Nat)) : Int) = IntKind.i64.wrap ((↑i : Int) + (1 : Int))) ∧ ((↑(4 : Nat) : Int) = (↑(4 : Nat) : Int) ∧ (0 : Int) = (0 : Int) ∧ (↑cd : Int) = (↑cd : Int) ∧ (↑op : Int) = (↑op : Int) ∧ ((0 : Nat) = (0 : Nat) ∧ (body ++ [c]).length = body.length + (1 : Nat)) ∧ cu = cu) ∧ ((body ++ [c]).length = body.length + (1 : Nat) ∧ ∀ (i_1 : Nat), i_1 < (body ++ [c]).length → (↑((body ++ [c]).getD i_1 (0 : UInt8)).toNat : Int) = appF body.length (0 : Nat) (fun is => (↑(body.getD (List.headD is (0 : Nat)) (0 : UInt8)).toNat : Int)) (fun js => B (((0 : Nat) + (↑i : Int).toNat) :: List.tail (subIx (0 : Nat) js))) [i_1]) ∧ (T.length = T.length ∧ (∀ (i : Nat), i < T.length → kK T [i] = kK T [i]) ∧ (∀ (i : Nat), i < T.length → kC T [i] = kC T [i]) ∧ (∀ (i : Nat), i < T.length → kO T [i] = kO T [i]) ∧ ((∀ (i : Nat), i < T.length → kM T [i] = kM T [i]) ∧ ∀ (i : Nat), i < T.length → kL T [i] = kL T [i]) ∧ ∀ (i : Nat), i < T.length → kU T [i] = kU T [i]) ∧ T.length = T.length ∧ ∀ (m : Nat), m < T.length → gL T m = gL T m ∧ ∀ (i : Nat), i < gL T m → gB T [m, i] = gB T [m, i]) := by kernel_rfl

set_option maxHeartbeats 4000000 in
theorem in4 (N M : Nat) (B : Ix → Int) (T : List Tk) (cd op : Nat) (body : List UInt8) (cu : Bool) (i : Nat) (c : UInt8) (hi : i < N) (hN : N ≤ 400000) (hT : T.length ≤ 400000) (hl : body.length ≤ 256) (hb : B [i] = (c.toNat : Int)) (hc : c.toNat < 256) (hcd : cd < 256) (hop : op < 256) (hM : N ≤ M) (h : c.toNat ≠ 255) (hf : body.length < 256) (hz : 0 < body.length)  (v : SV) (L' : HF) (next : RunsTo Tryd.prog 33 (headOf Tryd.f33 0) (envAt Tryd.f33.ntmps ([(4, vP 101), (5, vL 102 5 (T).length), (12, vL 60 1 N), (13, vN N), (14, vN (i + 1 : Nat))])) (Sx.look (rB 60 M B ++ (cxE 101 104 4 cd op (body ++ [c]) cu ++ toK 102 103 T))) 80 (v) (L') 300) :
    RunsTo Tryd.prog 33 (headOf Tryd.f33 0) (envAt Tryd.f33.ntmps ([(4, vP 101), (5, vL 102 5 (T).length), (12, vL 60 1 N), (13, vN N), (14, vN (i : Nat))])) (Sx.look (rB 60 M B ++ (cxE 101 104 4 cd op body cu ++ toK 102 103 T))) 80 (v) (L') 300 := by
  have hw : IntKind.i64.wrap ((i : Int) + 1) = ((i + 1 : Nat) : Int) := by rw [wr64 (by omega)]; rfl
  have hb8 : IntKind.i64.wrap (c.toNat : Int) = (c.toNat : Int) := wr64 (by omega)
  have hu8 : IntKind.u8.wrap (c.toNat : Int) = (c.toNat : Int) := u8id (by omega)
  refine runs_more baseO (More.of (in4_p0 N M B T cd op body cu i c) ⟨?oo, rfl, ?rr⟩) (by kernel_rfl) (by kernel_rfl) rfl (gtL (by decide)) (by decide) next
  case oo =>
    clear next
    refine (okc ?_ (okc ?_ (okc ?_ (okc ?_ (okc ?_ (okc ?_ (okc ?_ (okc ?_ okn))))))))
    all_goals ((try simp (disch := omega) only [SS, hw, hb, hb8, hu8]); first | done | omega | assumption | (simp (disch := omega) only [SS, hw, hb, hb8, hu8] at *; first | done | omega | assumption) | (simp_all; done))
  case rr =>
    clear next
    simp (disch := omega) only [SS, hw, hb, hb8, hu8, Go.Sx.sum, List.length_append, List.length_cons, List.length_nil, Nat.zero_add]
    repeat' apply And.intro
    all_goals first | exact True.intro | with_reducible rfl | omega | exact kK_app T _ _ rfl | exact kC_app T _ _ rfl | exact kO_app T _ _ rfl | exact kL_app T _ _ rfl | exact kU_app T _ _ rfl | exact kM_app T _ _ _ (fun k hk => rfl) rfl | exact gL_cons T _ _ rfl | (intro m hm; exact ⟨gL_cons T _ _ rfl m hm, fun j hj => gB_cons T _ _ m hm j (fun j hj => by first | exact absurd hj (Nat.not_lt_zero _) | rfl | (simp [mk5]; done) | (simp [mk5, appF, subIx]; done)) hj⟩) | (intro k hk; exact app_byte1 body _ _ (by first | exact hb | (simpa [subIx] using hb) | (simp only [subIx, List.tail]; simp_all)) k hk) | (intro k hk; exact kC_app T _ _ (by first | rfl | (simp [mk5]; done) | (simp [mk5]; omega)) k hk) | (simp [subIx, hb]; done) | (simp_all [subIx]; done) | (intros; simp_all; done) | (simp_all; done)

theorem in4c_p0 (N M : Nat) (B : Ix → Int) (T : List Tk) (cd op : Nat) (body : List UInt8) (cu : Bool) (i : Nat) (c : UInt8) :
    isMore (evTill Tryd.prog [] 500 (behind Tryd.f33 0) 900 33 (headOf Tryd.f33 0) (envAt Tryd.f33.ntmps ([(4, vP 101), (5, vL 102 5 (T).length), (12, vL 60 1 N), (13, vN N), (14, vN (i : Nat))])) (rB 60 M B ++ (cxE 101 104 4 cd op body cu ++ toK 102 103 T)) ⟨[.s true, .s true, .s true, .s true, .f, .f, .f, .t, .s false, .s true, .f], 130⟩) (moreP (headOf Tryd.f33 0) ([]) Tryd.f33.ntmps ([(4, vP 101), (5, vL 102 5 (T).length), (12, vL 60 1 N), (13, vN N), (14, vN (i + 1 : Nat))]) (cxE 101 104 4 cd op body true ++ toK 102 103 T) 300) =
    (OkL [(decide ((↑i : Int) < (↑N : Int)), true), (decide ((0 : Int) ≤ (↑i : Int) ∧ (↑i : Int) < (↑N : Int)), true), (((0 : Nat) + (↑i : Int).toNat).blt M, true), (((0 : Nat) + (↑i : Int).toNat).blt M, true), (B [(0 : Nat) + (↑i : Int).toNat] == (255 : Int), false), (decide ((↑body.length : Int) ≥ (256 : Int)), true)] ∧ headOf Tryd.f33 (0 : Nat) = headOf Tryd.f33 (0 : Nat) ∧ ((0 : Nat) = (0 : Nat) ∧ ((0 : Nat) = (0 : Nat) ∧ T.length = T.length) ∧ ((0 : Nat) = (0 : Nat) ∧ N = N) ∧ (↑N : Int) = (↑N : Int) ∧ (↑(i + (1 : Nat)) : Int) = IntKind.i64.wrap ((↑i : Int) + (1 : Int))) ∧ ((↑(4 : Nat) : Int) = (↑(4 : Nat) : Int) ∧ (0 : Int) = (0 : Int) ∧ (↑cd : Int) = (↑cd : Int) ∧ (↑op : Int) = (↑op : Int) ∧ ((0 : Nat) = (0 : Nat) ∧ body.length = body.length) ∧ true = true) ∧ (body.length = body.length ∧ ∀ (i : Nat), i < body.length → (↑(body.getD i (0 : UInt8)).toNat : Int) = (↑(body.getD i (0 : UInt8)).toNat : Int)) ∧ (T.length = T.length ∧ (∀ (i : Nat), i < T.length → kK T [i] = kK T [i]) ∧ (∀ (i : Nat), i < T.length → kC T [i] = kC T [i]) ∧ (∀ (i : Nat), i < T.length → kO T [i] = kO T [i]) ∧ ((∀ (i : Nat), i < T.length → kM T [i] = kM T [i]) ∧ ∀ (i : Nat), i < T.length → kL T [i] = kL T [i]) ∧ ∀ (i : Nat), i < T.length → kU T [i] = kU T [i]) ∧ T.length = T.length ∧ ∀ (m : Nat), m < T.length → gL T m = gL T m ∧ ∀ (i : Nat), i < gL T m → gB T [m, i] = gB T [m, i]) := by kernel_rfl

set_option maxHeartbeats 4000000 in
theorem in4c (N M : Nat) (B : Ix → Int) (T : List Tk) (cd op : Nat) (body : List UInt8) (cu : Bool) (i : Nat) (c : UInt8) (hi : i < N) (hN : N ≤ 400000) (hT : T.length ≤ 400000) (hl : body.length ≤ 256) (hb : B [i] = (c.toNat : Int)) (hc : c.toNat < 256) (hcd : cd < 256) (hop : op < 256) (hM : N ≤ M) (h : c.toNat ≠ 255) (hf : 256 ≤ body.length) (hz : 0 < body.length)  (v : SV) (L' : HF) (next : RunsTo Tryd.prog 33 (headOf Tryd.f33 0) (envAt Tryd.f33.ntmps ([(4, vP 101), (5, vL 102 5 (T).length), (12, vL 60 1 N), (13, vN N), (14, vN (i + 1 : Nat))])) (Sx.look (rB 60 M B ++ (cxE 101 104 4 cd op body true ++ toK 102 103 T))) 80 (v) (L') 300) :
    RunsTo Tryd.prog 33 (headOf Tryd.f33 0) (envAt Tryd.f33.ntmps ([(4, vP 101), (5, vL 102 5 (T).length), (12, vL 60 1 N), (13, vN N), (14, vN (i : Nat))])) (Sx.look (rB 60 M B ++ (cxE 101 104 4 cd op body cu ++ toK 102 103 T))) 80 (v) (L') 300 := by
  have hw : IntKind.i64.wrap ((i : Int) + 1) = ((i + 1 : Nat) : Int) := by rw [wr64 (by omega)]; rfl
  have hb8 : IntKind.i64.wrap (c.toNat : Int) = (c.toNat : Int) := wr64 (by omega)
  have hu8 : IntKind.u8.wrap (c.toNat : Int) = (c.toNat : Int) := u8id (by omega)
  refine runs_more baseO (More.of (in4c_p0 N M B T cd op body cu i c) ⟨?oo, rfl, ?rr⟩) (by kernel_rfl) (by kernel_rfl) rfl (gtL (by decide)) (by decide) next
  case oo =>
    clear next
    refine (okc ?_ (okc ?_ (okc ?_ (okc ?_ (okc ?_ (okc ?_ okn))))))
    all_goals ((try simp (disch := omega) only [SS, hw, hb, hb8, hu8]); first | done | omega | assumption | (simp (disch := omega) only [SS, hw, hb, hb8, hu8] at *; first | done | omega | assumption) | (simp_all; done))
  case rr =>
    clear next
    simp (disch := omega) only [SS, hw, hb, hb8, hu8, Go.Sx.sum, List.length_append, List.length_cons, List.length_nil, Nat.zero_add]
    repeat' apply And.intro
    all_goals first | exact True.intro | with_reducible rfl | omega | exact kK_app T _ _ rfl | exact kC_app T _ _ rfl | exact kO_app T _ _ rfl | exact kL_app T _ _ rfl | exact kU_app T _ _ rfl | exact kM_app T _ _ _ (fun k hk => rfl) rfl | exact gL_cons T _ _ rfl | (intro m hm; exact ⟨gL_cons T _ _ rfl m hm, fun j hj => gB_cons T _ _ m hm j (fun j hj => by first | exact absurd hj (Nat.not_lt_zero _) | rfl | (simp [mk5]; done) | (simp [mk5, appF, subIx]; done)) hj⟩) | (intro k hk; exact app_byte1 body _ _ (by first | exact hb | (simpa [subIx] using hb) | (simp only [subIx, List.tail]; simp_all)) k hk) | (intro k hk; exact kC_app T _ _ (by first | rfl | (simp [mk5]; done) | (simp [mk5]; omega)) k hk) | (simp [subIx, hb]; done) | (simp_all [subIx]; done) | (intros; simp_all; done) | (simp_all; done)

theorem in5e_p0 (N M : Nat) (B : Ix → Int) (T : List Tk) (cd op : Nat) (body : List UInt8) (cu : Bool) (i : Nat) (c : UInt8) :
    isMore (evTill Tryd.prog [] 500 (behind Tryd.f33 0) 900 33 (headOf Tryd.f33 0) (envAt Tryd.f33.ntmps ([(4, vP 101), (5, vL 102 5 (T).length), (12, vL 60 1 N), (13, vN N), (14, vN (i : Nat))])) (rB 60 M B ++ (cxE 101 104 5 cd op body cu ++ toK 102 103 T)) ⟨[.s true, .s true, .s true, .s true, .f, .f, .f, .f, .t, .s true, .s false, .t, .s true, .s true, .f], 130⟩) (moreP (headOf Tryd.f33 0) ([((104 : Nat), Rn.to (133 : Nat))]) Tryd.f33.ntmps ([(4, vP 101), (5, vL 102 5 (T).length), (12, vL 60 1 N), (13, vN N), (14, vN (i + 1 : Nat))]) (cxE 101 104 4 cd op (body ++ [255]) cu ++ toK 102 103 T) 300) =
    (OkL [(decide ((↑i : Int) < (↑N : Int)), true), (decide ((0 : Int) ≤ (↑i : Int) ∧ (↑i : Int) < (↑N : Int)), true), (((0 : Nat) + (↑i : Int).toNat).blt M, true), (((0 : Nat) + (↑i : Int).toNat).blt M, true), (B [(0 : Nat) + (↑i : Int).toNat] == (255 : Int), true), (decide ((↑body.length : Int) ≥ (256 : Int)), false), (((0 : Nat) + body.length).ble body.length, true), (decide (((2 : Nat) * (body.length + (1 : Nat)) + (192 : Nat)) * (1 : Nat) ≤ (281474976710656 : Nat)), true)] ∧ headOf Tryd.f33 (0 : Nat) = headOf Tryd.f33 (0 : Nat) ∧ ((0 : Nat) = (0 : Nat) ∧ ((0 : Nat) = (0 : Nat) ∧ T.length = T.length) ∧ ((0 : Nat) = (0 : Nat) ∧ N = N) ∧ (↑N : Int) = (↑N : Int) ∧ (↑(i + (1 : Nat)) : Int) = IntKind.i64.wrap ((↑i : Int) + (1 : Int))) ∧ ((↑(4 : Nat) : Int) = (4 : Int) ∧ (0 : Int) = (0 : Int) ∧ (↑cd : Int) = (↑cd : Int) ∧ (↑op : Int) = (↑op : Int) ∧ ((0 : Nat) = (0 : Nat) ∧ (body ++ [(255 : UInt8)]).length = body.length + (1 : Nat)) ∧ cu = cu) ∧ ((body ++ [(255 : UInt8)]).length = body.length + (1 : Nat) ∧ ∀ (i_1 : Nat), i_1 < (body ++ [(255 : UInt8)]).length → (↑((body ++ [(255 : UInt8)]).getD i_1 (0 : UInt8)).toNat : Int) = appF body.length (0 : Nat) (fun is => (↑(body.getD (List.headD is (0 : Nat)) (0 : UInt8)).toNat : Int)) (fun js => B (((0 : Nat) + (↑i : Int).toNat) :: List.tail (subIx (0 : Nat) js))) [i_1]) ∧ (T.length = T.length ∧ (∀ (i : Nat), i < T.length → kK T [i] = kK T [i]) ∧ (∀ (i : Nat), i < T.length → kC T [i] = kC T [i]) ∧ (∀ (i : Nat), i < T.length → kO T [i] = kO T [i]) ∧ ((∀ (i : Nat), i < T.length → kM T [i] = kM T [i]) ∧ ∀ (i : Nat), i < T.length → kL T [i] = kL T [i]) ∧ ∀ (i : Nat), i < T.length → kU T [i] = kU T [i]) ∧ T.length = T.length ∧ ∀ (m : Nat), m < T.length → gL T m = gL T m ∧ ∀ (i : Nat), i < gL T m → gB T [m, i] = gB T [m, i]) := by kernel_rfl

set_option maxHeartbeats 4000000 in
theorem in5e (N M : Nat) (B : Ix → Int) (T : List Tk) (cd op : Nat) (body : List UInt8) (cu : Bool) (i : Nat) (c : UInt8) (hi : i < N) (hN : N ≤ 400000) (hT : T.length ≤ 400000) (hl : body.length ≤ 256) (hb : B [i] = (c.toNat : Int)) (hc : c.toNat < 256) (hcd : cd < 256) (hop : op < 256) (hM : N ≤ M) (h : c.toNat = 255) (hf : body.length < 256) (hz : 0 < body.length)  (v : SV) (L' : HF) (next : RunsTo Tryd.prog 33 (headOf Tryd.f33 0) (envAt Tryd.f33.ntmps ([(4, vP 101), (5, vL 102 5 (T).length), (12, vL 60 1 N), (13, vN N), (14, vN (i + 1 : Nat))])) (Sx.look (rB 60 M B ++ (cxE 101 104 4 cd op (body ++ [255]) cu ++ toK 102 103 T))) 80 (v) (L') 300) :
    RunsTo Tryd.prog 33 (headOf Tryd.f33 0) (envAt Tryd.f33.ntmps ([(4, vP 101), (5, vL 102 5 (T).length), (12, vL 60 1 N), (13, vN N), (14, vN (i : Nat))])) (Sx.look (rB 60 M B ++ (cxE 101 104 5 cd op body cu ++ toK 102 103 T))) 80 (v) (L') 300 := by
  have hw : IntKind.i64.wrap ((i : Int) + 1) = ((i + 1 : Nat) : Int) := by rw [wr64 (by omega)]; rfl
  have hb8 : IntKind.i64.wrap (c.toNat : Int) = (c.toNat : Int) := wr64 (by omega)
  have hu8 : IntKind.u8.wrap (c.toNat : Int) = (c.toNat : Int) := u8id (by omega)
  refine runs_more baseO (More.of (in5e_p0 N M B T cd op body cu i c) ⟨?oo, rfl, ?rr⟩) (by kernel_rfl) (by kernel_rfl) rfl (gtL (by decide)) (by decide) next
  case oo =>
    clear next
    refine (okc ?_ (okc ?_ (okc ?_ (okc ?_ (okc ?_ (okc ?_ (okc ?_ (okc ?_ okn))))))))
    all_goals ((try simp (disch := omega) only [SS, hw, hb, hb8, hu8]); first | done | omega | assumption | (simp (disch := omega) only [SS, hw, hb, hb8, hu8] at *; first | done | omega | assumption) | (simp_all; done))
  case rr =>
    clear next
    simp (disch := omega) only [SS, hw, hb, hb8, hu8, Go.Sx.sum, List.length_append, List.length_cons, List.length_nil, Nat.zero_add]
    repeat' apply And.intro
    all_goals first | exact True.intro | with_reducible rfl | omega | exact kK_app T _ _ rfl | exact kC_app T _ _ rfl | exact kO_app T _ _ rfl | exact kL_app T _ _ rfl | exact kU_app T _ _ rfl | exact kM_app T _ _ _ (fun k hk => rfl) rfl | exact gL_cons T _ _ rfl | (intro m hm; exact ⟨gL_cons T _ _ rfl m hm, fun j hj => gB_cons T _ _ m hm j (fun j hj => by first | exact absurd hj (Nat.not_lt_zero _) | rfl | (simp [mk5]; done) | (simp [mk5, appF, subIx]; done)) hj⟩) | (intro k hk; exact app_byte1 body _ _ (by first | exact hb | (simpa [subIx] using hb) | (simp only [subIx, List.tail]; simp_all)) k hk) | (intro k hk; exact kC_app T _ _ (by first | rfl | (simp [mk5]; done) | (simp [mk5]; omega)) k hk) | (simp [subIx, hb]; done) | (simp_all [subIx]; done) | (intros; simp_all; done) | (simp_all; done)

theorem in5c_p0 (N M : Nat) (B : Ix → Int) (T : List Tk) (cd op : Nat) (body : List UInt8) (cu : Bool) (i : Nat) (c : UInt8) :
    isMore (evTill Tryd.prog [] 500 (behind Tryd.f33 0) 900 33 (headOf Tryd.f33 0) (envAt Tryd.f33.ntmps ([(4, vP 101), (5, vL 102 5 (T).length), (12, vL 60 1 N), (13, vN N), (14, vN (i : Nat))])) (rB 60 M B ++ (cxE 101 104 5 cd op body cu ++ toK 102 103 T)) ⟨[.s true, .s true, .s true, .s true, .f, .f, .f, .f, .t, .s true, .s true, .f], 130⟩) (moreP (headOf Tryd.f33 0) ([]) Tryd.f33.ntmps ([(4, vP 101), (5, vL 102 5 (T).length), (12, vL 60 1 N), (13, vN N), (14, vN (i + 1 : Nat))]) (cxE 101 104 4 cd op body true ++ toK 102 103 T) 300) =
    (OkL [(decide ((↑i : Int) < (↑N : Int)), true), (decide ((0 : Int) ≤ (↑i : Int) ∧ (↑i : Int) < (↑N : Int)), true), (((0 : Nat) + (↑i : Int).toNat).blt M, true), (((0 : Nat) + (↑i : Int).toNat).blt M, true), (B [(0 : Nat) + (↑i : Int).toNat] == (255 : Int), true), (decide ((↑body.length : Int) ≥ (256 : Int)), true)] ∧ headOf Tryd.f33 (0 : Nat) = headOf Tryd.f33 (0 : Nat) ∧ ((0 : Nat) = (0 : Nat) ∧ ((0 : Nat) = (0 : Nat) ∧ T.length = T.length) ∧ ((0 : Nat) = (0 : Nat) ∧ N = N) ∧ (↑N : Int) = (↑N : Int) ∧ (↑(i + (1 : Nat)) : Int) = IntKind.i64.wrap ((↑i : Int) + (1 : Int))) ∧ ((↑(4 : Nat) : Int) = (4 : Int) ∧ (0 : Int) = (0 : Int) ∧ (↑cd : Int) = (↑cd : Int) ∧ (↑op : Int) = (↑op : Int) ∧ ((0 : Nat) = (0 : Nat) ∧ body.length = body.length) ∧ true = true) ∧ (body.length = body.length ∧ ∀ (i : Nat), i < body.length → (↑(body.getD i (0 : UInt8)).toNat : Int) = (↑(body.getD i (0 : UInt8)).toNat : Int)) ∧ (T.length = T.length ∧ (∀ (i : Nat), i < T.length → kK T [i] = kK T [i]) ∧ (∀ (i : Nat), i < T.length → kC T [i] = kC T [i]) ∧ (∀ (i : Nat), i < T.length → kO T [i] = kO T [i]) ∧ ((∀ (i : Nat), i < T.length → kM T [i] = kM T [i]) ∧ ∀ (i : Nat), i < T.length → kL T [i] = kL T [i]) ∧ ∀ (i : Nat), i < T.length → kU T [i] = kU T [i]) ∧ T.length = T.length ∧ ∀ (m : Nat), m < T.length → gL T m = gL T m ∧ ∀ (i : Nat), i < gL T m → gB T [m, i] = gB T [m, i]) := by kernel_rfl

set_option maxHeartbeats 4000000 in
theorem in5c (N M : Nat) (B : Ix → Int) (T : List Tk) (cd op : Nat) (body : List UInt8) (cu : Bool) (i : Nat) (c : UInt8) (hi : i < N) (hN : N ≤ 400000) (hT : T.length ≤ 400000) (hl : body.length ≤ 256) (hb : B [i] = (c.toNat : Int)) (hc : c.toNat < 256) (hcd : cd < 256) (hop : op < 256) (hM : N ≤ M) (h : c.toNat = 255) (hf : 256 ≤ body.length) (hz : 0 < body.length)  (v : SV) (L' : HF) (next : RunsTo Tryd.prog 33 (headOf Tryd.f33 0) (envAt Tryd.f33.ntmps ([(4, vP 101), (5, vL 102 5 (T).length), (12, vL 60 1 N), (13, vN N), (14, vN (i + 1 : Nat))])) (Sx.look (rB 60 M B ++ (cxE 101 104 4 cd op body true ++ toK 102 103 T))) 80 (v) (L') 300) :
    RunsTo Tryd.prog 33 (headOf Tryd.f33 0) (envAt Tryd.f33.ntmps ([(4, vP 101), (5, vL 102 5 (T).length), (12, vL 60 1 N), (13, vN N), (14, vN (i : Nat))])) (Sx.look (rB 60 M B ++ (cxE 101 104 5 cd op body cu ++ toK 102 103 T))) 80 (v) (L') 300 := by
  have hw : IntKind.i64.wrap ((i : Int) + 1) = ((i + 1 : Nat) : Int) := by rw [wr64 (by omega)]; rfl
  have hb8 : IntKind.i64.wrap (c.toNat : Int) = (c.toNat : Int) := wr64 (by omega)
  have hu8 : IntKind.u8.wrap (c.toNat : Int) = (c.toNat : Int) := u8id (by omega)
  refine runs_more baseO (More.of (in5c_p0 N M B T cd op body cu i c) ⟨?oo, rfl, ?rr⟩) (by kernel_rfl) (by kernel_rfl) rfl (gtL (by decide)) (by decide) next
  case oo =>
    clear next
    refine (okc ?_ (okc ?_ (okc ?_ (okc ?_ (okc ?_ (okc ?_ okn))))))
    all_goals ((try simp (disch := omega) only [SS, hw, hb, hb8, hu8]); first | done | omega | assumption | (simp (disch := omega) only [SS, hw, hb, hb8, hu8] at *; first | done | omega | assumption) | (simp_all; done))
  case rr =>
    clear next
    simp (disch := omega) only [SS, hw, hb, hb8, hu8, Go.Sx.sum, List.length_append, List.length_cons, List.length_nil, Nat.zero_add]
    repeat' apply And.intro
    all_goals first | exact True.intro | with_reducible rfl | omega | exact kK_app T _ _ rfl | exact kC_app T _ _ rfl | exact kO_app T _ _ rfl | exact kL_app T _ _ rfl | exact kU_app T _ _ rfl | exact kM_app T _ _ _ (fun k hk => rfl) rfl | exact gL_cons T _ _ rfl | (intro m hm; exact ⟨gL_cons T _ _ rfl m hm, fun j hj => gB_cons T _ _ m hm j (fun j hj => by first | exact absurd hj (Nat.not_lt_zero _) | rfl | (simp [mk5]; done) | (simp [mk5, appF, subIx]; done)) hj⟩) | (intro k hk; exact app_byte1 body _ _ (by first | exact hb | (simpa [subIx] using hb) | (simp only [subIx, List.tail]; simp_all)) k hk) | (intro k hk; exact kC_app T _ _ (by first | rfl | (simp [mk5]; done) | (simp [mk5]; omega)) k hk) | (simp [subIx, hb]; done) | (simp_all [subIx]; done) | (intros; simp_all; done) | (simp_all; done)

theorem icS_p0 (N M : Nat) (B : Ix → Int) (T : List Tk) (cd op : Nat) (body : List UInt8) (cu : Bool) (i : Nat) (c : UInt8) :
    isMore (evTill Tryd.prog [] 500 (behind Tryd.f33 0) 900 33 (headOf Tryd.f33 0) (envAt Tryd.f33.ntmps ([(4, vP 101), (5, vL 102 5 (T).length), (12, vL 60 1 N), (13, vN N), (14, vN (i : Nat))])) (rB 60 M B ++ (cxE 101 104 5 cd op body cu ++ toK 102 103 T)) ⟨[.s true, .s true, .s true, .s true, .f, .f, .f, .f, .t, .s false, .s true, .t, .s true, .s true, .f, .s true, .t, .s true, .t, .s true, .s true], 130⟩) (moreP (headOf Tryd.f33 0) ([((102 : Nat), Rn.to (137 : Nat)), ((103 : Nat), Rn.to (136 : Nat))]) Tryd.f33.ntmps ([(4, vP 101), (5, vL 102 5 ((T ++ [mk5 4 cd op body cu])).length), (12, vL 60 1 N), (13, vN N), (14, vN (i + 1 : Nat))]) (cxN 101 0 0 0 ++ toK 102 103 (T ++ [mk5 4 cd op body cu])) 300) =
    (OkL [(decide ((↑i : Int) < (↑N : Int)), true), (decide ((0 : Int) ≤ (↑i : Int) ∧ (↑i : Int) < (↑N : Int)), true), (((0 : Nat) + (↑i : Int).toNat).blt M, true), (((0 : Nat) + (↑i : Int).toNat).blt M, true), (B [(0 : Nat) + (↑i : Int).toNat] == (255 : Int), false), (B [(0 : Nat) + (↑i : Int).toNat] == (240 : Int), true), (Nat.blt (0 : Nat) body.length, true), (((0 : Nat) + body.length).ble body.length, true), (((0 : Nat) + body.length).ble body.length, true), (decide (((2 : Nat) * ((0 : Nat) + body.length) + (192 : Nat)) * (1 : Nat) ≤ (281474976710656 : Nat)), true), (((0 : Nat) + T.length).ble T.length, true), (decide (((2 : Nat) * (T.length + (1 : Nat)) + (192 : Nat)) * (56 : Nat) ≤ (281474976710656 : Nat)), true)] ∧ headOf Tryd.f33 (0 : Nat) = headOf Tryd.f33 (0 : Nat) ∧ ((0 : Nat) = (0 : Nat) ∧ ((0 : Nat) = (0 : Nat) ∧ (T ++ [mk5 (4 : Nat) cd op body cu]).length = T.length + (1 : Nat)) ∧ ((0 : Nat) = (0 : Nat) ∧ N = N) ∧ (↑N : Int) = (↑N : Int) ∧ (↑(i + (1 : Nat)) : Int) = IntKind.i64.wrap ((↑i : Int) + (1 : Int))) ∧ ((↑(0 : Nat) : Int) = (0 : Int) ∧ (0 : Int) = (0 : Int) ∧ (↑(0 : Nat) : Int) = (0 : Int) ∧ (↑(0 : Nat) : Int) = (0 : Int) ∧ True ∧ false = false) ∧ ((T ++ [mk5 (4 : Nat) cd op body cu]).length = T.length + (1 : Nat) ∧ (∀ (i : Nat), i < (T ++ [mk5 (4 : Nat) cd op body cu]).length → kK (T ++ [mk5 (4 : Nat) cd op body cu]) [i] = appF T.length (0 : Nat) (kK T) (fun js => (4 : Int)) [i]) ∧ (∀ (i : Nat), i < (T ++ [mk5 (4 : Nat) cd op body cu]).length → kC (T ++ [mk5 (4 : Nat) cd op body cu]) [i] = appF T.length (0 : Nat) (kC T) (fun js => (↑cd : Int)) [i]) ∧ (∀ (i : Nat), i < (T ++ [mk5 (4 : Nat) cd op body cu]).length → kO (T ++ [mk5 (4 : Nat) cd op body cu]) [i] = appF T.length (0 : Nat) (kO T) (fun js => (↑op : Int)) [i]) ∧ ((∀ (i : Nat), i < (T ++ [mk5 (4 : Nat) cd op body cu]).length → kM (T ++ [mk5 (4 : Nat) cd op body cu]) [i] = appF T.length (0 : Nat) (fun is => kM T is + (1 : Nat)) (fun js => (0 : Nat)) [i]) ∧ ∀ (i : Nat), i < (T ++ [mk5 (4 : Nat) cd op body cu]).length → kL (T ++ [mk5 (4 : Nat) cd op body cu]) [i] = appF T.length (0 : Nat) (kL T) (fun js => (0 : Nat) + body.length) [i]) ∧ ∀ (i : Nat), i < (T ++ [mk5 (4 : Nat) cd op body cu]).length → kU (T ++ [mk5 (4 : Nat) cd op body cu]) [i] = appF T.length (0 : Nat) (kU T) (fun js => cu) [i]) ∧ (T ++ [mk5 (4 : Nat) cd op body cu]).length = T.length + (1 : Nat) ∧ ∀ (m : Nat), m < (T ++ [mk5 (4 : Nat) cd op body cu]).length → gL (T ++ [mk5 (4 : Nat) cd op body cu]) m = consN ((0 : Nat) + body.length) (gL T) m ∧ ∀ (i : Nat), i < gL (T ++ [mk5 (4 : Nat) cd op body cu]) m → gB (T ++ [mk5 (4 : Nat) cd op body cu]) [m, i] = consF (appF (0 : Nat) (0 : Nat) (fun is => (0 : Int)) fun js => (↑(body.getD (List.headD (subIx (0 : Nat) js) (0 : Nat)) (0 : UInt8)).toNat : Int)) (gB T) [m, i]) := by kernel_rfl

set_option maxHeartbeats 4000000 in
theorem icS (N M : Nat) (B : Ix → Int) (T : List Tk) (cd op : Nat) (body : List UInt8) (cu : Bool) (i : Nat) (c : UInt8) (hi : i < N) (hN : N ≤ 400000) (hT : T.length ≤ 400000) (hl : body.length ≤ 256) (hb : B [i] = (c.toNat : Int)) (hc : c.toNat < 256) (hcd : cd < 256) (hop : op < 256) (hM : N ≤ M) (h : c.toNat = 240) (hz : 0 < body.length)  (v : SV) (L' : HF) (next : RunsTo Tryd.prog 33 (headOf Tryd.f33 0) (envAt Tryd.f33.ntmps ([(4, vP 101), (5, vL 102 5 ((T ++ [mk5 4 cd op body cu])).length), (12, vL 60 1 N), (13, vN N), (14, vN (i + 1 : Nat))])) (Sx.look (rB 60 M B ++ (cxN 101 0 0 0 ++ toK 102 103 (T ++ [mk5 4 cd op body cu])))) 80 (v) (L') 300) :
    RunsTo Tryd.prog 33 (headOf Tryd.f33 0) (envAt Tryd.f33.ntmps ([(4, vP 101), (5, vL 102 5 (T).length), (12, vL 60 1 N), (13, vN N), (14, vN (i : Nat))])) (Sx.look (rB 60 M B ++ (cxE 101 104 5 cd op body cu ++ toK 102 103 T))) 80 (v) (L') 300 := by
  have hw : IntKind.i64.wrap ((i : Int) + 1) = ((i + 1 : Nat) : Int) := by rw [wr64 (by omega)]; rfl
  have hb8 : IntKind.i64.wrap (c.toNat : Int) = (c.toNat : Int) := wr64 (by omega)
  have hu8 : IntKind.u8.wrap (c.toNat : Int) = (c.toNat : Int) := u8id (by omega)
  refine runs_more baseO (More.of (icS_p0 N M B T cd op body cu i c) ⟨?oo, rfl, ?rr⟩) (by kernel_rfl) (by kernel_rfl) rfl (gtL (by decide)) (by decide) next
  case oo =>
    clear next
    refine (okc ?_ (okc ?_ (okc ?_ (okc ?_ (okc ?_ (okc ?_ (okc ?_ (okc ?_ (okc ?_ (okc ?_ (okc ?_ (okc ?_ okn))))))))))))
    all_goals ((try simp (disch := omega) only [SS, hw, hb, hb8, hu8]); first | done | omega | assumption | (simp (disch := omega) only [SS, hw, hb, hb8, hu8] at *; first | done | omega | assumption) | (simp_all; done))
  case rr =>
    clear next
    simp (disch := omega) only [SS, hw, hb, hb8, hu8, Go.Sx.sum, List.length_append, List.length_cons, List.length_nil, Nat.zero_add]
    repeat' apply And.intro
    all_goals first | exact True.intro | with_reducible rfl | omega | exact kK_app T _ _ rfl | exact kC_app T _ _ rfl | exact kO_app T _ _ rfl | exact kL_app T _ _ rfl | exact kU_app T _ _ rfl | exact kM_app T _ _ _ (fun k hk => rfl) rfl | exact gL_cons T _ _ rfl | (intro m hm; exact ⟨gL_cons T _ _ rfl m hm, fun j hj => gB_cons T _ _ m hm j (fun j hj => by first | exact absurd hj (Nat.not_lt_zero _) | rfl | (simp [mk5]; done) | (simp [mk5, appF, subIx]; done)) hj⟩) | (intro k hk; exact app_byte1 body _ _ (by first | exact hb | (simpa [subIx] using hb) | (simp only [subIx, List.tail]; simp_all)) k hk) | (intro k hk; exact kC_app T _ _ (by first | rfl | (simp [mk5]; done) | (simp [mk5]; omega)) k hk) | (simp [subIx, hb]; done) | (simp_all [subIx]; done) | (intros; simp_all; done) | (simp_all; done)

theorem icB_p0 (N M : Nat) (B : Ix → Int) (T : List Tk) (cd op : Nat) (body : List UInt8) (cu : Bool) (i : Nat) (c : UInt8) :
    isMore (evTill Tryd.prog [] 500 (behind Tryd.f33 0) 900 33 (headOf Tryd.f33 0) (envAt Tryd.f33.ntmps ([(4, vP 101), (5, vL 102 5 (T).length), (12, vL 60 1 N), (13, vN N), (14, vN (i : Nat))])) (rB 60 M B ++ (cxE 101 104 5 cd op body cu ++ toK 102 103 T)) ⟨[.s true, .s true, .s true, .s true, .f, .f, .f, .f, .t, .s false, .s false, .t, .t, .t, .s true, .s true], 130⟩) (moreP (headOf Tryd.f33 0) ([((102 : Nat), Rn.to (135 : Nat)), ((103 : Nat), Rn.to (134 : Nat))]) Tryd.f33.ntmps ([(4, vP 101), (5, vL 102 5 ((T ++ [mk5 5 c.toNat op [] false])).length), (12, vL 60 1 N), (13, vN N), (14, vN (i + 1 : Nat))]) (cxN 101 0 0 0 ++ toK 102 103 (T ++ [mk5 5 c.toNat op [] false])) 300) =
    (OkL [(decide ((↑i : Int) < (↑N : Int)), true), (decide ((0 : Int) ≤ (↑i : Int) ∧ (↑i : Int) < (↑N : Int)), true), (((0 : Nat) + (↑i : Int).toNat).blt M, true), (((0 : Nat) + (↑i : Int).toNat).blt M, true), (B [(0 : Nat) + (↑i : Int).toNat] == (255 : Int), false), (B [(0 : Nat) + (↑i : Int).toNat] == (240 : Int), false), (((0 : Nat) + T.length).ble T.length, true), (decide (((2 : Nat) * (T.length + (1 : Nat)) + (192 : Nat)) * (56 : Nat) ≤ (281474976710656 : Nat)), true)] ∧ headOf Tryd.f33 (0 : Nat) = headOf Tryd.f33 (0 : Nat) ∧ ((0 : Nat) = (0 : Nat) ∧ ((0 : Nat) = (0 : Nat) ∧ (T ++ [mk5 (5 : Nat) c.toNat op [] false]).length = T.length + (1 : Nat)) ∧ ((0 : Nat) = (0 : Nat) ∧ N = N) ∧ (↑N : Int) = (↑N : Int) ∧ (↑(i + (1 : Nat)) : Int) = IntKind.i64.wrap ((↑i : Int) + (1 : Int))) ∧ ((↑(0 : Nat) : Int) = (0 : Int) ∧ (0 : Int) = (0 : Int) ∧ (↑(0 : Nat) : Int) = (0 : Int) ∧ (↑(0 : Nat) : Int) = (0 : Int) ∧ True ∧ false = false) ∧ ((T ++ [mk5 (5 : Nat) c.toNat op [] false]).length = T.length + (1 : Nat) ∧ (∀ (i : Nat), i < (T ++ [mk5 (5 : Nat) c.toNat op [] false]).length → kK (T ++ [mk5 (5 : Nat) c.toNat op [] false]) [i] = appF T.length (0 : Nat) (kK T) (fun js => (5 : Int)) [i]) ∧ (∀ (i_1 : Nat), i_1 < (T ++ [mk5 (5 : Nat) c.toNat op [] false]).length → kC (T ++ [mk5 (5 : Nat) c.toNat op [] false]) [i_1] = appF T.length (0 : Nat) (kC T) (fun js => IntKind.i64.wrap (B [(0 : Nat) + (↑i : Int).toNat])) [i_1]) ∧ (∀ (i : Nat), i < (T ++ [mk5 (5 : Nat) c.toNat op [] false]).length → kO (T ++ [mk5 (5 : Nat) c.toNat op [] false]) [i] = appF T.length (0 : Nat) (kO T) (fun js => (↑op : Int)) [i]) ∧ ((∀ (i : Nat), i < (T ++ [mk5 (5 : Nat) c.toNat op [] false]).length → kM (T ++ [mk5 (5 : Nat) c.toNat op [] false]) [i] = appF T.length (0 : Nat) (fun is => kM T is + (1 : Nat)) (fun js => (0 : Nat)) [i]) ∧ ∀ (i : Nat), i < (T ++ [mk5 (5 : Nat) c.toNat op [] false]).length → kL (T ++ [mk5 (5 : Nat) c.toNat op [] false]) [i] = appF T.length (0 : Nat) (kL T) (fun js => (0 : Nat)) [i]) ∧ ∀ (i : Nat), i < (T ++ [mk5 (5 : Nat) c.toNat op [] false]).length → kU (T ++ [mk5 (5 : Nat) c.toNat op [] false]) [i] = appF T.length (0 : Nat) (kU T) (fun js => false) [i]) ∧ (T ++ [mk5 (5 : Nat) c.toNat op [] false]).length = T.length + (1 : Nat) ∧ ∀ (m : Nat), m < (T ++ [mk5 (5 : Nat) c.toNat op [] false]).length → gL (T ++ [mk5 (5 : Nat) c.toNat op [] false]) m = consN (0 : Nat) (gL T) m ∧ ∀ (i : Nat), i < gL (T ++ [mk5 (5 : Nat) c.toNat op [] false]) m → gB (T ++ [mk5 (5 : Nat) c.toNat op [] false]) [m, i] = consF (gB T) (gB T) [m, i]) := by kernel_rfl

set_option maxHeartbeats 4000000 in
theorem icB (N M : Nat) (B : Ix → Int) (T : List Tk) (cd op : Nat) (body : List UInt8) (cu : Bool) (i : Nat) (c : UInt8) (hi : i < N) (hN : N ≤ 400000) (hT : T.length ≤ 400000) (hl : body.length ≤ 256) (hb : B [i] = (c.toNat : Int)) (hc : c.toNat < 256) (hcd : cd < 256) (hop : op < 256) (hM : N ≤ M) (h : c.toNat ≠ 255) (h2 : c.toNat ≠ 240) (hz : 0 < body.length)  (v : SV) (L' : HF) (next : RunsTo Tryd.prog 33 (headOf Tryd.f33 0) (envAt Tryd.f33.ntmps ([(4, vP 101), (5, vL 102 5 ((T ++ [mk5 5 c.toNat op [] false])).length), (12, vL 60 1 N), (13, vN N), (14, vN (i + 1 : Nat))])) (Sx.look (rB 60 M B ++ (cxN 101 0 0 0 ++ toK 102 103 (T ++ [mk5 5 c.toNat op [] false])))) 80 (v) (L') 300) :
    RunsTo Tryd.prog 33 (headOf Tryd.f33 0) (envAt Tryd.f33.ntmps ([(4, vP 101), (5, vL 102 5 (T).length), (12, vL 60 1 N), (13, vN N), (14, vN (i : Nat))])) (Sx.look (rB 60 M B ++ (cxE 101 104 5 cd op body cu ++ toK 102 103 T))) 80 (v) (L') 300 := by
  have hw : IntKind.i64.wrap ((i : Int) + 1) = ((i + 1 : Nat) : Int) := by rw [wr64 (by omega)]; rfl
  have hb8 : IntKind.i64.wrap (c.toNat : Int) = (c.toNat : Int) := wr64 (by omega)
  have hu8 : IntKind.u8.wrap (c.toNat : Int) = (c.toNat : Int) := u8id (by omega)
  refine runs_more baseO (More.of (icB_p0 N M B T cd op body cu i c) ⟨?oo, rfl, ?rr⟩) (by kernel_rfl) (by kernel_rfl) rfl (gtL (by decide)) (by decide) next
  case oo =>
    clear next
    refine (okc ?_ (okc ?_ (okc ?_ (okc ?_ (okc ?_ (okc ?_ (okc ?_ (okc ?_ okn))))))))
    all_goals ((try simp (disch := omega) only [SS, hw, hb, hb8, hu8]); first | done | omega | assumption | (simp (disch := omega) only [SS, hw, hb, hb8, hu8] at *; first | done | omega | assumption) | (simp_all; done))
  case rr =>
    clear next
    simp (disch := omega) only [SS, hw, hb, hb8, hu8, Go.Sx.sum, List.length_append, List.length_cons, List.length_nil, Nat.zero_add]
    repeat' apply And.intro
    all_goals first | exact True.intro | with_reducible rfl | omega | exact kK_app T _ _ rfl | exact kC_app T _ _ rfl | exact kO_app T _ _ rfl | exact kL_app T _ _ rfl | exact kU_app T _ _ rfl | exact kM_app T _ _ _ (fun k hk => rfl) rfl | exact gL_cons T _ _ rfl | (intro m hm; exact ⟨gL_cons T _ _ rfl m hm, fun j hj => gB_cons T _ _ m hm j (fun j hj => by first | exact absurd hj (Nat.not_lt_zero _) | rfl | (simp [mk5]; done) | (simp [mk5, appF, subIx]; done)) hj⟩) | (intro k hk; exact app_byte1 body _ _ (by first | exact hb | (simpa [subIx] using hb) | (simp only [subIx, List.tail]; simp_all)) k hk) | (intro k hk; exact kC_app T _ _ (by first | rfl | (simp [mk5]; done) | (simp [mk5]; omega)) k hk) | (simp [subIx, hb]; done) | (simp_all [subIx]; done) | (intros; simp_all; done) | (simp_all; done)

theorem iaEndN_p0 (N M : Nat) (B : Ix → Int) (T : List Tk) (st cd op : Nat) (body : List UInt8) (cu : Bool) (i : Nat) :
    isEnd (evTill Tryd.prog [] 500 (99) 900 33 (headOf Tryd.f33 0) (envAt Tryd.f33.ntmps ([(4, vP 101), (5, vL 102 5 (T).length), (12, vL 60 1 N), (13, vN N), (14, vN (i : Nat))])) (rB 60 M B ++ (cxN 101 st cd op ++ toK 102 103 T)) ⟨[.s false], 130⟩) (endP ([]) (.tup [(false, .vl 102 (fun _ => 0) 5 [] (fun _ => (T).length)), (false, .vb fun _ => decide (st = 0))]) (toK 102 103 T) 300) =
    (OkL [(decide ((↑i : Int) < (↑N : Int)), false)] ∧ (((0 : Nat) = (0 : Nat) ∧ T.length = T.length) ∧ decide (st = (0 : Nat)) = ((↑st : Int) == (0 : Int)) ∧ True) ∧ (T.length = T.length ∧ (∀ (i : Nat), i < T.length → kK T [i] = kK T [i]) ∧ (∀ (i : Nat), i < T.length → kC T [i] = kC T [i]) ∧ (∀ (i : Nat), i < T.length → kO T [i] = kO T [i]) ∧ ((∀ (i : Nat), i < T.length → kM T [i] = kM T [i]) ∧ ∀ (i : Nat), i < T.length → kL T [i] = kL T [i]) ∧ ∀ (i : Nat), i < T.length → kU T [i] = kU T [i]) ∧ T.length = T.length ∧ ∀ (m : Nat), m < T.length → gL T m = gL T m ∧ ∀ (i : Nat), i < gL T m → gB T [m, i] = gB T [m, i]) := by kernel_rfl

set_option maxHeartbeats 4000000 in
theorem iaEndN (N M : Nat) (B : Ix → Int) (T : List Tk) (st cd op : Nat) (body : List UInt8) (cu : Bool) (i : Nat) (hi : i = N) (hN : N ≤ 400000) (hT : T.length ≤ i)  :
    RunsTo Tryd.prog 33 (headOf Tryd.f33 0) (envAt Tryd.f33.ntmps ([(4, vP 101), (5, vL 102 5 (T).length), (12, vL 60 1 N), (13, vN N), (14, vN (i : Nat))])) (Sx.look (rB 60 M B ++ (cxN 101 st cd op ++ toK 102 103 T))) 80 (.tup [(false, .vl 102 (fun _ => 0) 5 [] (fun _ => (T).length)), (false, .vb fun _ => decide (st = 0))]) (Sx.look (toK 102 103 T)) 300 := by
  refine runs_last baseO (Sx.Ends.of (iaEndN_p0 N M B T st cd op body cu i) ⟨?oo, ?rr⟩) (by kernel_rfl) rfl (gtL (by decide)) (by decide)
  case oo =>
    refine (okc ?_ okn)
    all_goals ((try simp (disch := omega) only [SS]); first | done | omega | assumption | (simp (disch := omega) only [SS] at *; first | done | omega | assumption) | (simp_all; done))
  case rr =>
    try simp (disch := omega) only [SS]
    repeat' apply And.intro
    all_goals first | exact True.intro | with_reducible rfl | omega | (intros; first | exact True.intro | with_reducible rfl | omega | (simp_all; done)) | (simp_all; done) | (rw [Bool.eq_iff_iff]; simp; done) | (rw [Bool.eq_iff_iff]; simp; omega)

theorem iaEnd_p0 (N M : Nat) (B : Ix → Int) (T : List Tk) (st cd op : Nat) (body : List UInt8) (cu : Bool) (i : Nat) :
    isEnd (evTill Tryd.prog [] 500 (99) 900 33 (headOf Tryd.f33 0) (envAt Tryd.f33.ntmps ([(4, vP 101), (5, vL 102 5 (T).length), (12, vL 60 1 N), (13, vN N), (14, vN (i : Nat))])) (rB 60 M B ++ (cxE 101 104 st cd op body cu ++ toK 102 103 T)) ⟨[.s false], 130⟩) (endP ([]) (.tup [(false, .vl 102 (fun _ => 0) 5 [] (fun _ => (T).length)), (false, .vb fun _ => decide (st = 0))]) (toK 102 103 T) 300) =
    (OkL [(decide ((↑i : Int) < (↑N : Int)), false)] ∧ (((0 : Nat) = (0 : Nat) ∧ T.length = T.length) ∧ decide (st = (0 : Nat)) = ((↑st : Int) == (0 : Int)) ∧ True) ∧ (T.length = T.length ∧ (∀ (i : Nat), i < T.length → kK T [i] = kK T [i]) ∧ (∀ (i : Nat), i < T.length → kC T [i] = kC T [i]) ∧ (∀ (i : Nat), i < T.length → kO T [i] = kO T [i]) ∧ ((∀ (i : Nat), i < T.length → kM T [i] = kM T [i]) ∧ ∀ (i : Nat), i < T.length → kL T [i] = kL T [i]) ∧ ∀ (i : Nat), i < T.length → kU T [i] = kU T [i]) ∧ T.length = T.length ∧ ∀ (m : Nat), m < T.length → gL T m = gL T m ∧ ∀ (i : Nat), i < gL T m → gB T [m, i] = gB T [m, i]) := by kernel_rfl

set_option maxHeartbeats 4000000 in
theorem iaEnd (N M : Nat) (B : Ix → Int) (T : List Tk) (st cd op : Nat) (body : List UInt8) (cu : Bool) (i : Nat) (hi : i = N) (hN : N ≤ 400000) (hT : T.length ≤ i)  :
    RunsTo Tryd.prog 33 (headOf Tryd.f33 0) (envAt Tryd.f33.ntmps ([(4, vP 101), (5, vL 102 5 (T).length), (12, vL 60 1 N), (13, vN N), (14, vN (i : Nat))])) (Sx.look (rB 60 M B ++ (cxE 101 104 st cd op body cu ++ toK 102 103 T))) 80 (.tup [(false, .vl 102 (fun _ => 0) 5 [] (fun _ => (T).length)), (false, .vb fun _ => decide (st = 0))]) (Sx.look (toK 102 103 T)) 300 := by
  refine runs_last baseO (Sx.Ends.of (iaEnd_p0 N M B T st cd op body cu i) ⟨?oo, ?rr⟩) (by kernel_rfl) rfl (gtL (by decide)) (by decide)
  case oo =>
    refine (okc ?_ okn)
    all_goals ((try simp (disch := omega) only [SS]); first | done | omega | assumption | (simp (disch := omega) only [SS] at *; first | done | omega | assumption) | (simp_all; done))
  case rr =>
    try simp (disch := omega) only [SS]
    repeat' apply And.intro
    all_goals first | exact True.intro | with_reducible rfl | omega | (intros; first | exact True.intro | with_reducible rfl | omega | (simp_all; done)) | (simp_all; done) | (rw [Bool.eq_iff_iff]; simp; done) | (rw [Bool.eq_iff_iff]; simp; omega)

end Go.Proofs.YtcphocfnhekdaaaDoor

set_option linter.unusedSimpArgs false
set_option linter.unusedVariables false
set_option maxRecDepth 100000
namespace Go.Proofs.YtcphocfnhekdaaaDoor
open Go.Sx

open GramR
def cxM (p l st cd op : Nat) (u : Bool) : List UInt8 → List Ent
  | [] => cxN p st cd op
  | c :: r => cxE p l st cd op (c :: r) u
theorem cxM_app (p l st cd op : Nat) (u : Bool) (a : UInt8) (r : List UInt8) (x : UInt8) : cxM p l st cd op u (a :: r ++ [x]) = cxE p l st cd op (a :: r ++ [x]) u := rfl
theorem u8eq' {c k : UInt8} (h : c.toNat = k.toNat) : c = k := UInt8.toNat_inj.1 h
theorem u8ne' {c k : UInt8} (h : c.toNat ≠ k.toNat) : c ≠ k := fun e => h (by rw [e])
theorem xaLoop (N M : Nat) (B : Ix → Int) (bs : List UInt8) (hN : N ≤ 400000) (hM : N ≤ M) (hlen : bs.length = N) (hB : ∀ i, i < N → B [i] = ((bs.getD i 0).toNat : Int)) :
    ∀ (k i : Nat) (T : List Tk) (m : Mc), i + k = N → T.length ≤ i → m.body.length ≤ 256 → m.code < 256 → m.opt < 256 → m.st ≤ 5 → (m.st < 4 → m.body = []) → (m.body = [] → m.cut = false) → RunsTo Tryd.prog 33 (headOf Tryd.f33 0) (envAt Tryd.f33.ntmps ([(4, vP 101), (5, vL 102 5 (T).length), (12, vL 60 1 N), (13, vN N), (14, vN (i : Nat))])) (Sx.look (rB 60 M B ++ (cxM 101 104 m.st m.code m.opt m.cut m.body ++ toK 102 103 T))) 80 (.tup [(false, .vl 102 (fun _ => 0) 5 [] (fun _ => ((T ++ (runC m (bs.drop i)).1)).length)), (false, .vb fun _ => decide ((runC m (bs.drop i)).2.st = 0))]) (Sx.look (toK 102 103 (T ++ (runC m (bs.drop i)).1))) 300 := by
  intro k
  induction k with
  | zero =>
    intro i T m hi hT hl hcd hop hst hbn hcb
    rw [show bs.drop i = [] from List.drop_eq_nil_of_le (by omega)]
    simp only [runC, List.append_nil]
    obtain ⟨st, cd, op, body, cu⟩ := m
    cases body with
    | nil => exact iaEndN N M B T st cd op [] cu i (by omega) hN hT
    | cons a r => exact iaEnd N M B T st cd op (a :: r) cu i (by omega) hN hT
  | succ k ih =>
    intro i T m hi hT hl hcd hop hst hbn hcb
    have hi' : i < N := by omega
    have hd : bs.drop i = bs.getD i 0 :: bs.drop (i + 1) := by
      rw [List.drop_eq_getElem_cons (by omega), List.getD_eq_getElem?_getD, List.getElem?_eq_getElem (by omega), Option.getD_some]
    have hb := hB i hi'
    generalize bs.getD i 0 = c at hd hb
    rw [hd]
    have hc := c.toNat_lt
    have hT2 : T.length ≤ 400000 := by omega
    obtain ⟨st, cd, op, body, cu⟩ := m
    simp only at hl hcd hop hst hbn hcb
    rcases (by omega : st = 0 ∨ st = 1 ∨ st = 2 ∨ st = 3 ∨ st = 4 ∨ st = 5) with rfl | rfl | rfl | rfl | rfl | rfl
    · obtain rfl : body = [] := hbn (by omega)
      have hcz : cu = false := hcb rfl
      by_cases h : c.toNat = 255
      · have e : c = 255 := u8eq' h
        have hf' : feedC ⟨0, cd, op, [], cu⟩ c = (⟨1, cd, op, [], cu⟩, none) := by simp [feedC, addC, mk5, Mc0, e, hcz]
        rw [runC_n hf']
        exact in0 N M B T cd op [] cu i c hi' hN hT2 hl hb hc hcd hop hM h _ _ (ih (i + 1) T (⟨1, cd, op, [], cu⟩ : Mc) (by omega) (by first | omega | (simp only [Mc0, List.length_append, List.length_cons, List.length_nil] at *; omega)) (by first | omega | (simp only [Mc0, List.length_append, List.length_cons, List.length_nil] at *; omega)) (by first | omega | (simp only [Mc0, List.length_append, List.length_cons, List.length_nil] at *; omega)) (by first | omega | (simp only [Mc0, List.length_append, List.length_cons, List.length_nil] at *; omega)) (by first | omega | (simp only [Mc0, List.length_append, List.length_cons, List.length_nil] at *; omega)) (by first | (intro _; rfl) | (intro h; simp at h)) (by first | exact fun _ => hcz | exact fun _ => rfl | (intro h; simp at h; done) | (intro h; simp [Mc0] at h; done)))
      · have n1 : c ≠ 255 := u8ne' h
        have hf' : feedC ⟨0, cd, op, [], cu⟩ c = (Mc0, some (mk5 1 c.toNat 0 [] false)) := by simp [feedC, addC, mk5, Mc0, n1, hcz]
        rw [runC_s hf', List.append_cons]
        exact id0 N M B T cd op [] cu i c hi' hN hT2 hl hb hc hcd hop hM h _ _ (ih (i + 1) (T ++ [mk5 1 c.toNat 0 [] false]) (Mc0 : Mc) (by omega) (by first | omega | (simp only [Mc0, List.length_append, List.length_cons, List.length_nil] at *; omega)) (by first | omega | (simp only [Mc0, List.length_append, List.length_cons, List.length_nil] at *; omega)) (by first | omega | (simp only [Mc0, List.length_append, List.length_cons, List.length_nil] at *; omega)) (by first | omega | (simp only [Mc0, List.length_append, List.length_cons, List.length_nil] at *; omega)) (by first | omega | (simp only [Mc0, List.length_append, List.length_cons, List.length_nil] at *; omega)) (by first | (intro _; rfl) | (intro h; simp at h)) (by first | exact fun _ => hcz | exact fun _ => rfl | (intro h; simp at h; done) | (intro h; simp [Mc0] at h; done)))
    · obtain rfl : body = [] := hbn (by omega)
      have hcz : cu = false := hcb rfl
      by_cases h : c.toNat = 255
      · have e : c = 255 := u8eq' h
        have hf' : feedC ⟨1, cd, op, [], cu⟩ c = (Mc0, some (mk5 1 255 0 [] false)) := by simp [feedC, addC, mk5, Mc0, e, hcz]
        rw [runC_s hf', List.append_cons]
        exact id1 N M B T cd op [] cu i c hi' hN hT2 hl hb hc hcd hop hM h _ _ (ih (i + 1) (T ++ [mk5 1 255 0 [] false]) (Mc0 : Mc) (by omega) (by first | omega | (simp only [Mc0, List.length_append, List.length_cons, List.length_nil] at *; omega)) (by first | omega | (simp only [Mc0, List.length_append, List.length_cons, List.length_nil] at *; omega)) (by first | omega | (simp only [Mc0, List.length_append, List.length_cons, List.length_nil] at *; omega)) (by first | omega | (simp only [Mc0, List.length_append, List.length_cons, List.length_nil] at *; omega)) (by first | omega | (simp only [Mc0, List.length_append, List.length_cons, List.length_nil] at *; omega)) (by first | (intro _; rfl) | (intro h; simp at h)) (by first | exact fun _ => hcz | exact fun _ => rfl | (intro h; simp at h; done) | (intro h; simp [Mc0] at h; done)))
      have n1 : c ≠ 255 := u8ne' h
      by_cases h2 : c.toNat = 250
      · have e2 : c = 250 := u8eq' h2
        have hf' : feedC ⟨1, cd, op, [], cu⟩ c = (⟨3, cd, op, [], cu⟩, none) := by simp [feedC, addC, mk5, Mc0, e2, hcz]
        rw [runC_n hf']
        exact in1s N M B T cd op [] cu i c hi' hN hT2 hl hb hc hcd hop hM h2 _ _ (ih (i + 1) T (⟨3, cd, op, [], cu⟩ : Mc) (by omega) (by first | omega | (simp only [Mc0, List.length_append, List.length_cons, List.length_nil] at *; omega)) (by first | omega | (simp only [Mc0, List.length_append, List.length_cons, List.length_nil] at *; omega)) (by first | omega | (simp only [Mc0, List.length_append, List.length_cons, List.length_nil] at *; omega)) (by first | omega | (simp only [Mc0, List.length_append, List.length_cons, List.length_nil] at *; omega)) (by first | omega | (simp only [Mc0, List.length_append, List.length_cons, List.length_nil] at *; omega)) (by first | (intro _; rfl) | (intro h; simp at h)) (by first | exact fun _ => hcz | exact fun _ => rfl | (intro h; simp at h; done) | (intro h; simp [Mc0] at h; done)))
      have n2 : c ≠ 250 := u8ne' h2
      by_cases h4 : 251 ≤ c.toNat ∧ c.toNat ≤ 254
      · have hf' : feedC ⟨1, cd, op, [], cu⟩ c = (⟨2, c.toNat, 0, [], false⟩, none) := by simp [feedC, addC, mk5, Mc0, n1, n2, h4.1, h4.2, hcz]
        rw [runC_n hf']
        exact in1v N M B T cd op [] cu i c hi' hN hT2 hl hb hc hcd hop hM h4 _ _ (ih (i + 1) T (⟨2, c.toNat, 0, [], false⟩ : Mc) (by omega) (by first | omega | (simp only [Mc0, List.length_append, List.length_cons, List.length_nil] at *; omega)) (by first | omega | (simp only [Mc0, List.length_append, List.length_cons, List.length_nil] at *; omega)) (by first | omega | (simp only [Mc0, List.length_append, List.length_cons, List.length_nil] at *; omega)) (by first | omega | (simp only [Mc0, List.length_append, List.length_cons, List.length_nil] at *; omega)) (by first | omega | (simp only [Mc0, List.length_append, List.length_cons, List.length_nil] at *; omega)) (by first | (intro _; rfl) | (intro h; simp at h)) (by first | exact fun _ => hcz | exact fun _ => rfl | (intro h; simp at h; done) | (intro h; simp [Mc0] at h; done)))
      · have n3 : ¬ (251 ≤ c.toNat ∧ c.toNat ≤ 254) := h4
        have hf' : feedC ⟨1, cd, op, [], cu⟩ c = (Mc0, some (mk5 2 c.toNat 0 [] false)) := by simp [feedC, addC, mk5, Mc0, n1, n2, n3, hcz]
        rw [runC_s hf', List.append_cons]
        exact icP N M B T cd op [] cu i c hi' hN hT2 hl hb hc hcd hop hM (by omega) _ _ (ih (i + 1) (T ++ [mk5 2 c.toNat 0 [] false]) (Mc0 : Mc) (by omega) (by first | omega | (simp only [Mc0, List.length_append, List.length_cons, List.length_nil] at *; omega)) (by first | omega | (simp only [Mc0, List.length_append, List.length_cons, List.length_nil] at *; omega)) (by first | omega | (simp only [Mc0, List.length_append, List.length_cons, List.length_nil] at *; omega)) (by first | omega | (simp only [Mc0, List.length_append, List.length_cons, List.length_nil] at *; omega)) (by first | omega | (simp only [Mc0, List.length_append, List.length_cons, List.length_nil] at *; omega)) (by first | (intro _; rfl) | (intro h; simp at h)) (by first | exact fun _ => hcz | exact fun _ => rfl | (intro h; simp at h; done) | (intro h; simp [Mc0] at h; done)))
    · obtain rfl : body = [] := hbn (by omega)
      have hcz : cu = false := hcb rfl
      have hf' : feedC ⟨2, cd, op, [], cu⟩ c = (Mc0, some (mk5 3 cd c.toNat [] false)) := by simp [feedC, addC, mk5, Mc0, hcz]
      rw [runC_s hf', List.append_cons]
      exact icV N M B T cd op [] cu i c hi' hN hT2 hl hb hc hcd hop hM _ _ (ih (i + 1) (T ++ [mk5 3 cd c.toNat [] false]) (Mc0 : Mc) (by omega) (by first | omega | (simp only [Mc0, List.length_append, List.length_cons, List.length_nil] at *; omega)) (by first | omega | (simp only [Mc0, List.length_append, List.length_cons, List.length_nil] at *; omega)) (by first | omega | (simp only [Mc0, List.length_append, List.length_cons, List.length_nil] at *; omega)) (by first | omega | (simp only [Mc0, List.length_append, List.length_cons, List.length_nil] at *; omega)) (by first | omega | (simp only [Mc0, List.length_append, List.length_cons, List.length_nil] at *; omega)) (by first | (intro _; rfl) | (intro h; simp at h)) (by first | exact fun _ => hcz | exact fun _ => rfl | (intro h; simp at h; done) | (intro h; simp [Mc0] at h; done)))
    · obtain rfl : body = [] := hbn (by omega)
      have hcz : cu = false := hcb rfl
      have hf' : feedC ⟨3, cd, op, [], cu⟩ c = (⟨4, 0, c.toNat, [], false⟩, none) := by simp [feedC, addC, mk5, Mc0, hcz]
      rw [runC_n hf']
      exact in3 N M B T cd op [] cu i c hi' hN hT2 hl hb hc hcd hop hM _ _ (ih (i + 1) T (⟨4, 0, c.toNat, [], false⟩ : Mc) (by omega) (by first | omega | (simp only [Mc0, List.length_append, List.length_cons, List.length_nil] at *; omega)) (by first | omega | (simp only [Mc0, List.length_append, List.length_cons, List.length_nil] at *; omega)) (by first | omega | (simp only [Mc0, List.length_append, List.length_cons, List.length_nil] at *; omega)) (by first | omega | (simp only [Mc0, List.length_append, List.length_cons, List.length_nil] at *; omega)) (by first | omega | (simp only [Mc0, List.length_append, List.length_cons, List.length_nil] at *; omega)) (by first | (intro _; rfl) | (intro h; simp at h)) (by first | exact fun _ => hcz | exact fun _ => rfl | (intro h; simp at h; done) | (intro h; simp [Mc0] at h; done)))
    · cases body with
      | nil =>
        have hcz : cu = false := hcb rfl
        by_cases h : c.toNat = 255
        · have e : c = 255 := u8eq' h
          have hf' : feedC ⟨4, cd, op, [], cu⟩ c = (⟨5, cd, op, [], cu⟩, none) := by simp [feedC, addC, mk5, Mc0, e, hcz]
          rw [runC_n hf']
          exact in4eN N M B T cd op [] cu i c hi' hN hT2 hl hb hc hcd hop hM h _ _ (ih (i + 1) T (⟨5, cd, op, [], cu⟩ : Mc) (by omega) (by first | omega | (simp only [Mc0, List.length_append, List.length_cons, List.length_nil] at *; omega)) (by first | omega | (simp only [Mc0, List.length_append, List.length_cons, List.length_nil] at *; omega)) (by first | omega | (simp only [Mc0, List.length_append, List.length_cons, List.length_nil] at *; omega)) (by first | omega | (simp only [Mc0, List.length_append, List.length_cons, List.length_nil] at *; omega)) (by first | omega | (simp only [Mc0, List.length_append, List.length_cons, List.length_nil] at *; omega)) (by first | (intro _; rfl) | (intro h; simp at h)) (by first | exact fun _ => hcz | exact fun _ => rfl | (intro h; simp at h; done) | (intro h; simp [Mc0] at h; done)))
        · have n1 : c ≠ 255 := u8ne' h
          have hf' : feedC ⟨4, cd, op, [], cu⟩ c = (⟨4, cd, op, [c], false⟩, none) := by simp [feedC, addC, mk5, Mc0, n1, hcz]
          rw [runC_n hf']
          exact in4N N M B T cd op [] cu i c hi' hN hT2 hl hb hc hcd hop hM h _ _ (ih (i + 1) T (⟨4, cd, op, [c], false⟩ : Mc) (by omega) (by first | omega | (simp only [Mc0, List.length_append, List.length_cons, List.length_nil] at *; omega)) (by first | omega | (simp only [Mc0, List.length_append, List.length_cons, List.length_nil] at *; omega)) (by first | omega | (simp only [Mc0, List.length_append, List.length_cons, List.length_nil] at *; omega)) (by first | omega | (simp only [Mc0, List.length_append, List.length_cons, List.length_nil] at *; omega)) (by first | omega | (simp only [Mc0, List.length_append, List.length_cons, List.length_nil] at *; omega)) (by first | (intro _; rfl) | (intro h; simp at h)) (by first | exact fun _ => hcz | exact fun _ => rfl | (intro h; simp at h; done) | (intro h; simp [Mc0] at h; done)))
      | cons a r =>
        by_cases h : c.toNat = 255
        · have e : c = 255 := u8eq' h
          have hf' : feedC ⟨4, cd, op, (a :: r), cu⟩ c = (⟨5, cd, op, a :: r, cu⟩, none) := by simp [feedC, addC, mk5, Mc0, e]
          rw [runC_n hf']
          exact in4e N M B T cd op (a :: r) cu i c hi' hN hT2 hl hb hc hcd hop hM h (by simp) _ _ (ih (i + 1) T (⟨5, cd, op, a :: r, cu⟩ : Mc) (by omega) (by first | omega | (simp only [Mc0, List.length_append, List.length_cons, List.length_nil] at *; omega)) (by first | omega | (simp only [Mc0, List.length_append, List.length_cons, List.length_nil] at *; omega)) (by first | omega | (simp only [Mc0, List.length_append, List.length_cons, List.length_nil] at *; omega)) (by first | omega | (simp only [Mc0, List.length_append, List.length_cons, List.length_nil] at *; omega)) (by first | omega | (simp only [Mc0, List.length_append, List.length_cons, List.length_nil] at *; omega)) (by first | (intro _; rfl) | (intro h; simp at h)) (by first | exact fun _ => hcz | exact fun _ => rfl | (intro h; simp at h; done) | (intro h; simp [Mc0] at h; done)))
        · have n1 : c ≠ 255 := u8ne' h
          by_cases hf : (a :: r).length < 256
          · have hf' : feedC ⟨4, cd, op, (a :: r), cu⟩ c = (⟨4, cd, op, a :: r ++ [c], cu⟩, none) := by simp [feedC, addC, mk5, Mc0, n1, hf] <;> simp_all <;> omega
            rw [runC_n hf']
            have q := ih (i + 1) T (⟨4, cd, op, a :: r ++ [c], cu⟩ : Mc) (by omega) (by first | omega | (simp only [Mc0, List.length_append, List.length_cons, List.length_nil] at *; omega)) (by first | omega | (simp only [Mc0, List.length_append, List.length_cons, List.length_nil] at *; omega)) (by first | omega | (simp only [Mc0, List.length_append, List.length_cons, List.length_nil] at *; omega)) (by first | omega | (simp only [Mc0, List.length_append, List.length_cons, List.length_nil] at *; omega)) (by first | omega | (simp only [Mc0, List.length_append, List.length_cons, List.length_nil] at *; omega)) (by intro h; simp at h) (by intro h; simp at h)
            dsimp only at q
            rw [cxM_app] at q
            exact in4 N M B T cd op (a :: r) cu i c hi' hN hT2 hl hb hc hcd hop hM h hf (by simp) _ _ q
          · have hf : 256 ≤ (a :: r).length := by omega
            have hf' : feedC ⟨4, cd, op, (a :: r), cu⟩ c = (⟨4, cd, op, a :: r, true⟩, none) := by simp [feedC, addC, mk5, Mc0, n1, hf] <;> simp_all <;> omega
            rw [runC_n hf']
            exact in4c N M B T cd op (a :: r) cu i c hi' hN hT2 hl hb hc hcd hop hM h hf (by simp) _ _ (ih (i + 1) T (⟨4, cd, op, a :: r, true⟩ : Mc) (by omega) (by first | omega | (simp only [Mc0, List.length_append, List.length_cons, List.length_nil] at *; omega)) (by first | omega | (simp only [Mc0, List.length_append, List.length_cons, List.length_nil] at *; omega)) (by first | omega | (simp only [Mc0, List.length_append, List.length_cons, List.length_nil] at *; omega)) (by first | omega | (simp only [Mc0, List.length_append, List.length_cons, List.length_nil] at *; omega)) (by first | omega | (simp only [Mc0, List.length_append, List.length_cons, List.length_nil] at *; omega)) (by first | (intro _; rfl) | (intro h; simp at h)) (by first | exact fun _ => hcz | exact fun _ => rfl | (intro h; simp at h; done) | (intro h; simp [Mc0] at h; done)))
    · cases body with
      | nil =>
        have hcz : cu = false := hcb rfl
        by_cases h : c.toNat = 255
        · have e : c = 255 := u8eq' h
          have hf' : feedC ⟨5, cd, op, [], cu⟩ c = (⟨4, cd, op, [255], false⟩, none) := by simp [feedC, addC, mk5, Mc0, e, hcz]
          rw [runC_n hf']
          exact in5eN N M B T cd op [] cu i c hi' hN hT2 hl hb hc hcd hop hM h _ _ (ih (i + 1) T (⟨4, cd, op, [255], false⟩ : Mc) (by omega) (by first | omega | (simp only [Mc0, List.length_append, List.length_cons, List.length_nil] at *; omega)) (by first | omega | (simp only [Mc0, List.length_append, List.length_cons, List.length_nil] at *; omega)) (by first | omega | (simp only [Mc0, List.length_append, List.length_cons, List.length_nil] at *; omega)) (by first | omega | (simp only [Mc0, List.length_append, List.length_cons, List.length_nil] at *; omega)) (by first | omega | (simp only [Mc0, List.length_append, List.length_cons, List.length_nil] at *; omega)) (by first | (intro _; rfl) | (intro h; simp at h)) (by first | exact fun _ => hcz | exact fun _ => rfl | (intro h; simp at h; done) | (intro h; simp [Mc0] at h; done)))
        have n1 : c ≠ 255 := u8ne' h
        by_cases h2 : c.toNat = 240
        · have e2 : c = 240 := u8eq' h2
          have hf' : feedC ⟨5, cd, op, [], cu⟩ c = (Mc0, some (mk5 4 cd op [] false)) := by simp [feedC, addC, mk5, Mc0, e2, hcz]
          rw [runC_s hf', List.append_cons]
          exact icSN N M B T cd op [] cu i c hi' hN hT2 hl hb hc hcd hop hM h2 _ _ (ih (i + 1) (T ++ [mk5 4 cd op [] false]) (Mc0 : Mc) (by omega) (by first | omega | (simp only [Mc0, List.length_append, List.length_cons, List.length_nil] at *; omega)) (by first | omega | (simp only [Mc0, List.length_append, List.length_cons, List.length_nil] at *; omega)) (by first | omega | (simp only [Mc0, List.length_append, List.length_cons, List.length_nil] at *; omega)) (by first | omega | (simp only [Mc0, List.length_append, List.length_cons, List.length_nil] at *; omega)) (by first | omega | (simp only [Mc0, List.length_append, List.length_cons, List.length_nil] at *; omega)) (by first | (intro _; rfl) | (intro h; simp at h)) (by first | exact fun _ => hcz | exact fun _ => rfl | (intro h; simp at h; done) | (intro h; simp [Mc0] at h; done)))
        · have n2 : c ≠ 240 := u8ne' h2
          have hf' : feedC ⟨5, cd, op, [], cu⟩ c = (Mc0, some (mk5 5 c.toNat op [] false)) := by simp [feedC, addC, mk5, Mc0, n1, n2, hcz]
          rw [runC_s hf', List.append_cons]
          exact icBN N M B T cd op [] cu i c hi' hN hT2 hl hb hc hcd hop hM h h2 _ _ (ih (i + 1) (T ++ [mk5 5 c.toNat op [] false]) (Mc0 : Mc) (by omega) (by first | omega | (simp only [Mc0, List.length_append, List.length_cons, List.length_nil] at *; omega)) (by first | omega | (simp only [Mc0, List.length_append, List.length_cons, List.length_nil] at *; omega)) (by first | omega | (simp only [Mc0, List.length_append, List.length_cons, List.length_nil] at *; omega)) (by first | omega | (simp only [Mc0, List.length_append, List.length_cons, List.length_nil] at *; omega)) (by first | omega | (simp only [Mc0, List.length_append, List.length_cons, List.length_nil] at *; omega)) (by first | (intro _; rfl) | (intro h; simp at h)) (by first | exact fun _ => hcz | exact fun _ => rfl | (intro h; simp at h; done) | (intro h; simp [Mc0] at h; done)))
      | cons a r =>
        by_cases h : c.toNat = 255
        · have e : c = 255 := u8eq' h
          by_cases hf : (a :: r).length < 256
          · have hf' : feedC ⟨5, cd, op, (a :: r), cu⟩ c = (⟨4, cd, op, a :: r ++ [255], cu⟩, none) := by simp [feedC, addC, mk5, Mc0, e, hf] <;> simp_all <;> omega
            rw [runC_n hf']
            have q := ih (i + 1) T (⟨4, cd, op, a :: r ++ [255], cu⟩ : Mc) (by omega) (by first | omega | (simp only [Mc0, List.length_append, List.length_cons, List.length_nil] at *; omega)) (by first | omega | (simp only [Mc0, List.length_append, List.length_cons, List.length_nil] at *; omega)) (by first | omega | (simp only [Mc0, List.length_append, List.length_cons, List.length_nil] at *; omega)) (by first | omega | (simp only [Mc0, List.length_append, List.length_cons, List.length_nil] at *; omega)) (by first | omega | (simp only [Mc0, List.length_append, List.length_cons, List.length_nil] at *; omega)) (by intro h; simp at h) (by intro h; simp at h)
            dsimp only at q
            rw [cxM_app] at q
            exact in5e N M B T cd op (a :: r) cu i c hi' hN hT2 hl hb hc hcd hop hM h hf (by simp) _ _ q
          · have hf : 256 ≤ (a :: r).length := by omega
            have hf' : feedC ⟨5, cd, op, (a :: r), cu⟩ c = (⟨4, cd, op, a :: r, true⟩, none) := by simp [feedC, addC, mk5, Mc0, e, hf] <;> simp_all <;> omega
            rw [runC_n hf']
            exact in5c N M B T cd op (a :: r) cu i c hi' hN hT2 hl hb hc hcd hop hM h hf (by simp) _ _ (ih (i + 1) T (⟨4, cd, op, a :: r, true⟩ : Mc) (by omega) (by first | omega | (simp only [Mc0, List.length_append, List.length_cons, List.length_nil] at *; omega)) (by first | omega | (simp only [Mc0, List.length_append, List.length_cons, List.length_nil] at *; omega)) (by first | omega | (simp only [Mc0, List.length_append, List.length_cons, List.length_nil] at *; omega)) (by first | omega | (simp only [Mc0, List.length_append, List.length_cons, List.length_nil] at *; omega)) (by first | omega | (simp only [Mc0, List.length_append, List.length_cons, List.length_nil] at *; omega)) (by first | (intro _; rfl) | (intro h; simp at h)) (by first | exact fun _ => hcz | exact fun _ => rfl | (intro h; simp at h; done) | (intro h; simp [Mc0] at h; done)))
        have n1 : c ≠ 255 := u8ne' h
        by_cases h2 : c.toNat = 240
        · have e2 : c = 240 := u8eq' h2
          have hf' : feedC ⟨5, cd, op, (a :: r), cu⟩ c = (Mc0, some (mk5 4 cd op (a :: r) cu)) := by simp [feedC, addC, mk5, Mc0, e2]
          rw [runC_s hf', List.append_cons]
          exact icS N M B T cd op (a :: r) cu i c hi' hN hT2 hl hb hc hcd hop hM h2 (by simp) _ _ (ih (i + 1) (T ++ [mk5 4 cd op (a :: r) cu]) (Mc0 : Mc) (by omega) (by first | omega | (simp only [Mc0, List.length_append, List.length_cons, List.length_nil] at *; omega)) (by first | omega | (simp only [Mc0, List.length_append, List.length_cons, List.length_nil] at *; omega)) (by first | omega | (simp only [Mc0, List.length_append, List.length_cons, List.length_nil] at *; omega)) (by first | omega | (simp only [Mc0, List.length_append, List.length_cons, List.length_nil] at *; omega)) (by first | omega | (simp only [Mc0, List.length_append, List.length_cons, List.length_nil] at *; omega)) (by first | (intro _; rfl) | (intro h; simp at h)) (by first | exact fun _ => hcz | exact fun _ => rfl | (intro h; simp at h; done) | (intro h; simp [Mc0] at h; done)))
        · have n2 : c ≠ 240 := u8ne' h2
          have hf' : feedC ⟨5, cd, op, (a :: r), cu⟩ c = (Mc0, some (mk5 5 c.toNat op [] false)) := by simp [feedC, addC, mk5, Mc0, n1, n2]
          rw [runC_s hf', List.append_cons]
          exact icB N M B T cd op (a :: r) cu i c hi' hN hT2 hl hb hc hcd hop hM h h2 (by simp) _ _ (ih (i + 1) (T ++ [mk5 5 c.toNat op [] false]) (Mc0 : Mc) (by omega) (by first | omega | (simp only [Mc0, List.length_append, List.length_cons, List.length_nil] at *; omega)) (by first | omega | (simp only [Mc0, List.length_append, List.length_cons, List.length_nil] at *; omega)) (by first | omega | (simp only [Mc0, List.length_append, List.length_cons, List.length_nil] at *; omega)) (by first | omega | (simp only [Mc0, List.length_append, List.length_cons, List.length_nil] at *; omega)) (by first | omega | (simp only [Mc0, List.length_append, List.length_cons, List.length_nil] at *; omega)) (by first | (intro _; rfl) | (intro h; simp at h)) (by first | exact fun _ => hcz | exact fun _ => rfl | (intro h; simp at h; done) | (intro h; simp [Mc0] at h; done)))
def xaT (N : Nat) (B : Ix → Int) : List Tk := (runC Mc0 (bytesOf B [] 0 N)).1
def xaL (N : Nat) (B : Ix → Int) : Bool := decide ((runC Mc0 (bytesOf B [] 0 N)).2.st = 0)
theorem xaI (N M : Nat) (B : Ix → Int) (hN : N ≤ 400000) (hM : N ≤ M) (hB : bndB B N = true) : RunsTo Tryd.prog 33 [.code (bodyOf Tryd.f33)] (envOf [vL 60 1 N] Tryd.f33.ntmps) (Sx.look (rB 60 M B ++ ([]))) 80 (.tup [(false, .vl 102 (fun _ => 0) 5 [] (fun _ => (xaT N B).length)), (false, .vb fun _ => xaL N B)]) (Sx.look (toK 102 103 (xaT N B))) 300 := by
  have q := xaLoop N M B (bytesOf B [] 0 N) hN hM (bytesOf_len _ _ _ _) (fun i hi => by have h0 := bndB_ok hB hi; have := bytesOf_nat (B := B) (is := []) (st := 0) (n := N) hi (by simpa using h0); simpa using this.symm) N 0 [] Mc0 (by omega) (by simp) (by simp [Mc0]) (by simp [Mc0]) (by simp [Mc0]) (by simp [Mc0]) (fun _ => rfl) (fun _ => rfl)
  rw [List.drop_zero, List.nil_append] at q
  exact iaStart N M B _ _ q
def xaP : PC := { args := [.v (.vl 60 1 0)], heap := [⟨60, false, 1, .ta 9 (.vi .u8 1)⟩], gs := [], G := 19, tp := 144, n := 80, n' := 300, cond := fun e => decide (eN e 0 ≤ 400000) && (decide (eN e 0 ≤ eN e 9) && bndB (eI e 1) (eN e 0)), v := fun e => .tup [(false, .vl 102 (fun _ => 0) 5 [] (fun _ => (xaT (eN e 0) (eI e 1)).length)), (false, .vb fun _ => xaL (eN e 0) (eI e 1))], post := fun e => toK 102 103 (xaT (eN e 0) (eI e 1)) }
theorem xaP_pc : PC.Runs Tryd.prog 33 Tryd.f33 (bodyOf Tryd.f33) xaP := ⟨Tryd.func33, by kernel_rfl, (fun g hg => by first | (cases hg; done) | (revert g; show ∀ g ∈ ([] : List Nat), g < 19; decide)), fun e H hc => by
  have hc : (decide (eN e 0 ≤ 400000) && (decide (eN e 0 ≤ eN e 9) && bndB (eI e 1) (eN e 0))) = true := hc
  try simp only [Bool.and_eq_true, decide_eq_true_eq, Nat.beq_eq] at hc
  exact xaI (eN e 0) (eN e 9) (eI e 1) hc.1 hc.2.1 hc.2.2⟩
end Go.Proofs.YtcphocfnhekdaaaDoor

