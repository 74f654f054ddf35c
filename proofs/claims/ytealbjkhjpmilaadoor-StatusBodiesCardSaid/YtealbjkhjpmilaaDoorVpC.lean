/- Codes: names, in plain words. -/
import Derived.Test.YtealbjkhjpmilaaDoorChecked
set_option linter.unusedVariables false
namespace Go.Proofs.YtealbjkhjpmilaaDoor.DecR
/-- A number's figures, below 1000. -/
def dec (n : Nat) : List UInt8 := if n < 10 then [UInt8.ofNat (48 + n)] else if n < 100 then [UInt8.ofNat (48 + n / 10), UInt8.ofNat (48 + n % 10)] else [UInt8.ofNat (48 + n / 100), UInt8.ofNat (48 + n / 10 % 10), UInt8.ofNat (48 + n % 10)]
def isD (c : UInt8) : Bool := decide (48 ≤ c.toNat) && decide (c.toNat ≤ 57)
def figB (s : List UInt8) : Bool := s.all isD && (!s.isEmpty && (decide (s.length ≤ 3) && (decide (s.length = 1) || !decide ((s.getD 0 0) = 48))))
def valD (s : List UInt8) : Nat := s.foldl (fun n c => n * 10 + (c.toNat - 48)) 0

theorem u8 (k : Nat) (h : k < 256) : (UInt8.ofNat k).toNat = k := by simp; omega
theorem u8e {c : UInt8} (h : isD c = true) : ∃ k, k < 10 ∧ c = UInt8.ofNat (48 + k) := by
  simp only [isD, Bool.and_eq_true, decide_eq_true_eq] at h
  refine ⟨c.toNat - 48, by omega, ?_⟩
  apply UInt8.toNat_inj.1
  rw [u8 _ (by omega)]; omega

theorem val_dec (n : Nat) (h : n < 1000) : valD (dec n) = n := by
  unfold dec
  split
  · simp only [valD, List.foldl_cons, List.foldl_nil, u8 _ (show 48 + n < 256 by omega)]; omega
  · split
    · simp only [valD, List.foldl_cons, List.foldl_nil, u8 _ (show 48 + n / 10 < 256 by omega), u8 _ (show 48 + n % 10 < 256 by omega)]; omega
    · simp only [valD, List.foldl_cons, List.foldl_nil, u8 _ (show 48 + n / 100 < 256 by omega), u8 _ (show 48 + n / 10 % 10 < 256 by omega), u8 _ (show 48 + n % 10 < 256 by omega)]; omega
theorem isD_ofNat (k : Nat) (h : k < 10) : isD (UInt8.ofNat (48 + k)) = true := by
  simp only [isD, u8 _ (show 48 + k < 256 by omega)]
  simp; omega
theorem ne48 (k : Nat) (h : k < 10) (h0 : k ≠ 0) : UInt8.ofNat (48 + k) ≠ 48 := fun e => by
  have := congrArg UInt8.toNat e
  rw [u8 _ (by omega)] at this
  simp at this
  omega
theorem fig_dec (n : Nat) (h : n < 1000) : figB (dec n) = true := by
  unfold dec
  split
  · have a := isD_ofNat n (by omega)
    generalize UInt8.ofNat (48 + n) = x at *
    simp [figB, a]
  · split
    · have a := isD_ofNat (n / 10) (by omega)
      have b := isD_ofNat (n % 10) (by omega)
      have c := ne48 (n / 10) (by omega) (by omega)
      generalize UInt8.ofNat (48 + n / 10) = x at *
      generalize UInt8.ofNat (48 + n % 10) = y at *
      simp [figB, a, b, c]
    · have a := isD_ofNat (n / 100) (by omega)
      have b := isD_ofNat (n / 10 % 10) (by omega)
      have d := isD_ofNat (n % 10) (by omega)
      have c := ne48 (n / 100) (by omega) (by omega)
      generalize UInt8.ofNat (48 + n / 100) = x at *
      generalize UInt8.ofNat (48 + n / 10 % 10) = y at *
      generalize UInt8.ofNat (48 + n % 10) = z at *
      simp [figB, a, b, c, d]
theorem dec_val {s : List UInt8} (h : figB s = true) : dec (valD s) = s ∧ valD s < 1000 := by
  simp only [figB, Bool.and_eq_true, Bool.or_eq_true, Bool.not_eq_true', decide_eq_true_eq, decide_eq_false_iff_not, List.isEmpty_eq_false_iff] at h
  obtain ⟨h1, h2, h3, h4⟩ := h
  match s, h2, h3 with
  | [a], _, _ =>
    simp only [List.all_cons, List.all_nil, Bool.and_true] at h1
    obtain ⟨x, hx, rfl⟩ := u8e h1
    have hv : valD [UInt8.ofNat (48 + x)] = x := by simp only [valD, List.foldl_cons, List.foldl_nil, u8 _ (show 48 + x < 256 by omega)]; omega
    rw [hv]
    exact ⟨by simp [dec, hx], by omega⟩
  | [a, b], _, _ =>
    simp only [List.all_cons, List.all_nil, Bool.and_true, Bool.and_eq_true] at h1
    obtain ⟨x, hx, rfl⟩ := u8e h1.1
    obtain ⟨y, hy, rfl⟩ := u8e h1.2
    have x0 : x ≠ 0 := fun e => by subst e; simp at h4
    have hv : valD [UInt8.ofNat (48 + x), UInt8.ofNat (48 + y)] = 10 * x + y := by simp only [valD, List.foldl_cons, List.foldl_nil, u8 _ (show 48 + x < 256 by omega), u8 _ (show 48 + y < 256 by omega)]; omega
    rw [hv]
    have e1 : (10 * x + y) / 10 = x := by omega
    have e2 : (10 * x + y) % 10 = y := by omega
    refine ⟨?_, by omega⟩
    unfold dec
    rw [if_neg (by omega), if_pos (by omega), e1, e2]
  | [a, b, c], _, _ =>
    simp only [List.all_cons, List.all_nil, Bool.and_true, Bool.and_eq_true] at h1
    obtain ⟨x, hx, rfl⟩ := u8e h1.1
    obtain ⟨y, hy, rfl⟩ := u8e h1.2.1
    obtain ⟨z, hz, rfl⟩ := u8e h1.2.2
    have x0 : x ≠ 0 := fun e => by subst e; simp at h4
    have hv : valD [UInt8.ofNat (48 + x), UInt8.ofNat (48 + y), UInt8.ofNat (48 + z)] = 100 * x + 10 * y + z := by simp only [valD, List.foldl_cons, List.foldl_nil, u8 _ (show 48 + x < 256 by omega), u8 _ (show 48 + y < 256 by omega), u8 _ (show 48 + z < 256 by omega)]; omega
    rw [hv]
    have e1 : (100 * x + 10 * y + z) / 100 = x := by omega
    have e2 : (100 * x + 10 * y + z) / 10 % 10 = y := by omega
    have e3 : (100 * x + 10 * y + z) % 10 = z := by omega
    refine ⟨?_, by omega⟩
    unfold dec
    rw [if_neg (by omega), if_neg (by omega), e1, e2, e3]
  | a :: b :: c :: d :: r, _, h3 => simp at h3
theorem dec_inj {a b : Nat} (ha : a < 1000) (hb : b < 1000) (h : dec a = dec b) : a = b := by rw [← val_dec a ha, h, val_dec b hb]
def wdC (c : Int) : List UInt8 :=
  if c = 0 then [98, 105, 110, 97, 114, 121] else if c = 1 then [101, 99, 104, 111] else if c = 3 then [115, 103, 97] else if c = 5 then [115, 116, 97, 116, 117, 115] else if c = 6 then [109, 97, 114, 107] else if c = 24 then [116, 116, 121, 112, 101] else if c = 31 then [110, 97, 119, 115] else if c = 34 then [108, 105, 110, 101, 109, 111, 100, 101] else []
def nameC (o : Int) : List UInt8 := if o < 0 ∨ 255 < o then [] else if wdC o = [] then dec o.toNat else wdC o
/-- The first of k from i on that has this word; -1: none. -/
def wSr (s : List UInt8) : Nat → Nat → Int
  | 0, _ => -1
  | k + 1, i => if wdC (i : Int) ≠ [] ∧ wdC (i : Int) = s then (i : Int) else wSr s k (i + 1)
def rSr (s : List UInt8) : Nat → Nat → Int
  | 0, _ => -1
  | k + 1, i => if nameC (i : Int) = s ∨ dec i = s then (i : Int) else rSr s k (i + 1)
def optK (s : List UInt8) : Bool := decide (0 ≤ wSr s 256 0) || (figB s && decide (valD s < 256))
def optV (s : List UInt8) : Int := if 0 ≤ wSr s 256 0 then wSr s 256 0 else if figB s = true ∧ valD s < 256 then (valD s : Int) else 0
def wordL : List (List UInt8) := [[98, 105, 110, 97, 114, 121], [101, 99, 104, 111], [115, 103, 97], [115, 116, 97, 116, 117, 115], [109, 97, 114, 107], [116, 116, 121, 112, 101], [110, 97, 119, 115], [108, 105, 110, 101, 109, 111, 100, 101]]

theorem wd_cases (c : Int) : wdC c = [] ∨ c = 0 ∨ c = 1 ∨ c = 3 ∨ c = 5 ∨ c = 6 ∨ c = 24 ∨ c = 31 ∨ c = 34 := by
  unfold wdC
  repeat' split
  all_goals first | exact .inl rfl | (right; omega)
theorem wd_in (c : Int) (h : wdC c ≠ []) : wdC c ∈ wordL := by
  rcases wd_cases c with h0 | rfl | rfl | rfl | rfl | rfl | rfl | rfl | rfl
  · exact absurd h0 h
  all_goals decide
theorem word_fig {s : List UInt8} (h : s ∈ wordL) : figB s = false := by
  simp only [wordL, List.mem_cons, List.mem_nil_iff, or_false] at h
  rcases h with rfl | rfl | rfl | rfl | rfl | rfl | rfl | rfl <;> decide
theorem wSr_no {s : List UInt8} (h : s ∉ wordL) : ∀ k i, wSr s k i = -1
  | 0, _ => rfl
  | k + 1, i => by
    simp only [wSr]
    rw [if_neg (fun (e : wdC (i : Int) ≠ [] ∧ wdC (i : Int) = s) => h (by have := wd_in _ e.1; rw [e.2] at this; exact this)), wSr_no h k (i + 1)]
theorem rSr_no {s : List UInt8} : ∀ (k i : Nat), (∀ j : Nat, i ≤ j → j < i + k → ¬ (nameC (j : Int) = s ∨ dec j = s)) → rSr s k i = -1
  | 0, _, _ => rfl
  | k + 1, i, h => by
    simp only [rSr]
    rw [if_neg (h i (by omega) (by omega)), rSr_no k (i + 1) (fun j h1 h2 => h j (by omega) (by omega))]
theorem rSr_hit {s : List UInt8} {n : Nat} (hn : nameC (n : Int) = s ∨ dec n = s) : ∀ k i, i ≤ n → n < i + k → (∀ j, i ≤ j → j < n → ¬ (nameC (j : Int) = s ∨ dec j = s)) → rSr s k i = n
  | 0, i, h1, h2, _ => by omega
  | k + 1, i, h1, h2, h => by
    simp only [rSr]
    by_cases e : i = n
    · subst e; rw [if_pos hn]
    · rw [if_neg (h i (by omega) (by omega))]
      exact rSr_hit hn k (i + 1) (by omega) (by omega) (fun j g1 g2 => h j (by omega) g2)
theorem name_split {j : Nat} (hj : j < 256) : (wdC (j : Int) = [] ∧ nameC (j : Int) = dec j) ∨ (wdC (j : Int) ∈ wordL ∧ nameC (j : Int) = wdC (j : Int)) := by
  unfold nameC
  rw [if_neg (by omega)]
  by_cases h : wdC (j : Int) = []
  · rw [if_pos h]; exact .inl ⟨h, by simp⟩
  · rw [if_neg h]; exact .inr ⟨wd_in _ h, rfl⟩

theorem opt_ref (s : List UInt8) : optK s = decide (0 ≤ rSr s 256 0) ∧ optV s = max (rSr s 256 0) 0 := by
  by_cases hw : s ∈ wordL
  · simp only [wordL, List.mem_cons, List.mem_nil_iff, or_false] at hw
    rcases hw with rfl | rfl | rfl | rfl | rfl | rfl | rfl | rfl <;> decide +kernel
  · have w := wSr_no hw 256 0
    unfold optK optV
    rw [w]
    have nw : ∀ j : Nat, j < 256 → (nameC (j : Int) = s ∨ dec j = s) → dec j = s := fun j hj h => by
      rcases h with h | h
      · rcases name_split hj with ⟨_, e⟩ | ⟨e1, e2⟩
        · rw [← e]; exact h
        · exact absurd (by rw [← h, e2]; exact e1) hw
      · exact h
    by_cases hf : figB s = true ∧ valD s < 256
    · obtain ⟨d1, d2⟩ := dec_val hf.1
      have hr : rSr s 256 0 = (valD s : Int) := rSr_hit (.inr d1) 256 0 (by omega) (by omega) (fun j _ g2 hj => by
        have := nw j (by omega) hj
        have := dec_inj (by omega) d2 (this.trans d1.symm)
        omega)
      rw [hr]
      simp [hf]
    · have hr : rSr s 256 0 = -1 := rSr_no 256 0 (fun j _ g2 hj => hf (by
        have := nw j (by omega) hj
        rw [← this]
        exact ⟨fig_dec j (by omega), by rw [val_dec j (by omega)]; omega⟩))
      rw [hr]
      have : (figB s && decide (valD s < 256)) = false := by
        rw [Bool.eq_false_iff]
        intro h
        simp only [Bool.and_eq_true, decide_eq_true_eq] at h
        exact hf h
      rw [this, if_neg (by omega), if_neg hf]
      decide

theorem wd_inj {a b : Int} (ha : wdC a ≠ []) (h : wdC a = wdC b) : a = b := by
  have hb : wdC b ≠ [] := fun e => ha (h.trans e)
  rcases wd_cases a with h0 | rfl | rfl | rfl | rfl | rfl | rfl | rfl | rfl
  · exact absurd h0 ha
  all_goals
    rcases wd_cases b with h0 | rfl | rfl | rfl | rfl | rfl | rfl | rfl | rfl
    · exact absurd h0 hb
    all_goals first | rfl | (exact absurd h (by decide))

/-- An option's name is its own. -/
theorem opt_name {a : Nat} (ha : a < 256) : optK (nameC (a : Int)) = true ∧ optV (nameC (a : Int)) = a := by
  have hr : rSr (nameC (a : Int)) 256 0 = a := rSr_hit (.inl rfl) 256 0 (by omega) (by omega) (fun j _ g2 hj => by
    have key : ∀ x y : Nat, x < 256 → y < 256 → dec x = nameC (y : Int) → x = y := fun x y hx hy e => by
      rcases name_split hy with ⟨_, e2⟩ | ⟨e1, e2⟩
      · exact dec_inj (by omega) (by omega) (e.trans e2)
      · have := fig_dec x (by omega)
        rw [e, e2, word_fig e1] at this; cases this
    rcases hj with hj | hj
    · rcases name_split (show j < 256 by omega) with ⟨_, e2⟩ | ⟨e1, e2⟩
      · have := key j a (by omega) ha (e2.symm.trans hj); omega
      · rcases name_split ha with ⟨_, e4⟩ | ⟨e3, e4⟩
        · have := key a j ha (by omega) (e4.symm.trans hj.symm); omega
        · have := wd_inj (a := (j : Int)) (b := (a : Int)) (fun e => by rw [e] at e1; exact absurd e1 (by decide)) (by rw [← e2, ← e4]; exact hj)
          omega
    · have := key j a (by omega) ha hj; omega)
  obtain ⟨h1, h2⟩ := opt_ref (nameC (a : Int))
  rw [h1, h2, hr]
  constructor
  · simp
  · omega
theorem opt_none : optK [] = false ∧ optV [] = 0 := by
  have w := wSr_no (s := []) (by decide) 256 0
  unfold optK optV
  rw [w]
  decide
theorem name_inj {a b : Int} (h : nameC a = nameC b) (hn : nameC a ≠ []) : a = b := by
  have ha : ¬ (a < 0 ∨ 255 < a) := fun e => hn (if_pos e)
  have hb : ¬ (b < 0 ∨ 255 < b) := fun e => hn (h.trans (if_pos e))
  obtain ⟨x, rfl⟩ : ∃ k : Nat, a = k := ⟨a.toNat, by omega⟩
  obtain ⟨y, rfl⟩ : ∃ k : Nat, b = k := ⟨b.toNat, by omega⟩
  have h1 := (opt_name (a := x) (by omega)).2
  have h2 := (opt_name (a := y) (by omega)).2
  rw [← h1, ← h2, h]
end Go.Proofs.YtealbjkhjpmilaaDoor.DecR
