/- Grammar: the plain law. -/
import Derived.Test.YtcphocfnhekdaaaDoorChecked
import Derived.Test.YtcphocfnhekdaaaDoorRows
import Derived.Test.YtcphocfnhekdaaaDoorUeC
import Derived.Test.YtcphocfnhekdaaaDoorSyKit
import Derived.Test.YtcphocfnhekdaaaDoorSyPc
import Derived.Test.YtcphocfnhekdaaaDoorSyPl
set_option linter.unusedSimpArgs false
set_option linter.unusedVariables false
namespace Go.Proofs.YtcphocfnhekdaaaDoor.GramR

/-- An item: its kind (1 byte, 2 pair, 3 plain, 4 verb, 5 sub), its code, its option, its body. -/
structure It where
  kind : Nat
  code : Nat
  opt : Nat
  body : List UInt8
deriving DecidableEq, Repr

/-- What stands at the front of bytes: an item of so many bytes; 0: it isn't whole; or none. -/
inductive Res where
  | ok (x : It) (n : Nat)
  | short
  | form

/-- A body from place i on. -/
def subI (o : Nat) : List UInt8 → List UInt8 → Nat → Res
  | [], _, _ => .short
  | c :: r, b, i => if c ≠ 255 then subI o r (b ++ [c]) (i + 1) else
    match r with
    | [] => .short
    | d :: r' => if d = 255 then subI o r' (b ++ [255]) (i + 2) else if d = 240 then .ok ⟨5, 0, o, b⟩ (i + 2) else .form

def cmdI : List UInt8 → Res
  | [] => .short
  | c :: r => if c = 255 then .ok ⟨1, 255, 0, []⟩ 2 else if 241 ≤ c.toNat ∧ c.toNat ≤ 249 then .ok ⟨3, c.toNat, 0, []⟩ 2 else
    if 251 ≤ c.toNat ∧ c.toNat ≤ 254 then (match r with | [] => .short | d :: _ => .ok ⟨4, c.toNat, d.toNat, []⟩ 3)
    else if c = 250 then (match r with | [] => .short | d :: r' => subI d.toNat r' [] 3) else .form

def itemI (raw : Bool) : List UInt8 → Res
  | [] => .short
  | c :: r => if c = 255 then cmdI r else if c ≠ 13 ∨ raw = true then .ok ⟨1, c.toNat, 0, []⟩ 1 else
    match r with
    | [] => .short
    | d :: _ => if d = 0 ∨ d = 10 then .ok ⟨2, d.toNat, 0, []⟩ 2 else .ok ⟨1, c.toNat, 0, []⟩ 1

/-- All items, each with where it begins and ends; how many bytes are left; none: they aren't of the grammar. -/
def readI (raw : Bool) : Nat → Nat → List UInt8 → Option (List (It × Nat × Nat) × Nat)
  | 0, _, s => some ([], s.length)
  | k + 1, at_, s => if s = [] then some ([], 0) else
    match itemI raw s with
    | .ok x n => (match readI raw k (at_ + n) (s.drop n) with | some (l, m) => some ((x, at_, at_ + n) :: l, m) | none => none)
    | .short => some ([], s.length)
    | .form => none

def parseI (raw : Bool) (s : List UInt8) : Option (List (It × Nat × Nat) × Nat) := readI raw (s.length + 1) 0 s

theorem sub_pre (o : Nat) : ∀ (k : Nat) (r b : List UInt8) (i n : Nat) (x : It), r.length ≤ k → subI o r b i = .ok x n → i < n ∧ n ≤ i + r.length ∧ ∀ t, subI o (r.take (n - i) ++ t) b i = .ok x n
  | 0, r, b, i, n, x, hk, h => by
    have : r = [] := List.length_eq_zero_iff.1 (by omega)
    subst this
    cases h
  | k + 1, r, b, i, n, x, hk, h => by
    match r, hk, h with
    | [], _, h => cases h
    | c :: r, hk, h =>
      by_cases hc : c = 255
      · subst hc
        match r, hk, h with
        | [], _, h => simp [subI] at h
        | d :: r', hk, h =>
          by_cases hd : d = 255
          · subst hd
            have e : ∀ q : List UInt8, subI o (255 :: 255 :: q) b i = subI o q (b ++ [255]) (i + 2) := fun q => by simp [subI]
            rw [e] at h
            obtain ⟨h1, h2, h3⟩ := sub_pre o k r' (b ++ [255]) (i + 2) n x (by simp at hk; omega) h
            refine ⟨by omega, by simp only [List.length_cons]; omega, fun t => ?_⟩
            rw [show n - i = (n - (i + 2)) + 1 + 1 by omega]
            simp only [List.take_succ_cons, List.cons_append]
            rw [e]; exact h3 t
          · by_cases h4 : d = 240
            · subst h4
              have e : ∀ q : List UInt8, subI o (255 :: 240 :: q) b i = .ok ⟨5, 0, o, b⟩ (i + 2) := fun q => by simp [subI]
              rw [e] at h
              simp only [Res.ok.injEq] at h
              obtain ⟨rfl, rfl⟩ := h
              refine ⟨by omega, by simp only [List.length_cons]; omega, fun t => ?_⟩
              rw [show i + 2 - i = 0 + 1 + 1 by omega]
              simp only [List.take_succ_cons, List.cons_append]
              exact e _
            · simp [subI, hd, h4] at h
      · have e : ∀ q : List UInt8, subI o (c :: q) b i = subI o q (b ++ [c]) (i + 1) := fun q => by rw [subI.eq_def]; simp [hc]
        rw [e] at h
        obtain ⟨h1, h2, h3⟩ := sub_pre o k r (b ++ [c]) (i + 1) n x (by simp at hk; omega) h
        refine ⟨by omega, by simp only [List.length_cons]; omega, fun t => ?_⟩
        rw [show n - i = (n - (i + 1)) + 1 by omega]
        simp only [List.take_succ_cons, List.cons_append]
        rw [e]; exact h3 t

/-- An item is an item whatever stands behind it; but a lone 13 may be the beginning of a pair. -/
theorem item_pre (raw : Bool) (s : List UInt8) (x : It) (n : Nat) (h : itemI raw s = .ok x n) :
    0 < n ∧ n ≤ s.length ∧ (¬ (x.kind = 1 ∧ x.code = 13 ∧ raw = false) → ∀ t, itemI raw (s.take n ++ t) = .ok x n) := by
  match s, h with
  | c :: r, h =>
    by_cases hc : c = 255
    · subst hc
      have e0 : ∀ q : List UInt8, itemI raw (255 :: q) = cmdI q := fun q => by simp [itemI]
      rw [e0] at h
      match r, h with
      | [], h => cases h
      | d :: r, h =>
        by_cases hd : d = 255
        · subst hd
          have e : ∀ q : List UInt8, cmdI (255 :: q) = .ok ⟨1, 255, 0, []⟩ 2 := fun q => by simp [cmdI]
          rw [e] at h
          simp only [Res.ok.injEq] at h
          obtain ⟨rfl, rfl⟩ := h
          exact ⟨by omega, by simp, fun _ t => by simp [e0, e]⟩
        · by_cases hp : 241 ≤ d.toNat ∧ d.toNat ≤ 249
          · have e : ∀ q : List UInt8, cmdI (d :: q) = .ok ⟨3, d.toNat, 0, []⟩ 2 := fun q => by simp [cmdI, hd, hp]
            rw [e] at h
            simp only [Res.ok.injEq] at h
            obtain ⟨rfl, rfl⟩ := h
            exact ⟨by omega, by simp, fun _ t => by simp [e0, e]⟩
          · by_cases hv : 251 ≤ d.toNat ∧ d.toNat ≤ 254
            · match r, h with
              | [], h => simp [cmdI, hd, hp, hv] at h
              | g :: r, h =>
                have e : ∀ q : List UInt8, cmdI (d :: g :: q) = .ok ⟨4, d.toNat, g.toNat, []⟩ 3 := fun q => by simp [cmdI, hd, hp, hv]
                rw [e] at h
                simp only [Res.ok.injEq] at h
                obtain ⟨rfl, rfl⟩ := h
                exact ⟨by omega, by simp, fun _ t => by simp [e0, e]⟩
            · by_cases hs : d = 250
              · subst hs
                match r, h with
                | [], h => simp [cmdI] at h
                | g :: r, h =>
                  have e : ∀ q : List UInt8, cmdI (250 :: g :: q) = subI g.toNat q [] 3 := fun q => by simp [cmdI]
                  rw [e] at h
                  obtain ⟨h1, h2, h3⟩ := sub_pre g.toNat r.length r [] 3 n x (Nat.le_refl _) h
                  refine ⟨by omega, by simp only [List.length_cons]; omega, fun _ t => ?_⟩
                  rw [show n = (n - 3) + 1 + 1 + 1 by omega]
                  simp only [List.take_succ_cons, List.cons_append]
                  rw [e0, e, h3 t]
                  congr 1
                  omega
              · simp only [cmdI, if_neg hd, if_neg hp, if_neg hv, if_neg hs] at h
                cases h
    · by_cases h13 : c ≠ 13 ∨ raw = true
      · have e : ∀ q : List UInt8, itemI raw (c :: q) = .ok ⟨1, c.toNat, 0, []⟩ 1 := fun q => by rw [itemI.eq_def]; simp [hc, h13]
        rw [e] at h
        simp only [Res.ok.injEq] at h
        obtain ⟨rfl, rfl⟩ := h
        exact ⟨by omega, by simp, fun _ t => by simp [e]⟩
      · have hq : c = 13 ∧ raw = false := by
          simp only [not_or, Decidable.not_not, Bool.not_eq_true] at h13
          exact h13
        obtain ⟨rfl, rfl⟩ := hq
        match r, h with
        | [], h => simp [itemI] at h
        | d :: r, h =>
          by_cases hd : d = 0 ∨ d = 10
          · have e : ∀ q : List UInt8, itemI false (13 :: d :: q) = .ok ⟨2, d.toNat, 0, []⟩ 2 := fun q => by simp [itemI, hd]
            rw [e] at h
            simp only [Res.ok.injEq] at h
            obtain ⟨rfl, rfl⟩ := h
            exact ⟨by omega, by simp, fun _ t => by simp [e]⟩
          · have e : itemI false (13 :: d :: r) = .ok ⟨1, 13, 0, []⟩ 1 := by simp [itemI, hd]
            rw [e] at h
            simp only [Res.ok.injEq] at h
            obtain ⟨rfl, rfl⟩ := h
            exact ⟨by omega, by simp, fun hne => absurd ⟨rfl, rfl, rfl⟩ hne⟩
  | [], h => cases h

/-- Where the items end. -/
def endI (at_ : Nat) : List (It × Nat × Nat) → Nat
  | [] => at_
  | (_, _, e) :: r => endI e r

/-- Items stand one behind the other, each is one at its place, and what is left is the beginning of one. -/
theorem read_ok (raw : Bool) : ∀ (k at_ : Nat) (s : List UInt8) (l : List (It × Nat × Nat)) (m : Nat), s.length < k → readI raw k at_ s = some (l, m) →
    endI at_ l + m = at_ + s.length ∧ at_ ≤ endI at_ l ∧ (s.drop (endI at_ l - at_) = [] ∨ itemI raw (s.drop (endI at_ l - at_)) = .short) ∧
    ∀ (i : Nat) (x : It) (f e : Nat), l[i]? = some (x, f, e) → at_ ≤ f ∧ f < e ∧ e ≤ at_ + s.length ∧ itemI raw (s.drop (f - at_)) = .ok x (e - f) ∧ f = (if i = 0 then at_ else (l.getD (i - 1) (x, 0, 0)).2.2)
  | 0, at_, s, l, m, hk, h => by omega
  | k + 1, at_, s, l, m, hk, h => by
    simp only [readI] at h
    by_cases h0 : s = []
    · rw [if_pos h0] at h
      simp only [Option.some.injEq, Prod.mk.injEq] at h
      obtain ⟨rfl, rfl⟩ := h
      subst h0
      exact ⟨by simp [endI], by simp [endI], .inl (by simp), fun i x f e hi => by simp at hi⟩
    · rw [if_neg h0] at h
      cases hi : itemI raw s with
      | short =>
        rw [hi] at h
        simp only [Option.some.injEq, Prod.mk.injEq] at h
        obtain ⟨rfl, rfl⟩ := h
        exact ⟨by simp [endI], by simp [endI], .inr (by simp [endI, hi]), fun i x f e hi => by simp at hi⟩
      | form => rw [hi] at h; cases h
      | ok x n =>
        rw [hi] at h
        obtain ⟨n0, n1, _⟩ := item_pre raw s x n hi
        cases hr : readI raw k (at_ + n) (s.drop n) with
        | none => simp only [hr] at h; cases h
        | some lm =>
          obtain ⟨l', m'⟩ := lm
          simp only [hr, Option.some.injEq, Prod.mk.injEq] at h
          obtain ⟨rfl, rfl⟩ := h
          obtain ⟨a1, a2, a3, a4⟩ := read_ok raw k (at_ + n) (s.drop n) l' m' (by rw [List.length_drop]; omega) hr
          rw [List.length_drop] at a1 a4
          refine ⟨by simp only [endI]; omega, by simp only [endI]; omega, ?_, ?_⟩
          · simp only [endI]
            rw [List.drop_drop, show n + (endI (at_ + n) l' - (at_ + n)) = endI (at_ + n) l' - at_ by omega] at a3
            exact a3
          · intro i y f e hy
            cases i with
            | zero =>
              simp only [List.getElem?_cons_zero, Option.some.injEq, Prod.mk.injEq] at hy
              obtain ⟨rfl, rfl, rfl⟩ := hy
              refine ⟨Nat.le_refl _, by omega, by omega, ?_, by simp⟩
              rw [Nat.sub_self, List.drop_zero, hi]
              congr 1
              omega
            | succ i =>
              simp only [List.getElem?_cons_succ] at hy
              obtain ⟨b1, b2, b3, b4, b5⟩ := a4 i y f e hy
              refine ⟨by omega, b2, by omega, ?_, ?_⟩
              · rw [List.drop_drop, show n + (f - (at_ + n)) = f - at_ by omega] at b4
                exact b4
              · rw [if_neg (by omega), Nat.add_sub_cancel]
                by_cases hz : i = 0
                · subst hz; simpa using b5
                · rw [if_neg hz] at b5
                  rw [b5]
                  obtain ⟨j, rfl⟩ : ∃ j, i = j + 1 := ⟨i - 1, by omega⟩
                  simp

/-- An item alone is the same item. -/
theorem alone (raw : Bool) (s : List UInt8) (x : It) (n : Nat) (h : itemI raw s = .ok x n) (hx : ¬ (x.kind = 1 ∧ x.code = 13 ∧ raw = false)) : parseI raw (s.take n) = some ([(x, 0, n)], 0) := by
  obtain ⟨n0, n1, h3⟩ := item_pre raw s x n h
  have ht := h3 hx []
  rw [List.append_nil] at ht
  have hl : (s.take n).length = n := by rw [List.length_take]; omega
  unfold parseI
  rw [hl]
  simp only [readI]
  rw [if_neg (fun e => by rw [e] at hl; simp at hl; omega), ht]
  have hd : (s.take n).drop n = [] := List.drop_eq_nil_of_le (by omega)
  simp only [hd]
  obtain ⟨k, rfl⟩ : ∃ k, n = k + 1 := ⟨n - 1, by omega⟩
  simp [readI]

/-- What is left alone is left. -/
theorem left (raw : Bool) (s : List UInt8) (h : s = [] ∨ itemI raw s = .short) : parseI raw s = some ([], s.length) := by
  unfold parseI
  rcases h with rfl | h
  · rfl
  · simp only [readI]
    by_cases h0 : s = []
    · subst h0; rfl
    · rw [if_neg h0, h]

theorem sub_cut (o : Nat) : ∀ (k : Nat) (r b : List UInt8) (i : Nat), r.length ≤ k → (subI o r b i = .short → ∀ j, subI o (r.take j) b i = .short) ∧ (∀ x n, subI o r b i = .ok x n → ∀ j, j < n - i → subI o (r.take j) b i = .short)
  | 0, r, b, i, hk => by
    have : r = [] := List.length_eq_zero_iff.1 (by omega)
    subst this
    exact ⟨fun _ j => by simp [subI], fun x n h => by cases h⟩
  | k + 1, r, b, i, hk => by
    match r, hk with
    | [], _ => exact ⟨fun _ j => by simp [subI], fun x n h => by cases h⟩
    | c :: r, hk =>
      have z : ∀ q : List UInt8, subI o (q.take 0) b i = .short := fun q => by simp [subI]
      by_cases hc : c = 255
      · subst hc
        have one : subI o [255] b i = .short := by simp [subI]
        match r, hk with
        | [], _ =>
          refine ⟨fun _ j => ?_, fun x n h => by simp [subI] at h⟩
          cases j with
          | zero => simp [subI]
          | succ j => simpa using one
        | d :: r', hk =>
          have lo : ∀ j, j < 2 → subI o ((255 :: d :: r').take j) b i = .short := fun j hj => by
            have : j = 0 ∨ j = 1 := by omega
            rcases this with rfl | rfl
            · simp [subI]
            · simpa using one
          by_cases hd : d = 255
          · subst hd
            have e : ∀ q : List UInt8, subI o (255 :: 255 :: q) b i = subI o q (b ++ [255]) (i + 2) := fun q => by simp [subI]
            rw [e]
            obtain ⟨h1, h2⟩ := sub_cut o k r' (b ++ [255]) (i + 2) (by simp at hk; omega)
            constructor
            · intro h j
              rcases Nat.lt_or_ge j 2 with hj | hj
              · exact lo j hj
              · obtain ⟨q, rfl⟩ : ∃ q, j = q + 1 + 1 := ⟨j - 2, by omega⟩
                simp only [List.take_succ_cons]
                rw [e]; exact h1 h q
            · intro x n h j hj
              rcases Nat.lt_or_ge j 2 with hj2 | hj2
              · exact lo j hj2
              · obtain ⟨q, rfl⟩ : ∃ q, j = q + 1 + 1 := ⟨j - 2, by omega⟩
                simp only [List.take_succ_cons]
                rw [e]; exact h2 x n h q (by omega)
          · by_cases h4 : d = 240
            · subst h4
              have e : subI o (255 :: 240 :: r') b i = .ok ⟨5, 0, o, b⟩ (i + 2) := by simp [subI]
              rw [e]
              refine ⟨fun h => (by cases h), fun x n h j hj => ?_⟩
              simp only [Res.ok.injEq] at h
              exact lo j (by omega)
            · have e : subI o (255 :: d :: r') b i = .form := by simp [subI, hd, h4]
              rw [e]
              exact ⟨fun h => (by cases h), fun x n h => by cases h⟩
      · have e : ∀ q : List UInt8, subI o (c :: q) b i = subI o q (b ++ [c]) (i + 1) := fun q => by rw [subI.eq_def]; simp [hc]
        rw [e]
        obtain ⟨h1, h2⟩ := sub_cut o k r (b ++ [c]) (i + 1) (by simp at hk; omega)
        constructor
        · intro h j
          cases j with
          | zero => simp [subI]
          | succ j => simp only [List.take_succ_cons]; rw [e]; exact h1 h j
        · intro x n h j hj
          cases j with
          | zero => simp [subI]
          | succ j => simp only [List.take_succ_cons]; rw [e]; exact h2 x n h j (by omega)

/-- Less of an item, or of its beginning, is the beginning of one. -/
theorem item_cut (raw : Bool) (s : List UInt8) : (itemI raw s = .short → ∀ j, itemI raw (s.take j) = .short) ∧ (∀ x n, itemI raw s = .ok x n → ∀ j, j < n → itemI raw (s.take j) = .short) := by
  match s with
  | [] => exact ⟨fun _ j => by simp [itemI], fun x n h => by cases h⟩
  | c :: r =>
    by_cases hc : c = 255
    · subst hc
      have e0 : ∀ q : List UInt8, itemI raw (255 :: q) = cmdI q := fun q => by simp [itemI]
      have lo : ∀ (q : List UInt8) (j : Nat), j < 2 → itemI raw ((255 :: q).take j) = .short := fun q j hj => by
        have : j = 0 ∨ j = 1 := by omega
        rcases this with rfl | rfl
        · simp [itemI]
        · simp [itemI, cmdI]
      match r with
      | [] =>
        refine ⟨fun _ j => ?_, fun x n h => by simp [itemI, cmdI] at h⟩
        cases j with
        | zero => simp [itemI]
        | succ j => simp [itemI, cmdI]
      | d :: r =>
        have two : ∀ (x : It), itemI raw (255 :: d :: r) = .ok x 2 → (itemI raw (255 :: d :: r) = .short → ∀ j, itemI raw ((255 :: d :: r).take j) = .short) ∧ (∀ x n, itemI raw (255 :: d :: r) = .ok x n → ∀ j, j < n → itemI raw ((255 :: d :: r).take j) = .short) := fun x e => by
          rw [e]
          refine ⟨fun h => (by cases h), fun x n h j hj => ?_⟩
          simp only [Res.ok.injEq] at h
          exact lo (d :: r) j (by omega)
        by_cases hd : d = 255
        · subst hd
          exact two ⟨1, 255, 0, []⟩ (by rw [e0]; simp [cmdI])
        · by_cases hp : 241 ≤ d.toNat ∧ d.toNat ≤ 249
          · exact two ⟨3, d.toNat, 0, []⟩ (by rw [e0]; simp [cmdI, hd, hp])
          · by_cases hv : 251 ≤ d.toNat ∧ d.toNat ≤ 254
            · have t2 : itemI raw [255, d] = .short := by rw [e0]; simp [cmdI, hd, hp, hv]
              have lo3 : ∀ j, j < 3 → itemI raw ((255 :: d :: r).take j) = .short := fun j hj => by
                rcases Nat.lt_or_ge j 2 with h | h
                · exact lo (d :: r) j h
                · have : j = 2 := by omega
                  subst this
                  simpa using t2
              match r with
              | [] =>
                refine ⟨fun _ j => ?_, fun x n h => by rw [t2] at h; cases h⟩
                rcases Nat.lt_or_ge j 2 with h | h
                · exact lo [d] j h
                · rw [List.take_of_length_le (by simpa using h)]; exact t2
              | g :: r =>
                have e : itemI raw (255 :: d :: g :: r) = .ok ⟨4, d.toNat, g.toNat, []⟩ 3 := by rw [e0]; simp [cmdI, hd, hp, hv]
                rw [e]
                refine ⟨fun h => (by cases h), fun x n h j hj => ?_⟩
                simp only [Res.ok.injEq] at h
                exact lo3 j (by omega)
            · by_cases hs : d = 250
              · subst hs
                have t2 : itemI raw [255, 250] = .short := by rw [e0]; simp [cmdI]
                match r with
                | [] =>
                  refine ⟨fun _ j => ?_, fun x n h => by rw [t2] at h; cases h⟩
                  rcases Nat.lt_or_ge j 2 with h | h
                  · exact lo [250] j h
                  · rw [List.take_of_length_le (by simpa using h)]; exact t2
                | g :: r =>
                  have e : ∀ q : List UInt8, itemI raw (255 :: 250 :: g :: q) = subI g.toNat q [] 3 := fun q => by rw [e0]; simp [cmdI]
                  have lo3 : ∀ j, j < 3 → itemI raw ((255 :: 250 :: g :: r).take j) = .short := fun j hj => by
                    rcases Nat.lt_or_ge j 2 with h | h
                    · exact lo (250 :: g :: r) j h
                    · have : j = 2 := by omega
                      subst this
                      simpa using t2
                  obtain ⟨h1, h2⟩ := sub_cut g.toNat r.length r [] 3 (Nat.le_refl _)
                  rw [e]
                  constructor
                  · intro h j
                    rcases Nat.lt_or_ge j 3 with hj | hj
                    · exact lo3 j hj
                    · obtain ⟨q, rfl⟩ : ∃ q, j = q + 1 + 1 + 1 := ⟨j - 3, by omega⟩
                      simp only [List.take_succ_cons]
                      rw [e]; exact h1 h q
                  · intro x n h j hj
                    rcases Nat.lt_or_ge j 3 with hj3 | hj3
                    · exact lo3 j hj3
                    · obtain ⟨q, rfl⟩ : ∃ q, j = q + 1 + 1 + 1 := ⟨j - 3, by omega⟩
                      simp only [List.take_succ_cons]
                      rw [e]; exact h2 x n h q (by omega)
              · have e : itemI raw (255 :: d :: r) = .form := by rw [e0]; simp only [cmdI, if_neg hd, if_neg hp, if_neg hv, if_neg hs]
                rw [e]
                exact ⟨fun h => (by cases h), fun x n h => by cases h⟩
    · by_cases h13 : c ≠ 13 ∨ raw = true
      · have e : itemI raw (c :: r) = .ok ⟨1, c.toNat, 0, []⟩ 1 := by rw [itemI.eq_def]; simp [hc, h13]
        rw [e]
        refine ⟨fun h => (by cases h), fun x n h j hj => ?_⟩
        simp only [Res.ok.injEq] at h
        have : j = 0 := by omega
        subst this
        simp [itemI]
      · have hq : c = 13 ∧ raw = false := by
          simp only [not_or, Decidable.not_not, Bool.not_eq_true] at h13
          exact h13
        obtain ⟨rfl, rfl⟩ := hq
        have lo : ∀ (q : List UInt8) (j : Nat), j < 2 → itemI false ((13 :: q).take j) = .short := fun q j hj => by
          have : j = 0 ∨ j = 1 := by omega
          rcases this with rfl | rfl
          · simp [itemI]
          · simp [itemI]
        match r with
        | [] =>
          refine ⟨fun _ j => ?_, fun x n h => by simp [itemI] at h⟩
          cases j with
          | zero => simp [itemI]
          | succ j => simp [itemI]
        | d :: r =>
          by_cases hd : d = 0 ∨ d = 10
          · have e : itemI false (13 :: d :: r) = .ok ⟨2, d.toNat, 0, []⟩ 2 := by simp [itemI, hd]
            rw [e]
            refine ⟨fun h => (by cases h), fun x n h j hj => ?_⟩
            simp only [Res.ok.injEq] at h
            exact lo (d :: r) j (by omega)
          · have e : itemI false (13 :: d :: r) = .ok ⟨1, 13, 0, []⟩ 1 := by simp [itemI, hd]
            rw [e]
            refine ⟨fun h => (by cases h), fun x n h j hj => ?_⟩
            simp only [Res.ok.injEq] at h
            exact lo (d :: r) j (by omega)

/-- Of more bytes than an item has it is the same item, of a 13's two bytes too. -/
theorem item_long (raw : Bool) (s : List UInt8) (x : It) (n j : Nat) (h : itemI raw s = .ok x n) (hj : n ≤ j) : itemI raw (s.take j) = .ok x n ∨ (j = 1 ∧ n = 1 ∧ itemI raw (s.take 1) = .short) := by
  by_cases hx : x.kind = 1 ∧ x.code = 13 ∧ raw = false
  · obtain ⟨_, hc, rfl⟩ := hx
    match s, h with
    | [], h => cases h
    | c :: r, h =>
      by_cases h255 : c = 255
      · exfalso
        subst h255
        have e0 : itemI false (255 :: r) = cmdI r := by simp [itemI]
        rw [e0] at h
        match r, h with
        | [], h => cases h
        | d :: r, h =>
          have hk : x.kind = 1 := by assumption
          simp only [cmdI] at h
          split at h
          · simp only [Res.ok.injEq] at h; rw [← h.1] at hc; simp at hc
          · split at h
            · simp only [Res.ok.injEq] at h; rw [← h.1] at hk; simp at hk
            · split at h
              · split at h
                · cases h
                · simp only [Res.ok.injEq] at h; rw [← h.1] at hk; simp at hk
              · split at h
                · split at h
                  · cases h
                  · have : ∀ (o k : Nat) (q b : List UInt8) (i : Nat), q.length ≤ k → ∀ y m, subI o q b i = .ok y m → y.kind = 5 := by
                      intro o k
                      induction k with
                      | zero =>
                        intro q b i hk y m hy
                        have : q = [] := List.length_eq_zero_iff.1 (by omega)
                        subst this
                        cases hy
                      | succ k ih =>
                        intro q b i hk y m hy
                        rw [subI.eq_def] at hy
                        split at hy
                        · cases hy
                        · rename_i c' r2
                          split at hy
                          · exact ih r2 _ _ (by simp at hk; omega) y m hy
                          · split at hy
                            · cases hy
                            · rename_i d' r3
                              split at hy
                              · exact ih r3 _ _ (by simp at hk; omega) y m hy
                              · split at hy
                                · simp only [Res.ok.injEq] at hy; rw [← hy.1]
                                · cases hy
                    have := this _ _ _ _ _ (Nat.le_refl _) x n h
                    omega
                · cases h
      · have hc13 : c = 13 := by
          by_cases q : c = 13
          · exact q
          · have e : itemI false (c :: r) = .ok ⟨1, c.toNat, 0, []⟩ 1 := by rw [itemI.eq_def]; simp [h255, q]
            rw [e] at h
            simp only [Res.ok.injEq] at h
            rw [← h.1] at hc
            exact UInt8.toNat_inj.1 hc
        subst hc13
        match r, h with
        | [], h => simp [itemI] at h
        | d :: r, h =>
          rcases Nat.lt_or_ge j 2 with hj2 | hj2
          · have hn := (item_pre false _ x n h).1
            have : j = 1 := by omega
            subst this
            exact .inr ⟨rfl, by omega, by simp [itemI]⟩
          · left
            obtain ⟨q, rfl⟩ : ∃ q, j = q + 1 + 1 := ⟨j - 2, by omega⟩
            simp only [List.take_succ_cons]
            by_cases hd : d = 0 ∨ d = 10
            · have e : ∀ w : List UInt8, itemI false (13 :: d :: w) = .ok ⟨2, d.toNat, 0, []⟩ 2 := fun w => by simp [itemI, hd]
              rw [e] at h ⊢; exact h
            · have e : ∀ w : List UInt8, itemI false (13 :: d :: w) = .ok ⟨1, 13, 0, []⟩ 1 := fun w => by simp [itemI, hd]
              rw [e] at h ⊢; exact h
  · left
    obtain ⟨n0, n1, h3⟩ := item_pre raw s x n h
    have := h3 hx ((s.drop n).take (j - n))
    have e : s.take n ++ (s.drop n).take (j - n) = s.take j := by
      have := List.take_add (l := s) (i := n) (j := j - n)
      rw [show n + (j - n) = j by omega] at this
      exact this.symm
    rw [e] at this
    exact this

/-- A beginning of bytes of the grammar is of the grammar, with the same items. -/
theorem read_pre (raw : Bool) : ∀ (k at_ : Nat) (s : List UInt8) (l : List (It × Nat × Nat)) (m : Nat), s.length < k → readI raw k at_ s = some (l, m) →
    ∀ (j k' : Nat), j ≤ s.length → j < k' → ∃ q m', readI raw k' at_ (s.take j) = some (l.take q, m') ∧ m' ≤ j ∧ q ≤ l.length
  | 0, at_, s, l, m, hk, h, j, k', hj, hk' => by omega
  | k + 1, at_, s, l, m, hk, h, j, k', hj, hk' => by
    obtain ⟨p, rfl⟩ : ∃ p, k' = p + 1 := ⟨k' - 1, by omega⟩
    rcases Nat.eq_zero_or_pos j with j0 | j0
    · subst j0
      exact ⟨0, 0, by simp [readI], by omega, by omega⟩
    · have hlen : (s.take j).length = j := by rw [List.length_take]; omega
      have hne : s.take j ≠ [] := fun e => by rw [e] at hlen; simp at hlen; omega
      have hs : s ≠ [] := fun e => by subst e; simp at hj; omega
      simp only [readI] at h
      rw [if_neg hs] at h
      obtain ⟨c1, c2⟩ := item_cut raw s
      have short : itemI raw (s.take j) = .short → ∃ q m', readI raw (p + 1) at_ (s.take j) = some (l.take q, m') ∧ m' ≤ j ∧ q ≤ l.length := fun e =>
        ⟨0, j, by simp only [readI, if_neg hne, e, hlen, List.take_zero], by omega, by omega⟩
      cases hi : itemI raw s with
      | form => rw [hi] at h; cases h
      | short => exact short (c1 hi j)
      | ok x n =>
        rw [hi] at h
        obtain ⟨n0, n1, _⟩ := item_pre raw s x n hi
        rcases Nat.lt_or_ge j n with hjn | hjn
        · exact short (c2 x n hi j hjn)
        · rcases item_long raw s x n j hi hjn with e | ⟨e1, e2, e3⟩
          · cases hr : readI raw k (at_ + n) (s.drop n) with
            | none => simp only [hr] at h; cases h
            | some lm =>
              obtain ⟨l', m'⟩ := lm
              simp only [hr, Option.some.injEq, Prod.mk.injEq] at h
              obtain ⟨rfl, rfl⟩ := h
              obtain ⟨q, m2, g1, g2, g3⟩ := read_pre raw k (at_ + n) (s.drop n) l' m' (by rw [List.length_drop]; omega) hr (j - n) p (by rw [List.length_drop]; omega) (by omega)
              refine ⟨q + 1, m2, ?_, by omega, by simp only [List.length_cons]; omega⟩
              have hd : (s.take j).drop n = (s.drop n).take (j - n) := by rw [List.drop_take]
              simp only [readI, if_neg hne, e, hd, g1, List.take_succ_cons]
          · subst e1
            exact short e3
end Go.Proofs.YtcphocfnhekdaaaDoor.GramR

set_option linter.unusedSimpArgs false
set_option linter.unusedVariables false
set_option maxRecDepth 100000
namespace Go.Proofs.YtcphocfnhekdaaaDoor
open Go.Sx

theorem goodP : PGood Tryd.prog := good_of (by kernel_rfl) (by kernel_rfl)
theorem gtopP : gtop Tryd.prog ≤ 100 := of_decide_eq_true (by kernel_rfl)
theorem gtopG : gtop Tryd.prog = 38 := of_decide_eq_true (by kernel_rfl)
theorem gtL {n : Nat} (h : 38 ≤ n) : gtop Tryd.prog ≤ n := Nat.le_trans (Nat.le_of_eq gtopG) h
theorem baseO : Base0 Tryd.prog [] := Base0.nil goodP
abbrev YES : SV := .v (.vb fun _ => true)
abbrev vN (a : Int) : SV := .v (.vi .i64 fun _ => a)
abbrev vU (a : Int) : SV := .v (.vi .u8 fun _ => a)
abbrev vB (a : Bool) : SV := .v (.vb fun _ => a)
abbrev vS (a : List UInt8) : SV := .v (.vs fun _ => a)
abbrev vP (l : Nat) : SV := .v (.vp l (fun _ => 0) [])
abbrev vL (l w n : Nat) : SV := .v (.vl l (fun _ => 0) w [] (fun _ => n))
open GramR
def ERR (g : Nat) : SV := .v (.ve 144 (.vp (19 + g) (fun _ => 0) []))
def vErr (g : Nat) : Tr := .ve 144 (.vp (19 + g) (fun _ => 0) [])
def rB (l n : Nat) (B : Ix → Int) : List Ent := [⟨l, false, none, 1, .ta n (.vi .u8 B)⟩]
def bW (l : Nat) (b : List UInt8) : List Ent := [⟨l, true, none, 1, .ta b.length (.vi .u8 fun is => ((b.getD (is.headD 0) 0).toNat : Int))⟩]
/-- The reader: its bytes at 60, its items at a label. -/
def rdE (p l N n : Nat) (raw : Bool) : List Ent := [⟨p, true, none, 3, .tc (.vl 60 (fun _ => 0) 1 [] (fun _ => N)) (.tc (.vb fun _ => raw) (.tc (.vl l (fun _ => 0) 6 [] (fun _ => n)) .t0))⟩]
def rd0 (p N : Nat) (raw : Bool) : List Ent := [⟨p, true, none, 3, .tc (.vl 60 (fun _ => 0) 1 [] (fun _ => N)) (.tc (.vb fun _ => raw) (.tc .vl0 .t0))⟩]
/-- Items: a row, and the family of their bodies. -/
def iE (l f n : Nat) (K F T C O : Ix → Int) (m q : Ix → Nat) (ls : Nat → Nat) (Z : Ix → Int) : List Ent := [⟨l, true, none, 6, .ta n (.tc (.vi .i64 K) (.tc (.vi .i64 F) (.tc (.vi .i64 T) (.tc (.vi .i64 C) (.tc (.vi .i64 O) (.tc (.vl f m 1 [] q) .t0))))))⟩, ⟨f, true, some (n, ls), 1, .vi .u8 Z⟩]
def snF {α : Type} (n : Nat) (f : Ix → α) (x : α) : Ix → α := fun is => if is.headD 0 < n then f is else x
def bF (b : List UInt8) : Ix → Int := fun is => ((b.getD (is.headD 0) 0).toNat : Int)
/-- An item more. -/
def iS (l f n : Nat) (K F T C O : Ix → Int) (m q : Ix → Nat) (ls : Nat → Nat) (Z : Ix → Int) (k a t c o : Int) (b : List UInt8) : List Ent :=
  iE l f (n + 1) (snF n K k) (snF n F a) (snF n T t) (snF n C c) (snF n O o) (snF n (fun is => m is + 1) 0) (snF n q b.length) (consN b.length ls) (consF (bF b) Z)
def atS (s : List UInt8) (i : Nat) : Nat := (s.getD i 0).toNat
/-- The item that a subnegotiation's body is read into. -/
def xE (p l a : Nat) (o : Int) (b : List UInt8) : List Ent := ⟨p, true, none, 6, .tc (.vi .i64 fun _ => 5) (.tc (.vi .i64 fun _ => (a : Int)) (.tc (.vi .i64 fun _ => 0) (.tc (.vi .i64 fun _ => 0) (.tc (.vi .i64 fun _ => o) (.tc (.vl l (fun _ => 0) 1 [] (fun _ => b.length)) .t0)))))⟩ :: bW l b
theorem snF_at {α : Type} (n : Nat) (f : Ix → α) (x : α) (k : Nat) : snF n f x [k] = if k < n then f [k] else x := rfl
theorem app_sn {α : Type} (n : Nat) (f g : Ix → α) (x : α) (hg : g [0] = x) : ∀ k, k < n + 1 → snF n f x [k] = appF n 0 f g [k] := fun k hk => by
  rw [snF_at]
  simp only [appF, List.headD_cons, Nat.zero_add]
  by_cases h : k < n
  · rw [if_pos h, if_pos h]
  · rw [if_neg h, if_neg h, ← hg]
    rw [show k - n = 0 by omega]
theorem sbS0_p0 (t0 t1 : List UInt8) (N M n : Nat) (raw : Bool) (B K F T C O : Ix → Int) (m w : Ix → Nat) (ls : Nat → Nat) (Z : Ix → Int) (a : Nat) :
    isEnd (evTill Tryd.prog [] 300 (99) 900 77 [.code (bodyOf Tryd.f77)] (envOf [vP 63, vN (a : Nat)] Tryd.f77.ntmps) (sentEnts 19 144 [(0, t0), (4, t1)] ++ rB 60 M B ++ (rdE 63 64 N n raw ++ iE 64 65 n K F T C O m w ls Z)) ⟨[.s true, .t], 80⟩) (endP ([]) (.tup [(false, .vi .i64 fun _ => 0), (false, vErr 4)]) (rdE 63 64 N n raw ++ iE 64 65 n K F T C O m w ls Z) 200) =
    (OkL [(decide (IntKind.i64.wrap ((↑a : Int) + (2 : Int)) ≥ (↑N : Int)), true)] ∧ ((0 : Int) = (0 : Int) ∧ (0 : Nat) = (0 : Nat) ∧ True) ∧ (((0 : Nat) = (0 : Nat) ∧ N = N) ∧ raw = raw ∧ (0 : Nat) = (0 : Nat) ∧ n = n) ∧ (n = n ∧ (∀ (i : Nat), i < n → K [i] = K [i]) ∧ (∀ (i : Nat), i < n → F [i] = F [i]) ∧ (∀ (i : Nat), i < n → T [i] = T [i]) ∧ (∀ (i : Nat), i < n → C [i] = C [i]) ∧ (∀ (i : Nat), i < n → O [i] = O [i]) ∧ (∀ (i : Nat), i < n → m [i] = m [i]) ∧ ∀ (i : Nat), i < n → w [i] = w [i]) ∧ n = n ∧ ∀ (m : Nat), m < n → ls m = ls m ∧ ∀ (i : Nat), i < ls m → Z [m, i] = Z [m, i]) := by kernel_rfl

set_option maxHeartbeats 4000000 in
theorem sbS0 (t0 t1 : List UInt8) (N M n : Nat) (raw : Bool) (B K F T C O : Ix → Int) (m w : Ix → Nat) (ls : Nat → Nat) (Z : Ix → Int) (a : Nat) (hN : N ≤ 100000) (hM : N ≤ M) (hn : n ≤ 100000) (ha : N ≤ a + 2) (ha2 : a ≤ 100000)  :
    RunsTo Tryd.prog 77 [.code (bodyOf Tryd.f77)] (envOf [vP 63, vN (a : Nat)] Tryd.f77.ntmps) (Sx.look (sentEnts 19 144 [(0, t0), (4, t1)] ++ rB 60 M B ++ (rdE 63 64 N n raw ++ iE 64 65 n K F T C O m w ls Z))) 80 (.tup [(false, .vi .i64 fun _ => 0), (false, vErr 4)]) (Sx.look (rdE 63 64 N n raw ++ iE 64 65 n K F T C O m w ls Z)) 200 := by
  have w0 : IntKind.i64.wrap ((a : Int) + 2) = ((a + 2 : Nat) : Int) := by rw [wr64 (by omega)]; rfl
  have w1 : IntKind.i64.wrap ((a : Int) + 3) = ((a + 3 : Nat) : Int) := by rw [wr64 (by omega)]; rfl
  refine runs_last baseO (Sx.Ends.of (sbS0_p0 t0 t1 N M n raw B K F T C O m w ls Z a) ⟨?oo, ?rr⟩) (by kernel_rfl) rfl (gtL (by decide)) (by decide)
  case oo =>
    refine (okc ?_ okn)
    all_goals ((try simp (disch := omega) only [SS, w0, w1]); first | done | omega | assumption | (simp (disch := omega) only [SS, w0, w1] at *; first | done | omega | assumption) | (simp_all; done))
  case rr =>
    try simp (disch := omega) only [SS, w0, w1]
    repeat' apply And.intro
    all_goals first | exact True.intro | with_reducible rfl | omega | (intros; first | exact True.intro | with_reducible rfl | omega | (simp_all; done)) | (simp_all; done) | rfl

theorem sbS1_p0 (t0 t1 : List UInt8) (N M n : Nat) (raw : Bool) (B K F T C O : Ix → Int) (m w : Ix → Nat) (ls : Nat → Nat) (Z : Ix → Int) (a : Nat) :
    isMore (evTill Tryd.prog [] 300 (behindL Tryd.f77 0) 900 77 [.code (bodyOf Tryd.f77)] (envOf [vP 63, vN (a : Nat)] Tryd.f77.ntmps) (sentEnts 19 144 [(0, t0), (4, t1)] ++ rB 60 M B ++ (rdE 63 64 N n raw ++ iE 64 65 n K F T C O m w ls Z)) ⟨[.s false, .s true, .s true, .s true, .s false], 80⟩) (moreP (headL Tryd.f77 0) ([((101 : Nat), Rn.to (80 : Nat)), ((102 : Nat), Rn.nil (1 : Nat))]) Tryd.f77.ntmps ([(0, vP 63), (6, vP 101), (7, vN (a + 3 : Nat))]) (xE 101 102 a (B [a + 2]) ([] : List UInt8) ++ (rdE 63 64 N n raw ++ iE 64 65 n K F T C O m w ls Z)) 200) =
    (OkL [(decide (IntKind.i64.wrap ((↑a : Int) + (2 : Int)) ≥ (↑N : Int)), false), (decide ((0 : Int) ≤ IntKind.i64.wrap ((↑a : Int) + (2 : Int)) ∧ IntKind.i64.wrap ((↑a : Int) + (2 : Int)) < (↑N : Int)), true), (((0 : Nat) + (IntKind.i64.wrap ((↑a : Int) + (2 : Int))).toNat).blt M, true), (((0 : Nat) + (IntKind.i64.wrap ((↑a : Int) + (2 : Int))).toNat).blt M, true), (decide (IntKind.i64.wrap (B [(0 : Nat) + (IntKind.i64.wrap ((↑a : Int) + (2 : Int))).toNat]) < (0 : Int)), false)] ∧ headL Tryd.f77 (0 : Nat) = headL Tryd.f77 (0 : Nat) ∧ ((0 : Nat) = (0 : Nat) ∧ (0 : Nat) = (0 : Nat) ∧ (↑(a + (3 : Nat)) : Int) = IntKind.i64.wrap ((↑a : Int) + (3 : Int))) ∧ ((5 : Int) = (5 : Int) ∧ (↑a : Int) = (↑a : Int) ∧ (0 : Int) = (0 : Int) ∧ (0 : Int) = (0 : Int) ∧ B [a + (2 : Nat)] = IntKind.i64.wrap (B [(0 : Nat) + (IntKind.i64.wrap ((↑a : Int) + (2 : Int))).toNat]) ∧ (0 : Nat) = (0 : Nat)) ∧ (0 : Nat) = (0 : Nat) ∧ (((0 : Nat) = (0 : Nat) ∧ N = N) ∧ raw = raw ∧ (0 : Nat) = (0 : Nat) ∧ n = n) ∧ (n = n ∧ (∀ (i : Nat), i < n → K [i] = K [i]) ∧ (∀ (i : Nat), i < n → F [i] = F [i]) ∧ (∀ (i : Nat), i < n → T [i] = T [i]) ∧ (∀ (i : Nat), i < n → C [i] = C [i]) ∧ (∀ (i : Nat), i < n → O [i] = O [i]) ∧ (∀ (i : Nat), i < n → m [i] = m [i]) ∧ ∀ (i : Nat), i < n → w [i] = w [i]) ∧ n = n ∧ ∀ (m : Nat), m < n → ls m = ls m ∧ ∀ (i : Nat), i < ls m → Z [m, i] = Z [m, i]) := by kernel_rfl

set_option maxHeartbeats 4000000 in
theorem sbS1 (t0 t1 : List UInt8) (N M n : Nat) (raw : Bool) (B K F T C O : Ix → Int) (m w : Ix → Nat) (ls : Nat → Nat) (Z : Ix → Int) (a : Nat) (hN : N ≤ 100000) (hM : N ≤ M) (hn : n ≤ 100000) (ha : a + 2 < N) (hb : 0 ≤ B [a + 2] ∧ B [a + 2] < 256)  (v : SV) (L' : HF) (next : RunsTo Tryd.prog 77 (headL Tryd.f77 0) (envAt Tryd.f77.ntmps ([(0, vP 63), (6, vP 101), (7, vN (a + 3 : Nat))])) (Sx.look (sentEnts 19 144 [(0, t0), (4, t1)] ++ rB 60 M B ++ (xE 101 102 a (B [a + 2]) ([] : List UInt8) ++ (rdE 63 64 N n raw ++ iE 64 65 n K F T C O m w ls Z)))) 80 (v) (L') 200) :
    RunsTo Tryd.prog 77 [.code (bodyOf Tryd.f77)] (envOf [vP 63, vN (a : Nat)] Tryd.f77.ntmps) (Sx.look (sentEnts 19 144 [(0, t0), (4, t1)] ++ rB 60 M B ++ (rdE 63 64 N n raw ++ iE 64 65 n K F T C O m w ls Z))) 80 (v) (L') 200 := by
  have w0 : IntKind.i64.wrap ((a : Int) + 2) = ((a + 2 : Nat) : Int) := by rw [wr64 (by omega)]; rfl
  have w1 : IntKind.i64.wrap ((a : Int) + 3) = ((a + 3 : Nat) : Int) := by rw [wr64 (by omega)]; rfl
  have b0 : IntKind.i64.wrap (B [a + 2]) = B [a + 2] := wr64 (by omega)
  refine runs_more baseO (More.of (sbS1_p0 t0 t1 N M n raw B K F T C O m w ls Z a) ⟨?oo, rfl, ?rr⟩) (by kernel_rfl) (by kernel_rfl) rfl (gtL (by decide)) (by decide) next
  case oo =>
    clear next
    refine (okc ?_ (okc ?_ (okc ?_ (okc ?_ (okc ?_ okn)))))
    all_goals ((try simp (disch := omega) only [SS, w0, w1, b0]); first | done | omega | assumption | (simp (disch := omega) only [SS, w0, w1, b0] at *; first | done | omega | assumption) | (simp_all; done))
  case rr =>
    clear next
    try simp (disch := omega) only [SS, w0, w1, b0]
    repeat' apply And.intro
    all_goals first | exact True.intro | with_reducible rfl | omega | (intros; first | exact True.intro | with_reducible rfl | omega | (simp_all; done)) | (simp_all; done) | rfl

theorem sbN_p0 (t0 t1 : List UInt8) (N M n : Nat) (raw : Bool) (B K F T C O : Ix → Int) (m w : Ix → Nat) (ls : Nat → Nat) (Z : Ix → Int) (a : Nat) (o : Int) (b : List UInt8) (i : Nat) :
    isEnd (evTill Tryd.prog [] 300 (99) 900 77 (headL Tryd.f77 0) (envAt Tryd.f77.ntmps ([(0, vP 63), (6, vP 101), (7, vN (i : Nat))])) (sentEnts 19 144 [(0, t0), (4, t1)] ++ rB 60 M B ++ (xE 101 102 a o b ++ (rdE 63 64 N n raw ++ iE 64 65 n K F T C O m w ls Z))) ⟨[.s true, .s true, .t], 110⟩) (endP ([]) (.tup [(false, .vi .i64 fun _ => 0), (false, vErr 4)]) (rdE 63 64 N n raw ++ iE 64 65 n K F T C O m w ls Z) 200) =
    (OkL [(decide ((↑i : Int) ≥ (↑N : Int)), true), (decide (IntKind.i64.wrap ((↑i : Int) + (1 : Int)) ≥ (↑N : Int)), true)] ∧ ((0 : Int) = (0 : Int) ∧ (0 : Nat) = (0 : Nat) ∧ True) ∧ (((0 : Nat) = (0 : Nat) ∧ N = N) ∧ raw = raw ∧ (0 : Nat) = (0 : Nat) ∧ n = n) ∧ (n = n ∧ (∀ (i : Nat), i < n → K [i] = K [i]) ∧ (∀ (i : Nat), i < n → F [i] = F [i]) ∧ (∀ (i : Nat), i < n → T [i] = T [i]) ∧ (∀ (i : Nat), i < n → C [i] = C [i]) ∧ (∀ (i : Nat), i < n → O [i] = O [i]) ∧ (∀ (i : Nat), i < n → m [i] = m [i]) ∧ ∀ (i : Nat), i < n → w [i] = w [i]) ∧ n = n ∧ ∀ (m : Nat), m < n → ls m = ls m ∧ ∀ (i : Nat), i < ls m → Z [m, i] = Z [m, i]) := by kernel_rfl

set_option maxHeartbeats 4000000 in
theorem sbN (t0 t1 : List UInt8) (N M n : Nat) (raw : Bool) (B K F T C O : Ix → Int) (m w : Ix → Nat) (ls : Nat → Nat) (Z : Ix → Int) (a : Nat) (o : Int) (b : List UInt8) (i : Nat) (hN : N ≤ 100000) (hM : N ≤ M) (hn : n ≤ 100000) (hi : N ≤ i) (hi2 : i ≤ 200000)  :
    RunsTo Tryd.prog 77 (headL Tryd.f77 0) (envAt Tryd.f77.ntmps ([(0, vP 63), (6, vP 101), (7, vN (i : Nat))])) (Sx.look (sentEnts 19 144 [(0, t0), (4, t1)] ++ rB 60 M B ++ (xE 101 102 a o b ++ (rdE 63 64 N n raw ++ iE 64 65 n K F T C O m w ls Z)))) 80 (.tup [(false, .vi .i64 fun _ => 0), (false, vErr 4)]) (Sx.look (rdE 63 64 N n raw ++ iE 64 65 n K F T C O m w ls Z)) 200 := by
  have w0 : IntKind.i64.wrap ((i : Int) + 1) = ((i + 1 : Nat) : Int) := by rw [wr64 (by omega)]; rfl
  have w1 : IntKind.i64.wrap ((i : Int) + 2) = ((i + 2 : Nat) : Int) := by rw [wr64 (by omega)]; rfl
  refine runs_last baseO (Sx.Ends.of (sbN_p0 t0 t1 N M n raw B K F T C O m w ls Z a o b i) ⟨?oo, ?rr⟩) (by kernel_rfl) rfl (gtL (by decide)) (by decide)
  case oo =>
    refine (okc ?_ (okc ?_ okn))
    all_goals ((try simp (disch := omega) only [SS, w0, w1]); first | done | omega | assumption | (simp (disch := omega) only [SS, w0, w1] at *; first | done | omega | assumption) | (simp_all; done))
  case rr =>
    try simp (disch := omega) only [SS, w0, w1]
    repeat' apply And.intro
    all_goals first | exact True.intro | with_reducible rfl | omega | (intros; first | exact True.intro | with_reducible rfl | omega | (simp_all; done)) | (simp_all; done) | rfl

theorem sbC_p0 (t0 t1 : List UInt8) (N M n : Nat) (raw : Bool) (B K F T C O : Ix → Int) (m w : Ix → Nat) (ls : Nat → Nat) (Z : Ix → Int) (a : Nat) (o : Int) (b : List UInt8) (i : Nat) :
    isEnd (evTill Tryd.prog [] 300 (99) 900 77 (headL Tryd.f77 0) (envAt Tryd.f77.ntmps ([(0, vP 63), (6, vP 101), (7, vN (i : Nat))])) (sentEnts 19 144 [(0, t0), (4, t1)] ++ rB 60 M B ++ (xE 101 102 a o b ++ (rdE 63 64 N n raw ++ iE 64 65 n K F T C O m w ls Z))) ⟨[.s false, .s true, .s true, .s true, .s true, .s false, .s true, .t], 110⟩) (endP ([]) (.tup [(false, .vi .i64 fun _ => 0), (false, vErr 4)]) (rdE 63 64 N n raw ++ iE 64 65 n K F T C O m w ls Z) 200) =
    (OkL [(decide ((↑i : Int) ≥ (↑N : Int)), false), (decide ((0 : Int) ≤ (↑i : Int) ∧ (↑i : Int) < (↑N : Int)), true), (((0 : Nat) + (↑i : Int).toNat).blt M, true), (((0 : Nat) + (↑i : Int).toNat).blt M, true), (decide (IntKind.i64.wrap ((↑i : Int) + (1 : Int)) ≥ (↑N : Int)), true), (decide (IntKind.i64.wrap (B [(0 : Nat) + (↑i : Int).toNat]) < (0 : Int)), false), (IntKind.i64.wrap (B [(0 : Nat) + (↑i : Int).toNat]) == (255 : Int), true)] ∧ ((0 : Int) = (0 : Int) ∧ (0 : Nat) = (0 : Nat) ∧ True) ∧ (((0 : Nat) = (0 : Nat) ∧ N = N) ∧ raw = raw ∧ (0 : Nat) = (0 : Nat) ∧ n = n) ∧ (n = n ∧ (∀ (i : Nat), i < n → K [i] = K [i]) ∧ (∀ (i : Nat), i < n → F [i] = F [i]) ∧ (∀ (i : Nat), i < n → T [i] = T [i]) ∧ (∀ (i : Nat), i < n → C [i] = C [i]) ∧ (∀ (i : Nat), i < n → O [i] = O [i]) ∧ (∀ (i : Nat), i < n → m [i] = m [i]) ∧ ∀ (i : Nat), i < n → w [i] = w [i]) ∧ n = n ∧ ∀ (m : Nat), m < n → ls m = ls m ∧ ∀ (i : Nat), i < ls m → Z [m, i] = Z [m, i]) := by kernel_rfl

set_option maxHeartbeats 4000000 in
theorem sbC (t0 t1 : List UInt8) (N M n : Nat) (raw : Bool) (B K F T C O : Ix → Int) (m w : Ix → Nat) (ls : Nat → Nat) (Z : Ix → Int) (a : Nat) (o : Int) (b : List UInt8) (i : Nat) (hN : N ≤ 100000) (hM : N ≤ M) (hn : n ≤ 100000) (hb : b.length ≤ 100000) (h0 : 0 ≤ B [i] ∧ B [i] < 256) (hi : i + 1 = N) (h : B [i] = 255)  :
    RunsTo Tryd.prog 77 (headL Tryd.f77 0) (envAt Tryd.f77.ntmps ([(0, vP 63), (6, vP 101), (7, vN (i : Nat))])) (Sx.look (sentEnts 19 144 [(0, t0), (4, t1)] ++ rB 60 M B ++ (xE 101 102 a o b ++ (rdE 63 64 N n raw ++ iE 64 65 n K F T C O m w ls Z)))) 80 (.tup [(false, .vi .i64 fun _ => 0), (false, vErr 4)]) (Sx.look (rdE 63 64 N n raw ++ iE 64 65 n K F T C O m w ls Z)) 200 := by
  have w0 : IntKind.i64.wrap ((i : Int) + 1) = ((i + 1 : Nat) : Int) := by rw [wr64 (by omega)]; rfl
  have w1 : IntKind.i64.wrap ((i : Int) + 2) = ((i + 2 : Nat) : Int) := by rw [wr64 (by omega)]; rfl
  have b0 : IntKind.i64.wrap (B [i]) = B [i] := wr64 (by omega)
  refine runs_last baseO (Sx.Ends.of (sbC_p0 t0 t1 N M n raw B K F T C O m w ls Z a o b i) ⟨?oo, ?rr⟩) (by kernel_rfl) rfl (gtL (by decide)) (by decide)
  case oo =>
    refine (okc ?_ (okc ?_ (okc ?_ (okc ?_ (okc ?_ (okc ?_ (okc ?_ okn)))))))
    all_goals ((try simp (disch := omega) only [SS, w0, w1, b0, Go.Sx.sum, List.length_append, List.length_cons, List.length_nil, h]); first | done | omega | assumption | (simp (disch := omega) only [SS, w0, w1, b0, Go.Sx.sum, List.length_append, List.length_cons, List.length_nil, h] at *; first | done | omega | assumption) | (simp_all; done))
  case rr =>
    try simp (disch := omega) only [SS, w0, w1, b0, Go.Sx.sum, List.length_append, List.length_cons, List.length_nil, h]
    repeat' apply And.intro
    all_goals first | exact True.intro | with_reducible rfl | omega | (intros; first | exact True.intro | with_reducible rfl | omega | (simp_all; done)) | (simp_all; done) | rfl

theorem sbB_p0 (t0 t1 : List UInt8) (N M n : Nat) (raw : Bool) (B K F T C O : Ix → Int) (m w : Ix → Nat) (ls : Nat → Nat) (Z : Ix → Int) (a : Nat) (o : Int) (b : List UInt8) (i : Nat) (c : UInt8) :
    isMore (evTill Tryd.prog [] 300 (behindL Tryd.f77 0) 900 77 (headL Tryd.f77 0) (envAt Tryd.f77.ntmps ([(0, vP 63), (6, vP 101), (7, vN (i : Nat))])) (sentEnts 19 144 [(0, t0), (4, t1)] ++ rB 60 M B ++ (xE 101 102 a o b ++ (rdE 63 64 N n raw ++ iE 64 65 n K F T C O m w ls Z))) ⟨[.s false, .s true, .s true, .s true, .s false, .s true, .s true, .s true, .s false, .s false, .s true, .t, .s true, .s true], 110⟩) (moreP (headL Tryd.f77 0) ([((102 : Nat), Rn.to (111 : Nat))]) Tryd.f77.ntmps ([(0, vP 63), (6, vP 101), (7, vN (i + 1 : Nat))]) (xE 101 102 a o (b ++ [c]) ++ (rdE 63 64 N n raw ++ iE 64 65 n K F T C O m w ls Z)) 200) =
    (OkL [(decide ((↑i : Int) ≥ (↑N : Int)), false), (decide ((0 : Int) ≤ (↑i : Int) ∧ (↑i : Int) < (↑N : Int)), true), (((0 : Nat) + (↑i : Int).toNat).blt M, true), (((0 : Nat) + (↑i : Int).toNat).blt M, true), (decide (IntKind.i64.wrap ((↑i : Int) + (1 : Int)) ≥ (↑N : Int)), false), (decide ((0 : Int) ≤ IntKind.i64.wrap ((↑i : Int) + (1 : Int)) ∧ IntKind.i64.wrap ((↑i : Int) + (1 : Int)) < (↑N : Int)), true), (((0 : Nat) + (IntKind.i64.wrap ((↑i : Int) + (1 : Int))).toNat).blt M, true), (((0 : Nat) + (IntKind.i64.wrap ((↑i : Int) + (1 : Int))).toNat).blt M, true), (decide (IntKind.i64.wrap (B [(0 : Nat) + (↑i : Int).toNat]) < (0 : Int)), false), (IntKind.i64.wrap (B [(0 : Nat) + (↑i : Int).toNat]) == (255 : Int), false), (IntKind.i64.wrap (B [(0 : Nat) + (↑i : Int).toNat]) != (255 : Int), true), (((0 : Nat) + b.length).ble b.length, true), (decide (((2 : Nat) * (b.length + (1 : Nat)) + (192 : Nat)) * (1 : Nat) ≤ (281474976710656 : Nat)), true)] ∧ headL Tryd.f77 (0 : Nat) = headL Tryd.f77 (0 : Nat) ∧ ((0 : Nat) = (0 : Nat) ∧ (0 : Nat) = (0 : Nat) ∧ (↑(i + (1 : Nat)) : Int) = IntKind.i64.wrap ((↑i : Int) + (1 : Int))) ∧ ((5 : Int) = (5 : Int) ∧ (↑a : Int) = (↑a : Int) ∧ (0 : Int) = (0 : Int) ∧ (0 : Int) = (0 : Int) ∧ o = o ∧ (0 : Nat) = (0 : Nat) ∧ (b ++ [c]).length = b.length + (1 : Nat)) ∧ ((b ++ [c]).length = b.length + (1 : Nat) ∧ ∀ (i_1 : Nat), i_1 < (b ++ [c]).length → (↑((b ++ [c]).getD i_1 (0 : UInt8)).toNat : Int) = appF b.length (0 : Nat) (fun is => (↑(b.getD (List.headD is (0 : Nat)) (0 : UInt8)).toNat : Int)) (fun js => IntKind.u8.wrap (IntKind.i64.wrap (B [(0 : Nat) + (↑i : Int).toNat]))) [i_1]) ∧ (((0 : Nat) = (0 : Nat) ∧ N = N) ∧ raw = raw ∧ (0 : Nat) = (0 : Nat) ∧ n = n) ∧ (n = n ∧ (∀ (i : Nat), i < n → K [i] = K [i]) ∧ (∀ (i : Nat), i < n → F [i] = F [i]) ∧ (∀ (i : Nat), i < n → T [i] = T [i]) ∧ (∀ (i : Nat), i < n → C [i] = C [i]) ∧ (∀ (i : Nat), i < n → O [i] = O [i]) ∧ (∀ (i : Nat), i < n → m [i] = m [i]) ∧ ∀ (i : Nat), i < n → w [i] = w [i]) ∧ n = n ∧ ∀ (m : Nat), m < n → ls m = ls m ∧ ∀ (i : Nat), i < ls m → Z [m, i] = Z [m, i]) := by kernel_rfl

set_option maxHeartbeats 4000000 in
theorem sbB (t0 t1 : List UInt8) (N M n : Nat) (raw : Bool) (B K F T C O : Ix → Int) (m w : Ix → Nat) (ls : Nat → Nat) (Z : Ix → Int) (a : Nat) (o : Int) (b : List UInt8) (i : Nat) (c : UInt8) (hN : N ≤ 100000) (hM : N ≤ M) (hn : n ≤ 100000) (hb : b.length ≤ 100000) (h0 : 0 ≤ B [i] ∧ B [i] < 256) (hi : i + 1 < N) (h1 : 0 ≤ B [i + 1] ∧ B [i + 1] < 256) (h : B [i] ≠ 255) (hc : B [i] = (c.toNat : Int))  (v : SV) (L' : HF) (next : RunsTo Tryd.prog 77 (headL Tryd.f77 0) (envAt Tryd.f77.ntmps ([(0, vP 63), (6, vP 101), (7, vN (i + 1 : Nat))])) (Sx.look (sentEnts 19 144 [(0, t0), (4, t1)] ++ rB 60 M B ++ (xE 101 102 a o (b ++ [c]) ++ (rdE 63 64 N n raw ++ iE 64 65 n K F T C O m w ls Z)))) 80 (v) (L') 200) :
    RunsTo Tryd.prog 77 (headL Tryd.f77 0) (envAt Tryd.f77.ntmps ([(0, vP 63), (6, vP 101), (7, vN (i : Nat))])) (Sx.look (sentEnts 19 144 [(0, t0), (4, t1)] ++ rB 60 M B ++ (xE 101 102 a o b ++ (rdE 63 64 N n raw ++ iE 64 65 n K F T C O m w ls Z)))) 80 (v) (L') 200 := by
  have w0 : IntKind.i64.wrap ((i : Int) + 1) = ((i + 1 : Nat) : Int) := by rw [wr64 (by omega)]; rfl
  have w1 : IntKind.i64.wrap ((i : Int) + 2) = ((i + 2 : Nat) : Int) := by rw [wr64 (by omega)]; rfl
  have b0 : IntKind.i64.wrap (B [i]) = B [i] := wr64 (by omega)
  have b1 : IntKind.i64.wrap (B [i + 1]) = B [i + 1] := wr64 (by omega)
  have hu : IntKind.u8.wrap (B [i]) = (c.toNat : Int) := by rw [u8id h0, hc]
  refine runs_more baseO (More.of (sbB_p0 t0 t1 N M n raw B K F T C O m w ls Z a o b i c) ⟨?oo, rfl, ?rr⟩) (by kernel_rfl) (by kernel_rfl) rfl (gtL (by decide)) (by decide) next
  case oo =>
    clear next
    refine (okc ?_ (okc ?_ (okc ?_ (okc ?_ (okc ?_ (okc ?_ (okc ?_ (okc ?_ (okc ?_ (okc ?_ (okc ?_ (okc ?_ (okc ?_ okn)))))))))))))
    all_goals ((try simp (disch := omega) only [SS, w0, w1, b0, Go.Sx.sum, List.length_append, List.length_cons, List.length_nil, b1]); first | done | omega | assumption | (simp (disch := omega) only [SS, w0, w1, b0, Go.Sx.sum, List.length_append, List.length_cons, List.length_nil, b1] at *; first | done | omega | assumption) | (simp_all; done))
  case rr =>
    clear next
    try simp (disch := omega) only [SS, w0, w1, b0, Go.Sx.sum, List.length_append, List.length_cons, List.length_nil]
    repeat' apply And.intro
    all_goals first | exact True.intro | with_reducible rfl | omega | exact app_byte1 b _ _ (by first | exact hu | (simpa [subIx] using hu) | rfl | (simp only [subIx, List.tail]; simp_all)) | (simp_all; done) | rfl

theorem sbBl_p0 (t0 t1 : List UInt8) (N M n : Nat) (raw : Bool) (B K F T C O : Ix → Int) (m w : Ix → Nat) (ls : Nat → Nat) (Z : Ix → Int) (a : Nat) (o : Int) (b : List UInt8) (i : Nat) (c : UInt8) :
    isMore (evTill Tryd.prog [] 300 (behindL Tryd.f77 0) 900 77 (headL Tryd.f77 0) (envAt Tryd.f77.ntmps ([(0, vP 63), (6, vP 101), (7, vN (i : Nat))])) (sentEnts 19 144 [(0, t0), (4, t1)] ++ rB 60 M B ++ (xE 101 102 a o b ++ (rdE 63 64 N n raw ++ iE 64 65 n K F T C O m w ls Z))) ⟨[.s false, .s true, .s true, .s true, .s true, .s false, .s false, .s true, .t, .s true, .s true], 110⟩) (moreP (headL Tryd.f77 0) ([((102 : Nat), Rn.to (111 : Nat))]) Tryd.f77.ntmps ([(0, vP 63), (6, vP 101), (7, vN (i + 1 : Nat))]) (xE 101 102 a o (b ++ [c]) ++ (rdE 63 64 N n raw ++ iE 64 65 n K F T C O m w ls Z)) 200) =
    (OkL [(decide ((↑i : Int) ≥ (↑N : Int)), false), (decide ((0 : Int) ≤ (↑i : Int) ∧ (↑i : Int) < (↑N : Int)), true), (((0 : Nat) + (↑i : Int).toNat).blt M, true), (((0 : Nat) + (↑i : Int).toNat).blt M, true), (decide (IntKind.i64.wrap ((↑i : Int) + (1 : Int)) ≥ (↑N : Int)), true), (decide (IntKind.i64.wrap (B [(0 : Nat) + (↑i : Int).toNat]) < (0 : Int)), false), (IntKind.i64.wrap (B [(0 : Nat) + (↑i : Int).toNat]) == (255 : Int), false), (IntKind.i64.wrap (B [(0 : Nat) + (↑i : Int).toNat]) != (255 : Int), true), (((0 : Nat) + b.length).ble b.length, true), (decide (((2 : Nat) * (b.length + (1 : Nat)) + (192 : Nat)) * (1 : Nat) ≤ (281474976710656 : Nat)), true)] ∧ headL Tryd.f77 (0 : Nat) = headL Tryd.f77 (0 : Nat) ∧ ((0 : Nat) = (0 : Nat) ∧ (0 : Nat) = (0 : Nat) ∧ (↑(i + (1 : Nat)) : Int) = IntKind.i64.wrap ((↑i : Int) + (1 : Int))) ∧ ((5 : Int) = (5 : Int) ∧ (↑a : Int) = (↑a : Int) ∧ (0 : Int) = (0 : Int) ∧ (0 : Int) = (0 : Int) ∧ o = o ∧ (0 : Nat) = (0 : Nat) ∧ (b ++ [c]).length = b.length + (1 : Nat)) ∧ ((b ++ [c]).length = b.length + (1 : Nat) ∧ ∀ (i_1 : Nat), i_1 < (b ++ [c]).length → (↑((b ++ [c]).getD i_1 (0 : UInt8)).toNat : Int) = appF b.length (0 : Nat) (fun is => (↑(b.getD (List.headD is (0 : Nat)) (0 : UInt8)).toNat : Int)) (fun js => IntKind.u8.wrap (IntKind.i64.wrap (B [(0 : Nat) + (↑i : Int).toNat]))) [i_1]) ∧ (((0 : Nat) = (0 : Nat) ∧ N = N) ∧ raw = raw ∧ (0 : Nat) = (0 : Nat) ∧ n = n) ∧ (n = n ∧ (∀ (i : Nat), i < n → K [i] = K [i]) ∧ (∀ (i : Nat), i < n → F [i] = F [i]) ∧ (∀ (i : Nat), i < n → T [i] = T [i]) ∧ (∀ (i : Nat), i < n → C [i] = C [i]) ∧ (∀ (i : Nat), i < n → O [i] = O [i]) ∧ (∀ (i : Nat), i < n → m [i] = m [i]) ∧ ∀ (i : Nat), i < n → w [i] = w [i]) ∧ n = n ∧ ∀ (m : Nat), m < n → ls m = ls m ∧ ∀ (i : Nat), i < ls m → Z [m, i] = Z [m, i]) := by kernel_rfl

set_option maxHeartbeats 4000000 in
theorem sbBl (t0 t1 : List UInt8) (N M n : Nat) (raw : Bool) (B K F T C O : Ix → Int) (m w : Ix → Nat) (ls : Nat → Nat) (Z : Ix → Int) (a : Nat) (o : Int) (b : List UInt8) (i : Nat) (c : UInt8) (hN : N ≤ 100000) (hM : N ≤ M) (hn : n ≤ 100000) (hb : b.length ≤ 100000) (h0 : 0 ≤ B [i] ∧ B [i] < 256) (hi : i + 1 = N) (h : B [i] ≠ 255) (hc : B [i] = (c.toNat : Int))  (v : SV) (L' : HF) (next : RunsTo Tryd.prog 77 (headL Tryd.f77 0) (envAt Tryd.f77.ntmps ([(0, vP 63), (6, vP 101), (7, vN (i + 1 : Nat))])) (Sx.look (sentEnts 19 144 [(0, t0), (4, t1)] ++ rB 60 M B ++ (xE 101 102 a o (b ++ [c]) ++ (rdE 63 64 N n raw ++ iE 64 65 n K F T C O m w ls Z)))) 80 (v) (L') 200) :
    RunsTo Tryd.prog 77 (headL Tryd.f77 0) (envAt Tryd.f77.ntmps ([(0, vP 63), (6, vP 101), (7, vN (i : Nat))])) (Sx.look (sentEnts 19 144 [(0, t0), (4, t1)] ++ rB 60 M B ++ (xE 101 102 a o b ++ (rdE 63 64 N n raw ++ iE 64 65 n K F T C O m w ls Z)))) 80 (v) (L') 200 := by
  have w0 : IntKind.i64.wrap ((i : Int) + 1) = ((i + 1 : Nat) : Int) := by rw [wr64 (by omega)]; rfl
  have w1 : IntKind.i64.wrap ((i : Int) + 2) = ((i + 2 : Nat) : Int) := by rw [wr64 (by omega)]; rfl
  have b0 : IntKind.i64.wrap (B [i]) = B [i] := wr64 (by omega)
  have hu : IntKind.u8.wrap (B [i]) = (c.toNat : Int) := by rw [u8id h0, hc]
  refine runs_more baseO (More.of (sbBl_p0 t0 t1 N M n raw B K F T C O m w ls Z a o b i c) ⟨?oo, rfl, ?rr⟩) (by kernel_rfl) (by kernel_rfl) rfl (gtL (by decide)) (by decide) next
  case oo =>
    clear next
    refine (okc ?_ (okc ?_ (okc ?_ (okc ?_ (okc ?_ (okc ?_ (okc ?_ (okc ?_ (okc ?_ (okc ?_ okn))))))))))
    all_goals ((try simp (disch := omega) only [SS, w0, w1, b0, Go.Sx.sum, List.length_append, List.length_cons, List.length_nil]); first | done | omega | assumption | (simp (disch := omega) only [SS, w0, w1, b0, Go.Sx.sum, List.length_append, List.length_cons, List.length_nil] at *; first | done | omega | assumption) | (simp_all; done))
  case rr =>
    clear next
    try simp (disch := omega) only [SS, w0, w1, b0, Go.Sx.sum, List.length_append, List.length_cons, List.length_nil]
    repeat' apply And.intro
    all_goals first | exact True.intro | with_reducible rfl | omega | exact app_byte1 b _ _ (by first | exact hu | (simpa [subIx] using hu) | rfl | (simp only [subIx, List.tail]; simp_all)) | (simp_all; done) | rfl

theorem sbQ_p0 (t0 t1 : List UInt8) (N M n : Nat) (raw : Bool) (B K F T C O : Ix → Int) (m w : Ix → Nat) (ls : Nat → Nat) (Z : Ix → Int) (a : Nat) (o : Int) (b : List UInt8) (i : Nat) :
    isMore (evTill Tryd.prog [] 300 (behindL Tryd.f77 0) 900 77 (headL Tryd.f77 0) (envAt Tryd.f77.ntmps ([(0, vP 63), (6, vP 101), (7, vN (i : Nat))])) (sentEnts 19 144 [(0, t0), (4, t1)] ++ rB 60 M B ++ (xE 101 102 a o b ++ (rdE 63 64 N n raw ++ iE 64 65 n K F T C O m w ls Z))) ⟨[.s false, .s true, .s true, .s true, .s false, .s true, .s true, .s true, .s false, .s true, .s false, .s false, .s true, .t, .s true, .s true], 110⟩) (moreP (headL Tryd.f77 0) ([((102 : Nat), Rn.to (111 : Nat))]) Tryd.f77.ntmps ([(0, vP 63), (6, vP 101), (7, vN (i + 2 : Nat))]) (xE 101 102 a o (b ++ [255]) ++ (rdE 63 64 N n raw ++ iE 64 65 n K F T C O m w ls Z)) 200) =
    (OkL [(decide ((↑i : Int) ≥ (↑N : Int)), false), (decide ((0 : Int) ≤ (↑i : Int) ∧ (↑i : Int) < (↑N : Int)), true), (((0 : Nat) + (↑i : Int).toNat).blt M, true), (((0 : Nat) + (↑i : Int).toNat).blt M, true), (decide (IntKind.i64.wrap ((↑i : Int) + (1 : Int)) ≥ (↑N : Int)), false), (decide ((0 : Int) ≤ IntKind.i64.wrap ((↑i : Int) + (1 : Int)) ∧ IntKind.i64.wrap ((↑i : Int) + (1 : Int)) < (↑N : Int)), true), (((0 : Nat) + (IntKind.i64.wrap ((↑i : Int) + (1 : Int))).toNat).blt M, true), (((0 : Nat) + (IntKind.i64.wrap ((↑i : Int) + (1 : Int))).toNat).blt M, true), (decide (IntKind.i64.wrap (B [(0 : Nat) + (↑i : Int).toNat]) < (0 : Int)), false), (IntKind.i64.wrap (B [(0 : Nat) + (↑i : Int).toNat]) == (255 : Int), true), (decide (IntKind.i64.wrap (B [(0 : Nat) + (IntKind.i64.wrap ((↑i : Int) + (1 : Int))).toNat]) < (0 : Int)), false), (IntKind.i64.wrap (B [(0 : Nat) + (↑i : Int).toNat]) != (255 : Int), false), (IntKind.i64.wrap (B [(0 : Nat) + (IntKind.i64.wrap ((↑i : Int) + (1 : Int))).toNat]) == (255 : Int), true), (((0 : Nat) + b.length).ble b.length, true), (decide (((2 : Nat) * (b.length + (1 : Nat)) + (192 : Nat)) * (1 : Nat) ≤ (281474976710656 : Nat)), true)] ∧ headL Tryd.f77 (0 : Nat) = headL Tryd.f77 (0 : Nat) ∧ ((0 : Nat) = (0 : Nat) ∧ (0 : Nat) = (0 : Nat) ∧ (↑(i + (2 : Nat)) : Int) = IntKind.i64.wrap ((↑i : Int) + (2 : Int))) ∧ ((5 : Int) = (5 : Int) ∧ (↑a : Int) = (↑a : Int) ∧ (0 : Int) = (0 : Int) ∧ (0 : Int) = (0 : Int) ∧ o = o ∧ (0 : Nat) = (0 : Nat) ∧ (b ++ [(255 : UInt8)]).length = b.length + (1 : Nat)) ∧ ((b ++ [(255 : UInt8)]).length = b.length + (1 : Nat) ∧ ∀ (i : Nat), i < (b ++ [(255 : UInt8)]).length → (↑((b ++ [(255 : UInt8)]).getD i (0 : UInt8)).toNat : Int) = appF b.length (0 : Nat) (fun is => (↑(b.getD (List.headD is (0 : Nat)) (0 : UInt8)).toNat : Int)) (fun js => (255 : Int)) [i]) ∧ (((0 : Nat) = (0 : Nat) ∧ N = N) ∧ raw = raw ∧ (0 : Nat) = (0 : Nat) ∧ n = n) ∧ (n = n ∧ (∀ (i : Nat), i < n → K [i] = K [i]) ∧ (∀ (i : Nat), i < n → F [i] = F [i]) ∧ (∀ (i : Nat), i < n → T [i] = T [i]) ∧ (∀ (i : Nat), i < n → C [i] = C [i]) ∧ (∀ (i : Nat), i < n → O [i] = O [i]) ∧ (∀ (i : Nat), i < n → m [i] = m [i]) ∧ ∀ (i : Nat), i < n → w [i] = w [i]) ∧ n = n ∧ ∀ (m : Nat), m < n → ls m = ls m ∧ ∀ (i : Nat), i < ls m → Z [m, i] = Z [m, i]) := by kernel_rfl

set_option maxHeartbeats 4000000 in
theorem sbQ (t0 t1 : List UInt8) (N M n : Nat) (raw : Bool) (B K F T C O : Ix → Int) (m w : Ix → Nat) (ls : Nat → Nat) (Z : Ix → Int) (a : Nat) (o : Int) (b : List UInt8) (i : Nat) (hN : N ≤ 100000) (hM : N ≤ M) (hn : n ≤ 100000) (hb : b.length ≤ 100000) (h0 : 0 ≤ B [i] ∧ B [i] < 256) (h1 : 0 ≤ B [i + 1] ∧ B [i + 1] < 256) (hi : i + 1 < N) (h : B [i] = 255) (h2 : B [i + 1] = 255)  (v : SV) (L' : HF) (next : RunsTo Tryd.prog 77 (headL Tryd.f77 0) (envAt Tryd.f77.ntmps ([(0, vP 63), (6, vP 101), (7, vN (i + 2 : Nat))])) (Sx.look (sentEnts 19 144 [(0, t0), (4, t1)] ++ rB 60 M B ++ (xE 101 102 a o (b ++ [255]) ++ (rdE 63 64 N n raw ++ iE 64 65 n K F T C O m w ls Z)))) 80 (v) (L') 200) :
    RunsTo Tryd.prog 77 (headL Tryd.f77 0) (envAt Tryd.f77.ntmps ([(0, vP 63), (6, vP 101), (7, vN (i : Nat))])) (Sx.look (sentEnts 19 144 [(0, t0), (4, t1)] ++ rB 60 M B ++ (xE 101 102 a o b ++ (rdE 63 64 N n raw ++ iE 64 65 n K F T C O m w ls Z)))) 80 (v) (L') 200 := by
  have w0 : IntKind.i64.wrap ((i : Int) + 1) = ((i + 1 : Nat) : Int) := by rw [wr64 (by omega)]; rfl
  have w1 : IntKind.i64.wrap ((i : Int) + 2) = ((i + 2 : Nat) : Int) := by rw [wr64 (by omega)]; rfl
  have b0 : IntKind.i64.wrap (B [i]) = B [i] := wr64 (by omega)
  have b1 : IntKind.i64.wrap (B [i + 1]) = B [i + 1] := wr64 (by omega)
  refine runs_more baseO (More.of (sbQ_p0 t0 t1 N M n raw B K F T C O m w ls Z a o b i) ⟨?oo, rfl, ?rr⟩) (by kernel_rfl) (by kernel_rfl) rfl (gtL (by decide)) (by decide) next
  case oo =>
    clear next
    refine (okc ?_ (okc ?_ (okc ?_ (okc ?_ (okc ?_ (okc ?_ (okc ?_ (okc ?_ (okc ?_ (okc ?_ (okc ?_ (okc ?_ (okc ?_ (okc ?_ (okc ?_ okn)))))))))))))))
    all_goals ((try simp (disch := omega) only [SS, w0, w1, b0, Go.Sx.sum, List.length_append, List.length_cons, List.length_nil, b1, h, h2]); first | done | omega | assumption | (simp (disch := omega) only [SS, w0, w1, b0, Go.Sx.sum, List.length_append, List.length_cons, List.length_nil, b1, h, h2] at *; first | done | omega | assumption) | (simp_all; done))
  case rr =>
    clear next
    try simp (disch := omega) only [SS, w0, w1, b0, Go.Sx.sum, List.length_append, List.length_cons, List.length_nil]
    repeat' apply And.intro
    all_goals first | exact True.intro | with_reducible rfl | omega | exact app_byte1 b _ _ (by first | rfl | (simp only [subIx, List.tail]; simp_all)) | (simp_all; done) | rfl

theorem sbF_p0 (t0 t1 : List UInt8) (N M n : Nat) (raw : Bool) (B K F T C O : Ix → Int) (m w : Ix → Nat) (ls : Nat → Nat) (Z : Ix → Int) (a : Nat) (o : Int) (b : List UInt8) (i : Nat) :
    isEnd (evTill Tryd.prog [] 300 (99) 900 77 (headL Tryd.f77 0) (envAt Tryd.f77.ntmps ([(0, vP 63), (6, vP 101), (7, vN (i : Nat))])) (sentEnts 19 144 [(0, t0), (4, t1)] ++ rB 60 M B ++ (xE 101 102 a o b ++ (rdE 63 64 N n raw ++ iE 64 65 n K F T C O m w ls Z))) ⟨[.s false, .s true, .s true, .s true, .s false, .s true, .s true, .s true, .s false, .s true, .s false, .s false, .s false, .s false], 110⟩) (endP ([]) (.tup [(false, .vi .i64 fun _ => 0), (false, vErr 0)]) (rdE 63 64 N n raw ++ iE 64 65 n K F T C O m w ls Z) 200) =
    (OkL [(decide ((↑i : Int) ≥ (↑N : Int)), false), (decide ((0 : Int) ≤ (↑i : Int) ∧ (↑i : Int) < (↑N : Int)), true), (((0 : Nat) + (↑i : Int).toNat).blt M, true), (((0 : Nat) + (↑i : Int).toNat).blt M, true), (decide (IntKind.i64.wrap ((↑i : Int) + (1 : Int)) ≥ (↑N : Int)), false), (decide ((0 : Int) ≤ IntKind.i64.wrap ((↑i : Int) + (1 : Int)) ∧ IntKind.i64.wrap ((↑i : Int) + (1 : Int)) < (↑N : Int)), true), (((0 : Nat) + (IntKind.i64.wrap ((↑i : Int) + (1 : Int))).toNat).blt M, true), (((0 : Nat) + (IntKind.i64.wrap ((↑i : Int) + (1 : Int))).toNat).blt M, true), (decide (IntKind.i64.wrap (B [(0 : Nat) + (↑i : Int).toNat]) < (0 : Int)), false), (IntKind.i64.wrap (B [(0 : Nat) + (↑i : Int).toNat]) == (255 : Int), true), (decide (IntKind.i64.wrap (B [(0 : Nat) + (IntKind.i64.wrap ((↑i : Int) + (1 : Int))).toNat]) < (0 : Int)), false), (IntKind.i64.wrap (B [(0 : Nat) + (↑i : Int).toNat]) != (255 : Int), false), (IntKind.i64.wrap (B [(0 : Nat) + (IntKind.i64.wrap ((↑i : Int) + (1 : Int))).toNat]) == (255 : Int), false), (IntKind.i64.wrap (B [(0 : Nat) + (IntKind.i64.wrap ((↑i : Int) + (1 : Int))).toNat]) == (240 : Int), false)] ∧ ((0 : Int) = (0 : Int) ∧ (0 : Nat) = (0 : Nat) ∧ True) ∧ (((0 : Nat) = (0 : Nat) ∧ N = N) ∧ raw = raw ∧ (0 : Nat) = (0 : Nat) ∧ n = n) ∧ (n = n ∧ (∀ (i : Nat), i < n → K [i] = K [i]) ∧ (∀ (i : Nat), i < n → F [i] = F [i]) ∧ (∀ (i : Nat), i < n → T [i] = T [i]) ∧ (∀ (i : Nat), i < n → C [i] = C [i]) ∧ (∀ (i : Nat), i < n → O [i] = O [i]) ∧ (∀ (i : Nat), i < n → m [i] = m [i]) ∧ ∀ (i : Nat), i < n → w [i] = w [i]) ∧ n = n ∧ ∀ (m : Nat), m < n → ls m = ls m ∧ ∀ (i : Nat), i < ls m → Z [m, i] = Z [m, i]) := by kernel_rfl

set_option maxHeartbeats 4000000 in
theorem sbF (t0 t1 : List UInt8) (N M n : Nat) (raw : Bool) (B K F T C O : Ix → Int) (m w : Ix → Nat) (ls : Nat → Nat) (Z : Ix → Int) (a : Nat) (o : Int) (b : List UInt8) (i : Nat) (hN : N ≤ 100000) (hM : N ≤ M) (hn : n ≤ 100000) (hb : b.length ≤ 100000) (h0 : 0 ≤ B [i] ∧ B [i] < 256) (h1 : 0 ≤ B [i + 1] ∧ B [i + 1] < 256) (hi : i + 1 < N) (h : B [i] = 255) (h2 : B [i + 1] ≠ 255) (h3 : B [i + 1] ≠ 240)  :
    RunsTo Tryd.prog 77 (headL Tryd.f77 0) (envAt Tryd.f77.ntmps ([(0, vP 63), (6, vP 101), (7, vN (i : Nat))])) (Sx.look (sentEnts 19 144 [(0, t0), (4, t1)] ++ rB 60 M B ++ (xE 101 102 a o b ++ (rdE 63 64 N n raw ++ iE 64 65 n K F T C O m w ls Z)))) 80 (.tup [(false, .vi .i64 fun _ => 0), (false, vErr 0)]) (Sx.look (rdE 63 64 N n raw ++ iE 64 65 n K F T C O m w ls Z)) 200 := by
  have w0 : IntKind.i64.wrap ((i : Int) + 1) = ((i + 1 : Nat) : Int) := by rw [wr64 (by omega)]; rfl
  have w1 : IntKind.i64.wrap ((i : Int) + 2) = ((i + 2 : Nat) : Int) := by rw [wr64 (by omega)]; rfl
  have b0 : IntKind.i64.wrap (B [i]) = B [i] := wr64 (by omega)
  have b1 : IntKind.i64.wrap (B [i + 1]) = B [i + 1] := wr64 (by omega)
  refine runs_last baseO (Sx.Ends.of (sbF_p0 t0 t1 N M n raw B K F T C O m w ls Z a o b i) ⟨?oo, ?rr⟩) (by kernel_rfl) rfl (gtL (by decide)) (by decide)
  case oo =>
    refine (okc ?_ (okc ?_ (okc ?_ (okc ?_ (okc ?_ (okc ?_ (okc ?_ (okc ?_ (okc ?_ (okc ?_ (okc ?_ (okc ?_ (okc ?_ (okc ?_ okn))))))))))))))
    all_goals ((try simp (disch := omega) only [SS, w0, w1, b0, Go.Sx.sum, List.length_append, List.length_cons, List.length_nil, b1, h]); first | done | omega | assumption | (simp (disch := omega) only [SS, w0, w1, b0, Go.Sx.sum, List.length_append, List.length_cons, List.length_nil, b1, h] at *; first | done | omega | assumption) | (simp_all; done))
  case rr =>
    try simp (disch := omega) only [SS, w0, w1, b0, Go.Sx.sum, List.length_append, List.length_cons, List.length_nil, b1, h]
    repeat' apply And.intro
    all_goals first | exact True.intro | with_reducible rfl | omega | (intros; first | exact True.intro | with_reducible rfl | omega | (simp_all; done)) | (simp_all; done) | rfl

theorem sbE_p0 (t0 t1 : List UInt8) (N M n : Nat) (raw : Bool) (B K F T C O : Ix → Int) (m w : Ix → Nat) (ls : Nat → Nat) (Z : Ix → Int) (a : Nat) (o : Int) (b : List UInt8) (i : Nat) :
    isEnd (evTill Tryd.prog [] 300 (99) 900 77 (headL Tryd.f77 0) (envAt Tryd.f77.ntmps ([(0, vP 63), (6, vP 101), (7, vN (i : Nat))])) (sentEnts 19 144 [(0, t0), (4, t1)] ++ rB 60 M B ++ (xE 101 102 a o b ++ (rdE 63 64 N n raw ++ iE 64 65 n K F T C O m w ls Z))) ⟨[.s false, .s true, .s true, .s true, .s false, .s true, .s true, .s true, .s false, .s true, .s false, .s false, .s false, .s true, .t, .s true, .s true], 110⟩) (endP ([((141 : Nat), Rn.to (113 : Nat)), ((142 : Nat), Rn.to (112 : Nat))]) (.tup [(false, .vi .i64 fun _ => ((i + 2 : Nat) : Int)), (false, .ve0)]) (rdE 63 141 N (n + 1) raw ++ iS 141 142 n K F T C O m w ls Z 5 (a : Int) ((i + 2 : Nat) : Int) 0 o b) 200) =
    (OkL [(decide ((↑i : Int) ≥ (↑N : Int)), false), (decide ((0 : Int) ≤ (↑i : Int) ∧ (↑i : Int) < (↑N : Int)), true), (((0 : Nat) + (↑i : Int).toNat).blt M, true), (((0 : Nat) + (↑i : Int).toNat).blt M, true), (decide (IntKind.i64.wrap ((↑i : Int) + (1 : Int)) ≥ (↑N : Int)), false), (decide ((0 : Int) ≤ IntKind.i64.wrap ((↑i : Int) + (1 : Int)) ∧ IntKind.i64.wrap ((↑i : Int) + (1 : Int)) < (↑N : Int)), true), (((0 : Nat) + (IntKind.i64.wrap ((↑i : Int) + (1 : Int))).toNat).blt M, true), (((0 : Nat) + (IntKind.i64.wrap ((↑i : Int) + (1 : Int))).toNat).blt M, true), (decide (IntKind.i64.wrap (B [(0 : Nat) + (↑i : Int).toNat]) < (0 : Int)), false), (IntKind.i64.wrap (B [(0 : Nat) + (↑i : Int).toNat]) == (255 : Int), true), (decide (IntKind.i64.wrap (B [(0 : Nat) + (IntKind.i64.wrap ((↑i : Int) + (1 : Int))).toNat]) < (0 : Int)), false), (IntKind.i64.wrap (B [(0 : Nat) + (↑i : Int).toNat]) != (255 : Int), false), (IntKind.i64.wrap (B [(0 : Nat) + (IntKind.i64.wrap ((↑i : Int) + (1 : Int))).toNat]) == (255 : Int), false), (IntKind.i64.wrap (B [(0 : Nat) + (IntKind.i64.wrap ((↑i : Int) + (1 : Int))).toNat]) == (240 : Int), true), (((0 : Nat) + n).ble n, true), (decide (((2 : Nat) * (n + (1 : Nat)) + (192 : Nat)) * (64 : Nat) ≤ (281474976710656 : Nat)), true)] ∧ ((↑(i + (2 : Nat)) : Int) = IntKind.i64.wrap ((↑i : Int) + (2 : Int)) ∧ True ∧ True) ∧ (((0 : Nat) = (0 : Nat) ∧ N = N) ∧ raw = raw ∧ (0 : Nat) = (0 : Nat) ∧ n + (1 : Nat) = n + (1 : Nat)) ∧ (n + (1 : Nat) = n + (1 : Nat) ∧ (∀ (i : Nat), i < n + (1 : Nat) → snF n K (5 : Int) [i] = appF n (0 : Nat) K (fun js => (5 : Int)) [i]) ∧ (∀ (i : Nat), i < n + (1 : Nat) → snF n F (↑a : Int) [i] = appF n (0 : Nat) F (fun js => (↑a : Int)) [i]) ∧ (∀ (i_1 : Nat), i_1 < n + (1 : Nat) → snF n T (↑(i + (2 : Nat)) : Int) [i_1] = appF n (0 : Nat) T (fun js => IntKind.i64.wrap ((↑i : Int) + (2 : Int))) [i_1]) ∧ (∀ (i : Nat), i < n + (1 : Nat) → snF n C (0 : Int) [i] = appF n (0 : Nat) C (fun js => (0 : Int)) [i]) ∧ (∀ (i : Nat), i < n + (1 : Nat) → snF n O o [i] = appF n (0 : Nat) O (fun js => o) [i]) ∧ (∀ (i : Nat), i < n + (1 : Nat) → snF n (fun is => m is + (1 : Nat)) (0 : Nat) [i] = appF n (0 : Nat) (fun is => m is + (1 : Nat)) (fun js => (0 : Nat)) [i]) ∧ ∀ (i : Nat), i < n + (1 : Nat) → snF n w b.length [i] = appF n (0 : Nat) w (fun js => b.length) [i]) ∧ n + (1 : Nat) = n + (1 : Nat) ∧ ∀ (m : Nat), m < n + (1 : Nat) → consN b.length ls m = consN b.length ls m ∧ ∀ (i : Nat), i < consN b.length ls m → consF (bF b) Z [m, i] = consF (fun is => (↑(b.getD (List.headD is (0 : Nat)) (0 : UInt8)).toNat : Int)) Z [m, i]) := by kernel_rfl

set_option maxHeartbeats 4000000 in
theorem sbE (t0 t1 : List UInt8) (N M n : Nat) (raw : Bool) (B K F T C O : Ix → Int) (m w : Ix → Nat) (ls : Nat → Nat) (Z : Ix → Int) (a : Nat) (o : Int) (b : List UInt8) (i : Nat) (hN : N ≤ 100000) (hM : N ≤ M) (hn : n ≤ 100000) (hb : b.length ≤ 100000) (h0 : 0 ≤ B [i] ∧ B [i] < 256) (h1 : 0 ≤ B [i + 1] ∧ B [i + 1] < 256) (hi : i + 1 < N) (h : B [i] = 255) (h2 : B [i + 1] = 240)  :
    RunsTo Tryd.prog 77 (headL Tryd.f77 0) (envAt Tryd.f77.ntmps ([(0, vP 63), (6, vP 101), (7, vN (i : Nat))])) (Sx.look (sentEnts 19 144 [(0, t0), (4, t1)] ++ rB 60 M B ++ (xE 101 102 a o b ++ (rdE 63 64 N n raw ++ iE 64 65 n K F T C O m w ls Z)))) 80 (.tup [(false, .vi .i64 fun _ => ((i + 2 : Nat) : Int)), (false, .ve0)]) (Sx.look (rdE 63 141 N (n + 1) raw ++ iS 141 142 n K F T C O m w ls Z 5 (a : Int) ((i + 2 : Nat) : Int) 0 o b)) 200 := by
  have w0 : IntKind.i64.wrap ((i : Int) + 1) = ((i + 1 : Nat) : Int) := by rw [wr64 (by omega)]; rfl
  have w1 : IntKind.i64.wrap ((i : Int) + 2) = ((i + 2 : Nat) : Int) := by rw [wr64 (by omega)]; rfl
  have b0 : IntKind.i64.wrap (B [i]) = B [i] := wr64 (by omega)
  have b1 : IntKind.i64.wrap (B [i + 1]) = B [i + 1] := wr64 (by omega)
  refine runs_last baseO (Sx.Ends.of (sbE_p0 t0 t1 N M n raw B K F T C O m w ls Z a o b i) ⟨?oo, ?rr⟩) (by kernel_rfl) rfl (gtL (by decide)) (by decide)
  case oo =>
    refine (okc ?_ (okc ?_ (okc ?_ (okc ?_ (okc ?_ (okc ?_ (okc ?_ (okc ?_ (okc ?_ (okc ?_ (okc ?_ (okc ?_ (okc ?_ (okc ?_ (okc ?_ (okc ?_ okn))))))))))))))))
    all_goals ((try simp (disch := omega) only [SS, w0, w1, b0, Go.Sx.sum, List.length_append, List.length_cons, List.length_nil, b1, h, h2]); first | done | omega | assumption | (simp (disch := omega) only [SS, w0, w1, b0, Go.Sx.sum, List.length_append, List.length_cons, List.length_nil, b1, h, h2] at *; first | done | omega | assumption) | (simp_all; done))
  case rr =>
    try simp (disch := omega) only [SS, w0, w1, b0, Go.Sx.sum, List.length_append, List.length_cons, List.length_nil, b1]
    repeat' apply And.intro
    all_goals first | exact True.intro | with_reducible rfl | omega | (exact app_sn _ _ _ _ rfl) | (intro m hm; exact ⟨trivial, fun j hj => rfl⟩) | (intro k hk; rfl) | (intro k hk; first | rfl | (simp; done)) | (intros; rfl) | (simp_all; done) | rfl

end Go.Proofs.YtcphocfnhekdaaaDoor

set_option linter.unusedSimpArgs false
set_option linter.unusedVariables false
set_option maxRecDepth 100000
namespace Go.Proofs.YtcphocfnhekdaaaDoor
open Go.Sx

open GramR
def dbl : List UInt8 → List UInt8
  | [] => []
  | c :: r => if c = 255 then 255 :: 255 :: dbl r else c :: dbl r
/-- What is done of a row of zeros. -/
def dnF (d : List UInt8) : Ix → Int := fun is => if is.headD 0 < d.length then ((d.getD (is.headD 0) 0).toNat : Int) else 0
def wE (l n : Nat) (F : Ix → Int) : List Ent := [⟨l, true, none, 1, .ta n (.vi .u8 F)⟩]
def k5 (l n : Nat) : List Ent := [⟨l, false, none, 1, .ta n (.vi .u8 fun _ => 255)⟩]
def cnt5 (s : List UInt8) : Nat := s.count 255
def frm (B : Ix → Int) (p : Nat) : Ix → Int := fun is => B (shIx p is)
theorem dnF_at (d : List UInt8) (k : Nat) : dnF d [k] = if k < d.length then ((d.getD k 0).toNat : Int) else 0 := rfl
theorem cpy_at {α : Type} (k st : Nat) (f g : Ix → α) (i : Nat) : cpyF k st f g [i] = if st ≤ i ∧ i < st + k then g [i - st] else f [i] := rfl
theorem dn_copy (d pre : List UInt8) (g : Ix → Int) (hg : ∀ i, i < pre.length → g [i] = ((pre.getD i 0).toNat : Int)) (k : Nat) : dnF (d ++ pre) [k] = cpyF pre.length d.length (dnF d) g [k] := by
  rw [cpy_at, dnF_at, dnF_at, List.length_append]
  by_cases h1 : k < d.length
  · rw [if_pos (by omega), if_neg (by omega), if_pos h1, getD_left h1]
  · by_cases h2 : k < d.length + pre.length
    · rw [if_pos h2, if_pos ⟨by omega, h2⟩, hg _ (by omega)]
      have : d.length + (k - d.length) = k := by omega
      have q := getD_right (a := d) (b := pre) (i := k - d.length) rfl (0 : UInt8)
      rw [this] at q
      rw [q]
    · rw [if_neg h2, if_neg (by omega), if_neg h1]
theorem dn_step (d pre : List UInt8) (g h : Ix → Int) (hg : ∀ i, i < pre.length → g [i] = ((pre.getD i 0).toNat : Int)) (hh : ∀ i, i < 2 → h [i] = 255) (k : Nat) :
    dnF (d ++ pre ++ [255, 255]) [k] = cpyF 2 (d.length + pre.length) (cpyF pre.length d.length (dnF d) g) h [k] := by
  have e := dn_copy (d ++ pre) [255, 255] h (fun i hi => by rw [hh i (by simpa using hi)]; have : i = 0 ∨ i = 1 := by simp at hi; omega
                                                            rcases this with rfl | rfl <;> rfl) k
  rw [e, List.length_append, cpy_at, cpy_at]
  simp only [List.length_cons, List.length_nil, Nat.zero_add]
  by_cases q : d.length + pre.length ≤ k ∧ k < d.length + pre.length + (1 + 1)
  · rw [if_pos q, if_pos (by omega)]
  · rw [if_neg q, if_neg (by omega), dn_copy d pre g hg]
theorem dbl_len : ∀ s : List UInt8, (dbl s).length = s.length + cnt5 s
  | [] => rfl
  | c :: r => by
    have := dbl_len r
    unfold cnt5 at this ⊢
    simp only [dbl]
    by_cases h : c = 255
    · subst h; rw [if_pos rfl]; simp [List.count_cons]; omega
    · rw [if_neg h]; simp [List.count_cons, h]; omega
theorem dbl_app : ∀ a b : List UInt8, dbl (a ++ b) = dbl a ++ dbl b
  | [], b => rfl
  | c :: r, b => by
    simp only [List.cons_append, dbl, dbl_app r b]
    by_cases h : c = 255
    · rw [if_pos h, if_pos h]; rfl
    · rw [if_neg h, if_neg h]; rfl
theorem dbl_none : ∀ a : List UInt8, cnt5 a = 0 → dbl a = a
  | [], _ => rfl
  | c :: r, h => by
    unfold cnt5 at h
    by_cases hc : c = 255
    · subst hc; simp [List.count_cons] at h
    · simp only [dbl, if_neg hc]
      rw [dbl_none r (by unfold cnt5; simpa [List.count_cons, hc] using h)]
/-- Where the first 255 stands. -/
theorem idx5 : ∀ s : List UInt8, 0 < cnt5 s → ∃ pre r, s = pre ++ 255 :: r ∧ cnt5 pre = 0 ∧ cnt5 s = cnt5 r + 1 ∧ idxB s 255 = (pre.length : Int)
  | [], h => by simp [cnt5] at h
  | c :: r, h => by
    by_cases hc : c = 255
    · subst hc
      refine ⟨[], r, rfl, rfl, by simp [cnt5, List.count_cons], ?_⟩
      simp [idxB, Lib.indexByte]
    · obtain ⟨pre, q, h1, h2, h3, h4⟩ := idx5 r (by unfold cnt5 at h ⊢; simpa [List.count_cons, hc] using h)
      refine ⟨c :: pre, q, by rw [h1]; rfl, by unfold cnt5 at h2 ⊢; simpa [List.count_cons, hc] using h2, by unfold cnt5 at h3 ⊢; simpa [List.count_cons, hc] using h3, ?_⟩
      have h4 : Lib.indexByte r 255 = (pre.length : Int) := h4
      show Lib.indexByte (c :: r) 255 = _
      unfold Lib.indexByte
      rw [if_neg (by simpa using hc), h4, if_neg (by simp only [beq_iff_eq]; omega)]
      simp
theorem reZ_p0 (N M : Nat) (B W1 W2 : Ix → Int) (s : List UInt8) :
    isEnd (evTill Tryd.prog [] 200 (99) 900 64 [.code (bodyOf Tryd.f64)] (envOf [vL 60 1 N, vL 61 1 1, vL 62 1 2, vN (-1)] Tryd.f64.ntmps) ((rB 60 M B ++ (rB 61 1 W1 ++ rB 62 2 W2)) ++ ([])) ⟨[.t, .f, .t, .t, .t, .t, .s true, .s true, .s true, .s true], 80⟩) (endP ([((141 : Nat), Rn.to (80 : Nat))]) (vL 141 1 N) (bW 141 s) 200) =
    (OkL [(((0 : Nat) + N).ble M, true), (cntB (bytesOf B [] (0 : Nat) N) (W1 [(0 : Nat)]) == (0 : Int), true), (((0 : Nat) + N).ble M, true), (decide (((2 : Nat) * N + (192 : Nat)) * (1 : Nat) ≤ (281474976710656 : Nat)), true)] ∧ ((0 : Nat) = (0 : Nat) ∧ N = N) ∧ s.length = N ∧ ∀ (i : Nat), i < s.length → (↑(s.getD i (0 : UInt8)).toNat : Int) = B (subIx (0 : Nat) [i])) := by kernel_rfl

set_option maxHeartbeats 4000000 in
theorem reZ (N M : Nat) (B W1 W2 : Ix → Int) (s : List UInt8) (hN : N ≤ 100000) (hM : N ≤ M) (h61 : W1 [0] = 255) (h62 : ∀ i, i < 2 → W2 [i] = 255) (hs : s.length = N) (hB : ∀ i, i < N → B [i] = ((s.getD i 0).toNat : Int)) (hC : cntB (bytesOf B [] 0 N) 255 = 0)  :
    RunsTo Tryd.prog 64 [.code (bodyOf Tryd.f64)] (envOf [vL 60 1 N, vL 61 1 1, vL 62 1 2, vN (-1)] Tryd.f64.ntmps) (Sx.look ((rB 60 M B ++ (rB 61 1 W1 ++ rB 62 2 W2)) ++ ([]))) 80 (vL 141 1 N) (Sx.look (bW 141 s)) 200 := by
  refine runs_last baseO (Sx.Ends.of (reZ_p0 N M B W1 W2 s) ⟨?oo, ?rr⟩) (by kernel_rfl) rfl (gtL (by decide)) (by decide)
  case oo =>
    refine (okc ?_ (okc ?_ (okc ?_ (okc ?_ okn))))
    all_goals ((try simp (disch := omega) only [SS, hC, hs, h61]); first | done | omega | assumption | (simp (disch := omega) only [SS, hC, hs, h61] at *; first | done | omega | assumption) | (simp_all; done))
  case rr =>
    try simp (disch := omega) only [SS, hs, h61]
    repeat' apply And.intro
    all_goals first | exact True.intro | with_reducible rfl | omega | (intro k hk; exact (hB k (by omega)).symm) | (intro k hk; have q := hB k (by omega); simp only [subIx] at *; simp_all; done) | (simp_all; done)

theorem reStart_p0 (N M : Nat) (B W1 W2 : Ix → Int) (L C : Nat) :
    isMore (evTill Tryd.prog [] 200 (behind Tryd.f64 0) 900 64 [.code (bodyOf Tryd.f64)] (envOf [vL 60 1 N, vL 61 1 1, vL 62 1 2, vN (-1)] Tryd.f64.ntmps) ((rB 60 M B ++ (rB 61 1 W1 ++ rB 62 2 W2)) ++ ([])) ⟨[.t, .f, .t, .t, .t, .t, .s true, .s false, .t, .s true, .s true, .t], 80⟩) (moreP (headOf Tryd.f64 0) ([((101 : Nat), Rn.to (80 : Nat))]) Tryd.f64.ntmps ([(0, vL 60 1 N), (1, vL 61 1 1), (2, vL 62 1 2), (10, vL 101 1 L), (11, vN (([] : List UInt8)).length), (12, vN (0 : Nat)), (48, vN (C : Nat)), (49, vN (0 : Nat))]) (wE 101 L (dnF (([] : List UInt8)))) 200) =
    (OkL [(((0 : Nat) + N).ble M, true), (cntB (bytesOf B [] (0 : Nat) N) (W1 [(0 : Nat)]) == (0 : Int), false), (decide ((0 : Int) ≤ IntKind.i64.wrap ((↑N : Int) + IntKind.i64.wrap (cntB (bytesOf B [] (0 : Nat) N) (W1 [(0 : Nat)]) * IntKind.i64.wrap ((↑(2 : Nat) : Int) - (↑(1 : Nat) : Int)))) ∧ IntKind.i64.wrap ((↑N : Int) + IntKind.i64.wrap (cntB (bytesOf B [] (0 : Nat) N) (W1 [(0 : Nat)]) * IntKind.i64.wrap ((↑(2 : Nat) : Int) - (↑(1 : Nat) : Int)))) ≤ IntKind.i64.wrap ((↑N : Int) + IntKind.i64.wrap (cntB (bytesOf B [] (0 : Nat) N) (W1 [(0 : Nat)]) * IntKind.i64.wrap ((↑(2 : Nat) : Int) - (↑(1 : Nat) : Int))))), true), (decide ((↑(1 : Nat) : Int) * IntKind.i64.wrap ((↑N : Int) + IntKind.i64.wrap (cntB (bytesOf B [] (0 : Nat) N) (W1 [(0 : Nat)]) * IntKind.i64.wrap ((↑(2 : Nat) : Int) - (↑(1 : Nat) : Int)))) ≤ (281474976710656 : Int)), true)] ∧ headOf Tryd.f64 (0 : Nat) = headOf Tryd.f64 (0 : Nat) ∧ (((0 : Nat) = (0 : Nat) ∧ N = N) ∧ ((0 : Nat) = (0 : Nat) ∧ (1 : Nat) = (1 : Nat)) ∧ ((0 : Nat) = (0 : Nat) ∧ (2 : Nat) = (2 : Nat)) ∧ ((0 : Nat) = (0 : Nat) ∧ L = (IntKind.i64.wrap ((↑N : Int) + IntKind.i64.wrap (cntB (bytesOf B [] (0 : Nat) N) (W1 [(0 : Nat)]) * IntKind.i64.wrap ((↑(2 : Nat) : Int) - (↑(1 : Nat) : Int))))).toNat) ∧ (↑(0 : Nat) : Int) = (0 : Int) ∧ (↑(0 : Nat) : Int) = (0 : Int) ∧ (↑C : Int) = cntB (bytesOf B [] (0 : Nat) N) (W1 [(0 : Nat)]) ∧ (↑(0 : Nat) : Int) = (0 : Int)) ∧ L = (IntKind.i64.wrap ((↑N : Int) + IntKind.i64.wrap (cntB (bytesOf B [] (0 : Nat) N) (W1 [(0 : Nat)]) * IntKind.i64.wrap ((↑(2 : Nat) : Int) - (↑(1 : Nat) : Int))))).toNat ∧ ∀ (i : Nat), i < L → dnF [] [i] = (0 : Int)) := by kernel_rfl

set_option maxHeartbeats 4000000 in
theorem reStart (N M : Nat) (B W1 W2 : Ix → Int) (L C : Nat) (hN : N ≤ 100000) (hM : N ≤ M) (h61 : W1 [0] = 255) (h62 : ∀ i, i < 2 → W2 [i] = 255) (hC : cntB (bytesOf B [] 0 N) 255 = (C : Int)) (h0 : 0 < C) (hCN : C ≤ N) (hL0 : L = N + C)  (v : SV) (L' : HF) (next : RunsTo Tryd.prog 64 (headOf Tryd.f64 0) (envAt Tryd.f64.ntmps ([(0, vL 60 1 N), (1, vL 61 1 1), (2, vL 62 1 2), (10, vL 101 1 L), (11, vN (([] : List UInt8)).length), (12, vN (0 : Nat)), (48, vN (C : Nat)), (49, vN (0 : Nat))])) (Sx.look ((rB 60 M B ++ (rB 61 1 W1 ++ rB 62 2 W2)) ++ (wE 101 L (dnF (([] : List UInt8)))))) 80 (v) (L') 200) :
    RunsTo Tryd.prog 64 [.code (bodyOf Tryd.f64)] (envOf [vL 60 1 N, vL 61 1 1, vL 62 1 2, vN (-1)] Tryd.f64.ntmps) (Sx.look ((rB 60 M B ++ (rB 61 1 W1 ++ rB 62 2 W2)) ++ ([]))) 80 (v) (L') 200 := by
  have hL : IntKind.i64.wrap ((N : Int) + (C : Int)) = ((L : Nat) : Int) := by rw [wr64 (by omega)]; omega
  have hm1 : IntKind.i64.wrap ((C : Int) * 1) = (C : Int) := by rw [wr64 (by omega)]; omega
  refine runs_more baseO (More.of (reStart_p0 N M B W1 W2 L C) ⟨?oo, rfl, ?rr⟩) (by kernel_rfl) (by kernel_rfl) rfl (gtL (by decide)) (by decide) next
  case oo =>
    clear next
    refine (okc ?_ (okc ?_ (okc ?_ (okc ?_ okn))))
    all_goals ((try simp (disch := omega) only [SS, hC, hL, hm1, h61]); first | done | omega | assumption | (simp (disch := omega) only [SS, hC, hL, hm1, h61] at *; first | done | omega | assumption) | (simp_all; done))
  case rr =>
    clear next
    try simp (disch := omega) only [SS, hC, hL, hm1, h61]
    repeat' apply And.intro
    all_goals first | exact True.intro | with_reducible rfl | omega | (intro k hk; simp [dnF]; done) | (simp_all; done)

theorem reR_p0 (N M : Nat) (B W1 W2 : Ix → Int) (L C : Nat) (d pre : List UInt8) (p r : Nat) :
    isMore (evTill Tryd.prog [] 200 (behind Tryd.f64 0) 900 64 (headOf Tryd.f64 0) (envAt Tryd.f64.ntmps ([(0, vL 60 1 N), (1, vL 61 1 1), (2, vL 62 1 2), (10, vL 101 1 L), (11, vN (d).length), (12, vN (p : Nat)), (48, vN (C : Nat)), (49, vN (r : Nat))])) ((rB 60 M B ++ (rB 61 1 W1 ++ rB 62 2 W2)) ++ (wE 101 L (dnF (d)))) ⟨[.s true, .s true, .s true, .f, .t, .t, .t, .t, .s true, .s true, .s true, .s true, .s true, .s true, .s true, .s true, .s true, .s true, .s true, .t, .s true, .s true], 120⟩) (moreP (headOf Tryd.f64 0) ([]) Tryd.f64.ntmps ([(0, vL 60 1 N), (1, vL 61 1 1), (2, vL 62 1 2), (10, vL 101 1 L), (11, vN (d ++ pre ++ [255, 255]).length), (12, vN (p + pre.length + 1 : Nat)), (48, vN (C : Nat)), (49, vN (r + 1 : Nat))]) (wE 101 L (dnF (d ++ pre ++ [255, 255]))) 200) =
    (OkL [(decide ((↑r : Int) < (↑C : Int)), true), (((0 : Nat) + N).ble M, true), (decide ((0 : Int) ≤ (↑p : Int) ∧ (↑p : Int) ≤ (↑N : Int)), true), ((sum [(↑p : Int).toNat] + (N - (↑p : Int).toNat)).ble M, true), (((0 : Nat) + L).ble L, true), (decide ((0 : Int) ≤ (↑d.length : Int) ∧ (↑d.length : Int) ≤ (↑L : Int)), true), (((0 : Nat) + N).ble M, true), (decide ((0 : Int) ≤ IntKind.i64.wrap ((↑p : Int) + idxB (bytesOf B [] (sum [(↑p : Int).toNat]) (N - (↑p : Int).toNat)) (W1 [(0 : Nat)])) ∧ IntKind.i64.wrap ((↑p : Int) + idxB (bytesOf B [] (sum [(↑p : Int).toNat]) (N - (↑p : Int).toNat)) (W1 [(0 : Nat)])) + (↑(0 : Nat) : Int) ≤ (↑M : Int)), true), (decide ((0 : Int) ≤ (↑p : Int) ∧ (↑p : Int) ≤ IntKind.i64.wrap ((↑p : Int) + idxB (bytesOf B [] (sum [(↑p : Int).toNat]) (N - (↑p : Int).toNat)) (W1 [(0 : Nat)]))), true), ((sum [(↑p : Int).toNat] + ((IntKind.i64.wrap ((↑p : Int) + idxB (bytesOf B [] (sum [(↑p : Int).toNat]) (N - (↑p : Int).toNat)) (W1 [(0 : Nat)]))).toNat - (↑p : Int).toNat)).ble M, true), (((IntKind.i64.wrap ((↑p : Int) + idxB (bytesOf B [] (sum [(↑p : Int).toNat]) (N - (↑p : Int).toNat)) (W1 [(0 : Nat)]))).toNat - (↑p : Int).toNat).ble (L - (↑d.length : Int).toNat), true), ((sum [(↑d.length : Int).toNat] + (L - (↑d.length : Int).toNat)).ble L, true), (((0 : Nat) + L).ble L, true), (decide ((0 : Int) ≤ IntKind.i64.wrap ((↑d.length : Int) + (↑((IntKind.i64.wrap ((↑p : Int) + idxB (bytesOf B [] (sum [(↑p : Int).toNat]) (N - (↑p : Int).toNat)) (W1 [(0 : Nat)]))).toNat - (↑p : Int).toNat) : Int)) ∧ IntKind.i64.wrap ((↑d.length : Int) + (↑((IntKind.i64.wrap ((↑p : Int) + idxB (bytesOf B [] (sum [(↑p : Int).toNat]) (N - (↑p : Int).toNat)) (W1 [(0 : Nat)]))).toNat - (↑p : Int).toNat) : Int)) ≤ (↑L : Int)), true), (Nat.ble (2 : Nat) (L - (IntKind.i64.wrap ((↑d.length : Int) + (↑((IntKind.i64.wrap ((↑p : Int) + idxB (bytesOf B [] (sum [(↑p : Int).toNat]) (N - (↑p : Int).toNat)) (W1 [(0 : Nat)]))).toNat - (↑p : Int).toNat) : Int))).toNat), true), ((sum [(IntKind.i64.wrap ((↑d.length : Int) + (↑((IntKind.i64.wrap ((↑p : Int) + idxB (bytesOf B [] (sum [(↑p : Int).toNat]) (N - (↑p : Int).toNat)) (W1 [(0 : Nat)]))).toNat - (↑p : Int).toNat) : Int))).toNat] + (L - (IntKind.i64.wrap ((↑d.length : Int) + (↑((IntKind.i64.wrap ((↑p : Int) + idxB (bytesOf B [] (sum [(↑p : Int).toNat]) (N - (↑p : Int).toNat)) (W1 [(0 : Nat)]))).toNat - (↑p : Int).toNat) : Int))).toNat)).ble L, true)] ∧ headOf Tryd.f64 (0 : Nat) = headOf Tryd.f64 (0 : Nat) ∧ (((0 : Nat) = (0 : Nat) ∧ N = N) ∧ ((0 : Nat) = (0 : Nat) ∧ (1 : Nat) = (1 : Nat)) ∧ ((0 : Nat) = (0 : Nat) ∧ (2 : Nat) = (2 : Nat)) ∧ ((0 : Nat) = (0 : Nat) ∧ L = L) ∧ (↑(d ++ pre ++ [(255 : UInt8), (255 : UInt8)]).length : Int) = IntKind.i64.wrap (IntKind.i64.wrap ((↑d.length : Int) + (↑((IntKind.i64.wrap ((↑p : Int) + idxB (bytesOf B [] (sum [(↑p : Int).toNat]) (N - (↑p : Int).toNat)) (W1 [(0 : Nat)]))).toNat - (↑p : Int).toNat) : Int)) + (↑(2 : Nat) : Int)) ∧ (↑(p + pre.length + (1 : Nat)) : Int) = IntKind.i64.wrap (IntKind.i64.wrap ((↑p : Int) + idxB (bytesOf B [] (sum [(↑p : Int).toNat]) (N - (↑p : Int).toNat)) (W1 [(0 : Nat)])) + (↑(1 : Nat) : Int)) ∧ (↑C : Int) = (↑C : Int) ∧ (↑(r + (1 : Nat)) : Int) = IntKind.i64.wrap ((↑r : Int) + (1 : Int))) ∧ L = L ∧ ∀ (i : Nat), i < L → dnF (d ++ pre ++ [(255 : UInt8), (255 : UInt8)]) [i] = cpyF (2 : Nat) (sum [(IntKind.i64.wrap ((↑d.length : Int) + (↑((IntKind.i64.wrap ((↑p : Int) + idxB (bytesOf B [] (sum [(↑p : Int).toNat]) (N - (↑p : Int).toNat)) (W1 [(0 : Nat)]))).toNat - (↑p : Int).toNat) : Int))).toNat]) (cpyF ((IntKind.i64.wrap ((↑p : Int) + idxB (bytesOf B [] (sum [(↑p : Int).toNat]) (N - (↑p : Int).toNat)) (W1 [(0 : Nat)]))).toNat - (↑p : Int).toNat) (sum [(↑d.length : Int).toNat]) (dnF d) fun js => B (subIx (sum [(↑p : Int).toNat]) js)) (fun js => W2 (subIx (0 : Nat) js)) [i]) := by kernel_rfl

set_option maxHeartbeats 4000000 in
theorem reR (N M : Nat) (B W1 W2 : Ix → Int) (L C : Nat) (d pre : List UInt8) (p r : Nat) (hN : N ≤ 100000) (hM : N ≤ M) (h61 : W1 [0] = 255) (h62 : ∀ i, i < 2 → W2 [i] = 255) (hr : r < C) (hCN : C ≤ N) (hL0 : L = N + C) (hidx : idxB (bytesOf B [] p (N - p)) 255 = (pre.length : Int)) (hp : p + pre.length < N) (hd : d.length + pre.length + 2 ≤ L) (hpre : ∀ i, i < pre.length → B [p + i] = ((pre.getD i 0).toNat : Int))  (v : SV) (L' : HF) (next : RunsTo Tryd.prog 64 (headOf Tryd.f64 0) (envAt Tryd.f64.ntmps ([(0, vL 60 1 N), (1, vL 61 1 1), (2, vL 62 1 2), (10, vL 101 1 L), (11, vN (d ++ pre ++ [255, 255]).length), (12, vN (p + pre.length + 1 : Nat)), (48, vN (C : Nat)), (49, vN (r + 1 : Nat))])) (Sx.look ((rB 60 M B ++ (rB 61 1 W1 ++ rB 62 2 W2)) ++ (wE 101 L (dnF (d ++ pre ++ [255, 255]))))) 80 (v) (L') 200) :
    RunsTo Tryd.prog 64 (headOf Tryd.f64 0) (envAt Tryd.f64.ntmps ([(0, vL 60 1 N), (1, vL 61 1 1), (2, vL 62 1 2), (10, vL 101 1 L), (11, vN (d).length), (12, vN (p : Nat)), (48, vN (C : Nat)), (49, vN (r : Nat))])) (Sx.look ((rB 60 M B ++ (rB 61 1 W1 ++ rB 62 2 W2)) ++ (wE 101 L (dnF (d))))) 80 (v) (L') 200 := by
  have w1 : IntKind.i64.wrap ((p : Int) + (pre.length : Int)) = ((p + pre.length : Nat) : Int) := by rw [wr64 (by omega)]; rfl
  have w2 : IntKind.i64.wrap (((p + pre.length : Nat) : Int) + 1) = ((p + pre.length + 1 : Nat) : Int) := by rw [wr64 (by omega)]; rfl
  have w3 : IntKind.i64.wrap ((d.length : Int) + (pre.length : Int)) = ((d.length + pre.length : Nat) : Int) := by rw [wr64 (by omega)]; rfl
  have w4 : IntKind.i64.wrap (((d.length + pre.length : Nat) : Int) + 2) = ((d.length + pre.length + 2 : Nat) : Int) := by rw [wr64 (by omega)]; rfl
  have w5 : IntKind.i64.wrap ((r : Int) + 1) = ((r + 1 : Nat) : Int) := by rw [wr64 (by omega)]; rfl
  have sp : Go.Sx.sum [p] = p := rfl
  refine runs_more baseO (More.of (reR_p0 N M B W1 W2 L C d pre p r) ⟨?oo, rfl, ?rr⟩) (by kernel_rfl) (by kernel_rfl) rfl (gtL (by decide)) (by decide) next
  case oo =>
    clear next
    refine (okc ?_ (okc ?_ (okc ?_ (okc ?_ (okc ?_ (okc ?_ (okc ?_ (okc ?_ (okc ?_ (okc ?_ (okc ?_ (okc ?_ (okc ?_ (okc ?_ (okc ?_ (okc ?_ okn))))))))))))))))
    all_goals ((try simp (disch := omega) only [SS, hidx, h61, w1, w2, w3, w4, w5, sp, Go.Sx.sum, Int.toNat_natCast, List.length_append, List.length_cons, List.length_nil, Nat.zero_add, Nat.add_sub_cancel_left]); first | done | omega | assumption | (simp (disch := omega) only [SS, hidx, h61, w1, w2, w3, w4, w5, sp, Go.Sx.sum, Int.toNat_natCast, List.length_append, List.length_cons, List.length_nil, Nat.zero_add, Nat.add_sub_cancel_left] at *; first | done | omega | assumption) | (simp_all; done))
  case rr =>
    clear next
    try simp (disch := omega) only [SS, hidx, h61, w1, w2, w3, w4, w5, sp, Go.Sx.sum, Int.toNat_natCast, List.length_append, List.length_cons, List.length_nil, Nat.zero_add, Nat.add_sub_cancel_left]
    repeat' apply And.intro
    all_goals first | exact True.intro | with_reducible rfl | omega | (intro k hk; exact dn_step d pre _ _ (fun i hi => by first | exact hpre i hi | (simpa [subIx] using hpre i hi)) (fun i hi => by first | exact h62 i hi | (simpa [subIx] using h62 i hi)) k) | (simp_all; done)

theorem reE_p0 (N M : Nat) (B W1 W2 : Ix → Int) (L C : Nat) (d q : List UInt8) (p r : Nat) :
    isEnd (evTill Tryd.prog [] 200 (99) 900 64 (headOf Tryd.f64 0) (envAt Tryd.f64.ntmps ([(0, vL 60 1 N), (1, vL 61 1 1), (2, vL 62 1 2), (10, vL 101 1 L), (11, vN (d).length), (12, vN (p : Nat)), (48, vN (C : Nat)), (49, vN (r : Nat))])) ((rB 60 M B ++ (rB 61 1 W1 ++ rB 62 2 W2)) ++ (wE 101 L (dnF (d)))) ⟨[.s false, .s true, .s true, .s true, .s true, .s true, .s true, .s true, .s true, .s true, .s true], 120⟩) (endP ([((141 : Nat), Rn.cut (101 : Nat) (1 : Nat) [(0 : Nat)])]) (vL 141 1 L) (bW 141 (d ++ q)) 200) =
    (OkL [(decide ((↑r : Int) < (↑C : Int)), false), (((0 : Nat) + L).ble L, true), (decide ((0 : Int) ≤ (↑d.length : Int) ∧ (↑d.length : Int) ≤ (↑L : Int)), true), (((0 : Nat) + N).ble M, true), (decide ((0 : Int) ≤ (↑p : Int) ∧ (↑p : Int) ≤ (↑N : Int)), true), ((sum [(↑p : Int).toNat] + (N - (↑p : Int).toNat)).ble M, true), ((N - (↑p : Int).toNat).ble (L - (↑d.length : Int).toNat), true), ((sum [(↑d.length : Int).toNat] + (L - (↑d.length : Int).toNat)).ble L, true), (((0 : Nat) + L).ble L, true), (decide ((0 : Int) ≤ IntKind.i64.wrap ((↑d.length : Int) + (↑(N - (↑p : Int).toNat) : Int)) ∧ IntKind.i64.wrap ((↑d.length : Int) + (↑(N - (↑p : Int).toNat) : Int)) + (↑(0 : Nat) : Int) ≤ (↑L : Int)), true), (decide ((0 : Int) ≤ (0 : Int) ∧ (0 : Int) ≤ IntKind.i64.wrap ((↑d.length : Int) + (↑(N - (↑p : Int).toNat) : Int))), true)] ∧ (([(0 : Nat)] = [(0 : Nat)] ∧ (0 : Nat) = (0 : Nat)) ∧ L = (IntKind.i64.wrap ((↑d.length : Int) + (↑(N - (↑p : Int).toNat) : Int))).toNat - (0 : Nat)) ∧ (0 : Nat) + (d ++ q).length = L ∧ ∀ (i : Nat), i < (d ++ q).length → (↑((d ++ q).getD i (0 : UInt8)).toNat : Int) = cpyF (N - (↑p : Int).toNat) (sum [(↑d.length : Int).toNat]) (dnF d) (fun js => B (subIx (sum [(↑p : Int).toNat]) js)) (shIx (0 : Nat) [i])) := by kernel_rfl

set_option maxHeartbeats 4000000 in
theorem reE (N M : Nat) (B W1 W2 : Ix → Int) (L C : Nat) (d q : List UInt8) (p r : Nat) (hN : N ≤ 100000) (hM : N ≤ M) (h61 : W1 [0] = 255) (h62 : ∀ i, i < 2 → W2 [i] = 255) (hr : r = C) (hCN : C ≤ N) (hL0 : L = N + C) (hp : p + q.length = N) (hd : d.length + q.length = L) (hq : ∀ i, i < q.length → B [p + i] = ((q.getD i 0).toNat : Int))  :
    RunsTo Tryd.prog 64 (headOf Tryd.f64 0) (envAt Tryd.f64.ntmps ([(0, vL 60 1 N), (1, vL 61 1 1), (2, vL 62 1 2), (10, vL 101 1 L), (11, vN (d).length), (12, vN (p : Nat)), (48, vN (C : Nat)), (49, vN (r : Nat))])) (Sx.look ((rB 60 M B ++ (rB 61 1 W1 ++ rB 62 2 W2)) ++ (wE 101 L (dnF (d))))) 80 (vL 141 1 L) (Sx.look (bW 141 (d ++ q))) 200 := by
  have w1 : IntKind.i64.wrap ((d.length : Int) + ((N - p : Nat) : Int)) = ((L : Nat) : Int) := by rw [wr64 (by omega)]; omega
  have sp : Go.Sx.sum [p] = p := rfl
  have sz : Go.Sx.sum [0] = 0 := rfl
  have hNp : N - p = q.length := by omega
  refine runs_last baseO (Sx.Ends.of (reE_p0 N M B W1 W2 L C d q p r) ⟨?oo, ?rr⟩) (by kernel_rfl) rfl (gtL (by decide)) (by decide)
  case oo =>
    refine (okc ?_ (okc ?_ (okc ?_ (okc ?_ (okc ?_ (okc ?_ (okc ?_ (okc ?_ (okc ?_ (okc ?_ (okc ?_ okn)))))))))))
    all_goals ((try simp (disch := omega) only [SS, w1, sp, sz, Go.Sx.sum, Int.toNat_natCast, List.length_append]); first | done | omega | assumption | (simp (disch := omega) only [SS, w1, sp, sz, Go.Sx.sum, Int.toNat_natCast, List.length_append] at *; first | done | omega | assumption) | (simp_all; done))
  case rr =>
    try simp (disch := omega) only [SS, w1, sp, sz, Go.Sx.sum, Int.toNat_natCast, List.length_append]
    repeat' apply And.intro
    all_goals first | exact True.intro | with_reducible rfl | omega | (intro k hk; have e := dn_copy d q (fun js => B (subIx p js)) hq k; rw [dnF_at, if_pos (by rw [List.length_append]; exact hk)] at e; rw [hNp]; simpa [shIx] using e) | (simp_all; done)

theorem cnt_app (a b : List UInt8) : cnt5 (a ++ b) = cnt5 a + cnt5 b := by unfold cnt5; exact List.count_append ..
theorem cntB_5 (s : List UInt8) : cntB s 255 = (cnt5 s : Int) := rfl
theorem bytes_from (B : Ix → Int) (s : List UInt8) (hB : ∀ i, i < s.length → B [i] = ((s.getD i 0).toNat : Int)) (p : Nat) (hp : p ≤ s.length) : bytesOf B [] p (s.length - p) = s.drop p := by
  apply List.ext_getElem?
  intro j
  by_cases hj : j < s.length - p
  · have e1 := bytesOf_get (B := B) (is := []) (st := p) (n := s.length - p) hj
    rw [List.getElem?_eq_getElem (by rw [bytesOf_len]; exact hj), List.getElem?_drop, List.getElem?_eq_getElem (by omega)]
    rw [List.getD_eq_getElem?_getD, List.getElem?_eq_getElem (by rw [bytesOf_len]; exact hj), Option.getD_some] at e1
    rw [e1, List.nil_append, hB (p + j) (by omega), Int.toNat_natCast, UInt8.ofNat_toNat, List.getD_eq_getElem?_getD, List.getElem?_eq_getElem (by omega), Option.getD_some]
  · rw [List.getElem?_eq_none (by rw [bytesOf_len]; omega), List.getElem?_eq_none (by rw [List.length_drop]; omega)]
theorem cnt5_le : ∀ s : List UInt8, cnt5 s ≤ s.length := fun s => List.count_le_length
theorem reI (N M : Nat) (B W1 W2 : Ix → Int) (s : List UInt8) (hN : N ≤ 100000) (hM : N ≤ M) (h61 : W1 [0] = 255) (h62 : ∀ i, i < 2 → W2 [i] = 255) (hs : s.length = N) (hB : ∀ i, i < N → B [i] = ((s.getD i 0).toNat : Int)) : RunsTo Tryd.prog 64 [.code (bodyOf Tryd.f64)] (envOf [vL 60 1 N, vL 61 1 1, vL 62 1 2, vN (-1)] Tryd.f64.ntmps) (Sx.look ((rB 60 M B ++ (rB 61 1 W1 ++ rB 62 2 W2)) ++ ([]))) 80 (vL 141 1 (dbl s).length) (Sx.look (bW 141 (dbl s))) 200 := by
  have hb : bytesOf B [] 0 N = s := by have := bytes_from B s (by rw [hs]; exact hB) 0 (by omega); rw [hs] at this; simpa using this
  have hC : cntB (bytesOf B [] 0 N) 255 = (cnt5 s : Int) := by rw [hb]; rfl
  have hle := cnt5_le s
  have hdl := dbl_len s
  by_cases h0 : cnt5 s = 0
  · rw [dbl_none s h0, hs]
    exact reZ N M B W1 W2 s hN hM h61 h62 hs hB (by rw [hC, h0]; rfl)
  · rw [show (dbl s).length = N + cnt5 s by omega]
    refine reStart N M B W1 W2 (N + cnt5 s) (cnt5 s) hN hM h61 h62 hC (by omega) (by omega) rfl _ _ ?_
    suffices q : ∀ (k r p : Nat) (d : List UInt8), r + k = cnt5 s → p ≤ s.length → d = dbl (s.take p) → cnt5 (s.drop p) = k → RunsTo Tryd.prog 64 (headOf Tryd.f64 0) (envAt Tryd.f64.ntmps ([(0, vL 60 1 N), (1, vL 61 1 1), (2, vL 62 1 2), (10, vL 101 1 (N + cnt5 s)), (11, vN (d).length), (12, vN (p : Nat)), (48, vN (cnt5 s : Nat)), (49, vN (r : Nat))])) (Sx.look ((rB 60 M B ++ (rB 61 1 W1 ++ rB 62 2 W2)) ++ (wE 101 (N + cnt5 s) (dnF (d))))) 80 (vL 141 1 (N + cnt5 s)) (Sx.look (bW 141 (dbl s))) 200 from q (cnt5 s) 0 0 [] (by omega) (by omega) rfl rfl
    intro k
    induction k with
    | zero =>
      intro r p d hr hp hd hk
      have e : dbl s = d ++ s.drop p := by
        rw [hd]
        conv => lhs; rw [← List.take_append_drop p s]
        rw [dbl_app, dbl_none (s.drop p) hk]
      rw [e] at hdl ⊢
      rw [List.length_append, List.length_drop] at hdl
      exact reE N M B W1 W2 _ _ d (s.drop p) p r hN hM h61 h62 (by omega) (by omega) rfl (by rw [List.length_drop]; omega) (by rw [List.length_drop]; omega) (fun i hi => by
        rw [List.length_drop] at hi
        rw [hB (p + i) (by omega)]
        simp only [List.getD_eq_getElem?_getD, List.getElem?_drop])
    | succ k ih =>
      intro r p d hr hp hd hk
      obtain ⟨pre, rest, h1, h2, h3, h4⟩ := idx5 (s.drop p) (by omega)
      have hl : (s.drop p).length = pre.length + 1 + rest.length := by rw [h1]; simp; omega
      rw [List.length_drop] at hl
      have hdrop : s.drop (p + pre.length + 1) = rest := by
        rw [show p + pre.length + 1 = p + (pre.length + 1) by omega, ← List.drop_drop, h1]
        simp
      have htake : s.take (p + pre.length + 1) = s.take p ++ (pre ++ [255]) := by
        rw [show p + pre.length + 1 = p + (pre.length + 1) by omega, List.take_add, h1]
        congr 1
        simp [List.take_append]
        exact List.take_of_length_le (by omega)
      have hdd : dbl (s.take (p + pre.length + 1)) = d ++ pre ++ [255, 255] := by
        rw [htake, dbl_app, dbl_app, dbl_none pre h2, ← hd, List.append_assoc]; rfl
      have hdl2 : d.length + pre.length + 2 ≤ N + cnt5 s := by
        have e1 := dbl_len (s.take (p + pre.length + 1))
        rw [hdd] at e1
        simp only [List.length_append, List.length_cons, List.length_nil, List.length_take] at e1
        have e2 : cnt5 (s.take (p + pre.length + 1)) ≤ cnt5 s := by
          have := cnt_app (s.take (p + pre.length + 1)) (s.drop (p + pre.length + 1))
          rw [List.take_append_drop] at this; omega
        omega
      refine reR N M B W1 W2 _ _ d pre p r hN hM h61 h62 (by omega) (by omega) rfl ?_ (by omega) hdl2 ?_ _ _ (ih (r + 1) (p + pre.length + 1) _ (by omega) (by omega) hdd.symm (by rw [hdrop]; omega))
      · have := bytes_from B s (by rw [hs]; exact hB) p hp
        rw [hs] at this
        rw [this]; exact h4
      · intro i hi
        rw [hB (p + i) (by omega)]
        have : s.getD (p + i) 0 = (s.drop p).getD i 0 := by simp only [List.getD_eq_getElem?_getD, List.getElem?_drop]
        rw [this, h1, getD_left hi]
def reP : PC := { args := [.v (.vl 60 1 0), .v (.vl 61 1 5), .v (.vl 62 1 6), .v (.vi .i64 7)], heap := [⟨60, false, 1, .ta 9 (.vi .u8 1)⟩, ⟨61, false, 1, .tn 1 (.vi .u8 2)⟩, ⟨62, false, 1, .tn 2 (.vi .u8 3)⟩], gs := [], G := 19, tp := 144, n := 80, n' := 200, cond := fun e => decide (eI e 7 [] = -1 ∧ eN e 5 = 1 ∧ eN e 6 = 2) && (decide (eN e 0 ≤ 100000) && (decide (eN e 0 ≤ eN e 9) && (decide (eI e 2 [0] = 255) && (decide (eI e 3 [0] = 255) && (decide (eI e 3 [1] = 255) && bndB (eI e 1) (eN e 0)))))), v := fun e => vL 141 1 (dbl (bytesOf (eI e 1) [] 0 (eN e 0))).length, post := fun e => bW 141 (dbl (bytesOf (eI e 1) [] 0 (eN e 0))) }
theorem reP_pc : PC.Runs Tryd.prog 64 Tryd.f64 (bodyOf Tryd.f64) reP := ⟨Tryd.func64, by kernel_rfl, (fun g hg => by first | (cases hg; done) | (revert g; show ∀ g ∈ ([] : List Nat), g < 19; decide)), fun e H hc => by
  have hc : (decide (eI e 7 [] = -1 ∧ eN e 5 = 1 ∧ eN e 6 = 2) && (decide (eN e 0 ≤ 100000) && (decide (eN e 0 ≤ eN e 9) && (decide (eI e 2 [0] = 255) && (decide (eI e 3 [0] = 255) && (decide (eI e 3 [1] = 255) && bndB (eI e 1) (eN e 0))))))) = true := hc
  try simp only [Bool.and_eq_true, decide_eq_true_eq, Nat.beq_eq] at hc
  exact by obtain ⟨⟨h0, h05, h06⟩, h1, h2, h3, h4, h5, h6⟩ := hc; have q := reI (eN e 0) (eN e 9) (eI e 1) (eI e 2) (eI e 3) (bytesOf (eI e 1) [] 0 (eN e 0)) h1 h2 h3 (fun i hi => by have : i = 0 ∨ i = 1 := (by omega); rcases this with rfl | rfl <;> assumption) (bytesOf_len _ _ _ _) (fun i hi => by have h0 := bndB_ok h6 hi; have := bytesOf_nat (B := eI e 1) (is := []) (st := 0) (n := eN e 0) hi (by simpa using h0); simpa using this.symm); simp only [reP, PC.cargs, PA.inst, PT.inst, cst, List.map, h0, h05, h06]; exact q⟩
end Go.Proofs.YtcphocfnhekdaaaDoor

