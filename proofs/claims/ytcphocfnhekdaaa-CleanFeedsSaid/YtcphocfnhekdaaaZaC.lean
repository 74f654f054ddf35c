/- Cleaning: the plain law. -/
import Derived.Test.YtcphocfnhekdaaaChecked
import Derived.Test.YtcphocfnhekdaaaRows
import Derived.Test.YtcphocfnhekdaaaSyKit
import Derived.Test.YtcphocfnhekdaaaSyPc
import Derived.Test.YtcphocfnhekdaaaSyPl
set_option linter.unusedSimpArgs false
set_option linter.unusedVariables false
namespace Go.Proofs.Ytcphocfnhekdaaa.CleanR

/-- A token: its kind (1 data, 2 plain, 3 verb, 4 sub, 5 bad), its code, its option, its body. -/
structure Tok where
  kind : Nat
  code : Nat
  opt : Nat
  body : List UInt8
deriving DecidableEq, Repr
def z0 : Tok := ⟨0, 0, 0, []⟩

/-- The machine: its state (0 between, 1 behind IAC, 2 behind a verb, 3 behind SB, 4 in a body, 5 behind IAC in a body), and what it keeps. -/
structure M where
  st : Nat
  code : Nat
  opt : Nat
  body : List UInt8
def M0 : M := ⟨0, 0, 0, []⟩

def feed (m : M) (c : UInt8) : M × Option Tok :=
  if m.st = 1 then
    if c = 255 then (M0, some ⟨1, 255, 0, []⟩)
    else if c = 250 then (⟨3, m.code, m.opt, m.body⟩, none)
    else if 251 ≤ c.toNat ∧ c.toNat ≤ 254 then (⟨2, c.toNat, 0, []⟩, none)
    else (M0, some ⟨2, c.toNat, 0, []⟩)
  else if m.st = 2 then (M0, some ⟨3, m.code, c.toNat, []⟩)
  else if m.st = 3 then (⟨4, 0, c.toNat, []⟩, none)
  else if m.st = 4 then (if c = 255 then (⟨5, m.code, m.opt, m.body⟩, none) else (⟨4, m.code, m.opt, m.body ++ [c]⟩, none))
  else if m.st = 5 then
    if c = 255 then (⟨4, m.code, m.opt, m.body ++ [255]⟩, none)
    else if c = 240 then (M0, some ⟨4, m.code, m.opt, m.body⟩)
    else (M0, some ⟨5, c.toNat, m.opt, []⟩)
  else if c = 255 then (⟨1, m.code, m.opt, m.body⟩, none) else (M0, some ⟨1, c.toNat, 0, []⟩)

/-- All tokens, each with the place of its last byte, and where the machine stands then. -/
def runM : M → Nat → List UInt8 → List (Tok × Nat) × M
  | m, _, [] => ([], m)
  | m, i, c :: r => match feed m c with
    | (m', none) => runM m' (i + 1) r
    | (m', some t) => ((t, i) :: (runM m' (i + 1) r).1, (runM m' (i + 1) r).2)

/-- The document's: a subnegotiation's body from place i on. -/
def subR (o : Nat) : List UInt8 → List UInt8 → Nat → Tok × Nat
  | [], _, _ => (z0, 0)
  | c :: r, b, i => if c ≠ 255 then subR o r (b ++ [c]) (i + 1) else
    match r with
    | [] => (z0, 0)
    | d :: r' => if d = 255 then subR o r' (b ++ [255]) (i + 2) else if d = 240 then (⟨4, 0, o, b⟩, i + 2) else (⟨5, d.toNat, o, []⟩, i + 2)

def nextR : List UInt8 → Tok × Nat
  | [] => (z0, 0)
  | c :: r => if c ≠ 255 then (⟨1, c.toNat, 0, []⟩, 1) else
    match r with
    | [] => (z0, 0)
    | d :: r2 => if d = 255 then (⟨1, 255, 0, []⟩, 2) else if d.toNat < 250 then (⟨2, d.toNat, 0, []⟩, 2) else
      match r2 with
      | [] => (z0, 0)
      | e :: r3 => if 250 < d.toNat then (⟨3, d.toNat, e.toNat, []⟩, 3) else subR e.toNat r3 [] 3

def toksR : Nat → Nat → List UInt8 → List (Tok × Nat)
  | 0, _, _ => []
  | k + 1, at_, s => if (nextR s).2 = 0 then [] else ((nextR s).1, at_ + (nextR s).2 - 1) :: toksR k (at_ + (nextR s).2) (s.drop (nextR s).2)

theorem run_none {m m' : M} {c : UInt8} (h : feed m c = (m', none)) (i : Nat) (r : List UInt8) : runM m i (c :: r) = runM m' (i + 1) r := by
  simp only [runM, h]
theorem run_some {m m' : M} {c : UInt8} {t : Tok} (h : feed m c = (m', some t)) (i : Nat) (r : List UInt8) : runM m i (c :: r) = ((t, i) :: (runM m' (i + 1) r).1, (runM m' (i + 1) r).2) := by
  simp only [runM, h]

/-- A body: the machine, and the document's. -/
theorem sub_ok (o : Nat) : ∀ (k : Nat) (r b : List UInt8) (i at_ : Nat), r.length ≤ k →
    ((subR o r b i).2 = 0 → (runM ⟨4, 0, o, b⟩ (at_ + i) r).1 = [] ∧ (runM ⟨4, 0, o, b⟩ (at_ + i) r).2.st ≠ 0) ∧
    ((subR o r b i).2 ≠ 0 → i < (subR o r b i).2 ∧ (subR o r b i).2 ≤ i + r.length ∧
      runM ⟨4, 0, o, b⟩ (at_ + i) r = (((subR o r b i).1, at_ + (subR o r b i).2 - 1) :: (runM M0 (at_ + (subR o r b i).2) (r.drop ((subR o r b i).2 - i))).1, (runM M0 (at_ + (subR o r b i).2) (r.drop ((subR o r b i).2 - i))).2)) := by
  intro k
  induction k with
  | zero =>
    intro r b i at_ hk
    have : r = [] := List.length_eq_zero_iff.1 (by omega)
    subst this
    exact ⟨fun _ => ⟨rfl, by simp [runM]⟩, fun h => absurd rfl h⟩
  | succ k ih =>
    intro r b i at_ hk
    match r with
    | [] => exact ⟨fun _ => ⟨rfl, by simp [runM]⟩, fun h => absurd rfl h⟩
    | c :: r =>
      by_cases hc : c = 255
      · subst hc
        have f1 : feed ⟨4, 0, o, b⟩ 255 = (⟨5, 0, o, b⟩, none) := by simp [feed]
        rw [run_none f1]
        match r with
        | [] => exact ⟨fun _ => ⟨rfl, by simp [runM]⟩, fun h => absurd rfl h⟩
        | d :: r' =>
          by_cases hd : d = 255
          · subst hd
            have f2 : feed ⟨5, 0, o, b⟩ 255 = (⟨4, 0, o, b ++ [255]⟩, none) := by simp [feed]
            rw [run_none f2]
            have e : subR o (255 :: 255 :: r') b i = subR o r' (b ++ [255]) (i + 2) := by simp [subR]
            rw [e]
            obtain ⟨h1, h2⟩ := ih r' (b ++ [255]) (i + 2) at_ (by simp at hk; omega)
            rw [show at_ + i + 1 + 1 = at_ + (i + 2) by omega]
            refine ⟨h1, fun h => ?_⟩
            obtain ⟨g1, g2, g3⟩ := h2 h
            refine ⟨by omega, by simp only [List.length_cons]; omega, ?_⟩
            rw [g3]
            have : (255 :: 255 :: r').drop ((subR o r' (b ++ [255]) (i + 2)).2 - i) = r'.drop ((subR o r' (b ++ [255]) (i + 2)).2 - (i + 2)) := by
              rw [show (subR o r' (b ++ [255]) (i + 2)).2 - i = ((subR o r' (b ++ [255]) (i + 2)).2 - (i + 2)) + 1 + 1 by omega]
              rfl
            rw [this]
          · by_cases h4 : d = 240
            · subst h4
              have f2 : feed ⟨5, 0, o, b⟩ 240 = (M0, some ⟨4, 0, o, b⟩) := by simp [feed]
              rw [run_some f2]
              have e : subR o (255 :: 240 :: r') b i = (⟨4, 0, o, b⟩, i + 2) := by simp [subR]
              rw [e]
              refine ⟨fun h => by simp at h, fun _ => ⟨by simp only; omega, by simp only [List.length_cons]; omega, ?_⟩⟩
              simp only
              rw [show i + 2 - i = 2 by omega, show at_ + (i + 2) - 1 = at_ + i + 1 by omega, show at_ + (i + 2) = at_ + i + 1 + 1 by omega]
              rfl
            · have f2 : feed ⟨5, 0, o, b⟩ d = (M0, some ⟨5, d.toNat, o, []⟩) := by simp [feed, hd, h4]
              rw [run_some f2]
              have e : subR o (255 :: d :: r') b i = (⟨5, d.toNat, o, []⟩, i + 2) := by simp [subR, hd, h4]
              rw [e]
              refine ⟨fun h => by simp at h, fun _ => ⟨by simp only; omega, by simp only [List.length_cons]; omega, ?_⟩⟩
              simp only
              rw [show i + 2 - i = 2 by omega, show at_ + (i + 2) - 1 = at_ + i + 1 by omega, show at_ + (i + 2) = at_ + i + 1 + 1 by omega]
              rfl
      · have f1 : feed ⟨4, 0, o, b⟩ c = (⟨4, 0, o, b ++ [c]⟩, none) := by simp [feed, hc]
        rw [run_none f1]
        have e : subR o (c :: r) b i = subR o r (b ++ [c]) (i + 1) := by rw [subR.eq_def]; simp [hc]
        rw [e]
        obtain ⟨h1, h2⟩ := ih r (b ++ [c]) (i + 1) at_ (by simp at hk; omega)
        rw [show at_ + i + 1 = at_ + (i + 1) by omega]
        refine ⟨h1, fun h => ?_⟩
        obtain ⟨g1, g2, g3⟩ := h2 h
        refine ⟨by omega, by simp only [List.length_cons]; omega, ?_⟩
        rw [g3]
        have : (c :: r).drop ((subR o r (b ++ [c]) (i + 1)).2 - i) = r.drop ((subR o r (b ++ [c]) (i + 1)).2 - (i + 1)) := by
          rw [show (subR o r (b ++ [c]) (i + 1)).2 - i = ((subR o r (b ++ [c]) (i + 1)).2 - (i + 1)) + 1 by omega]
          rfl
        rw [this]

theorem lt256 (c : UInt8) : c.toNat < 256 := c.toNat_lt
theorem ne_nat {c : UInt8} {k : UInt8} : c ≠ k ↔ c.toNat ≠ k.toNat := not_congr UInt8.toNat_inj.symm

/-- A token at the front of bytes. -/
theorem next_ok (s : List UInt8) (at_ : Nat) :
    ((nextR s).2 = 0 → (runM M0 at_ s).1 = [] ∧ ((runM M0 at_ s).2.st = 0 ↔ s = [])) ∧
    ((nextR s).2 ≠ 0 → (nextR s).2 ≤ s.length ∧
      runM M0 at_ s = (((nextR s).1, at_ + (nextR s).2 - 1) :: (runM M0 (at_ + (nextR s).2) (s.drop (nextR s).2)).1, (runM M0 (at_ + (nextR s).2) (s.drop (nextR s).2)).2)) := by
  match s with
  | [] => exact ⟨fun _ => ⟨rfl, by simp [runM, M0]⟩, fun h => absurd rfl h⟩
  | c :: r =>
    by_cases hc : c = 255
    · subst hc
      have f1 : feed M0 255 = (⟨1, 0, 0, []⟩, none) := by simp [feed, M0]
      match r with
      | [] => exact ⟨fun _ => by rw [run_none f1]; exact ⟨rfl, by simp [runM]⟩, fun h => absurd rfl h⟩
      | d :: r2 =>
        by_cases hd : d = 255
        · subst hd
          have f2 : feed ⟨1, 0, 0, []⟩ 255 = (M0, some ⟨1, 255, 0, []⟩) := by simp [feed]
          have e : nextR (255 :: 255 :: r2) = (⟨1, 255, 0, []⟩, 2) := by simp [nextR]
          rw [e]
          exact ⟨fun h => by simp at h, fun _ => ⟨by simp, by rw [run_none f1, run_some f2]; rfl⟩⟩
        · have hd1 := ne_nat.1 hd
          have hd2 := lt256 d
          by_cases h250 : d.toNat < 250
          · have hn : d ≠ 250 := ne_nat.2 (by show d.toNat ≠ 250; omega)
            have f2 : feed ⟨1, 0, 0, []⟩ d = (M0, some ⟨2, d.toNat, 0, []⟩) := by
              simp only [feed, if_true, if_neg hd, if_neg hn]
              rw [if_neg (by omega)]
            have e : nextR (255 :: d :: r2) = (⟨2, d.toNat, 0, []⟩, 2) := by simp [nextR, hd, h250]
            rw [e]
            exact ⟨fun h => by simp at h, fun _ => ⟨by simp, by rw [run_none f1, run_some f2]; rfl⟩⟩
          · by_cases hb : 250 < d.toNat
            · have hn : d ≠ 250 := ne_nat.2 (by show d.toNat ≠ 250; omega)
              have hd3 : d.toNat ≠ 255 := hd1
              have f2 : feed ⟨1, 0, 0, []⟩ d = (⟨2, d.toNat, 0, []⟩, none) := by
                simp only [feed, if_true, if_neg hd, if_neg hn]
                rw [if_pos (by omega)]
              match r2 with
              | [] =>
                have e : nextR [255, d] = (z0, 0) := by simp [nextR, hd, h250]
                rw [e]
                exact ⟨fun _ => by rw [run_none f1, run_none f2]; exact ⟨rfl, by simp [runM]⟩, fun h => absurd rfl h⟩
              | x :: r3 =>
                have f3 : feed ⟨2, d.toNat, 0, []⟩ x = (M0, some ⟨3, d.toNat, x.toNat, []⟩) := by simp [feed]
                have e : nextR (255 :: d :: x :: r3) = (⟨3, d.toNat, x.toNat, []⟩, 3) := by simp [nextR, hd, h250, hb]
                rw [e]
                exact ⟨fun h => by simp at h, fun _ => ⟨by simp, by rw [run_none f1, run_none f2, run_some f3]; rfl⟩⟩
            · have hq : d = 250 := UInt8.toNat_inj.1 (by show d.toNat = 250; omega)
              subst hq
              have f2 : feed ⟨1, 0, 0, []⟩ 250 = (⟨3, 0, 0, []⟩, none) := by simp [feed]
              match r2 with
              | [] => exact ⟨fun _ => by rw [run_none f1, run_none f2]; exact ⟨rfl, by simp [runM]⟩, fun h => absurd rfl h⟩
              | x :: r3 =>
                have f3 : feed ⟨3, 0, 0, []⟩ x = (⟨4, 0, x.toNat, []⟩, none) := by simp [feed]
                have e : nextR (255 :: 250 :: x :: r3) = subR x.toNat r3 [] 3 := by simp [nextR]
                rw [e, run_none f1, run_none f2, run_none f3]
                obtain ⟨h1, h2⟩ := sub_ok x.toNat r3.length r3 [] 3 at_ (Nat.le_refl _)
                rw [show at_ + 1 + 1 + 1 = at_ + 3 by omega]
                refine ⟨fun h => ⟨(h1 h).1, by simp [(h1 h).2]⟩, fun h => ?_⟩
                obtain ⟨g1, g2, g3⟩ := h2 h
                refine ⟨by simp only [List.length_cons]; omega, ?_⟩
                rw [g3]
                have : (255 :: 250 :: x :: r3).drop (subR x.toNat r3 [] 3).2 = r3.drop ((subR x.toNat r3 [] 3).2 - 3) := by
                  rw [show (subR x.toNat r3 [] 3).2 = ((subR x.toNat r3 [] 3).2 - 3) + 1 + 1 + 1 by omega]
                  rfl
                rw [this]
    · have f1 : feed M0 c = (M0, some ⟨1, c.toNat, 0, []⟩) := by simp [feed, M0, hc]
      have e : nextR (c :: r) = (⟨1, c.toNat, 0, []⟩, 1) := by rw [nextR.eq_def]; simp [hc]
      rw [e]
      exact ⟨fun h => by simp at h, fun _ => ⟨by simp, by rw [run_some f1]; rfl⟩⟩

/-- The machine's tokens are the document's. -/
theorem run_toks : ∀ (k : Nat) (s : List UInt8) (at_ : Nat), s.length < k → (runM M0 at_ s).1 = toksR k at_ s
  | 0, s, _, h => by omega
  | k + 1, s, at_, h => by
    obtain ⟨h1, h2⟩ := next_ok s at_
    simp only [toksR]
    by_cases hz : (nextR s).2 = 0
    · rw [if_pos hz]; exact (h1 hz).1
    · rw [if_neg hz]
      obtain ⟨g1, g2⟩ := h2 hz
      rw [g2, run_toks k (s.drop (nextR s).2) (at_ + (nextR s).2) (by rw [List.length_drop]; omega)]

/-- What stays, byte by byte: marks and raw by place. -/
def cleanM (mk rw : Nat → Bool) : M → Bool → Bool → Nat → List UInt8 → List (Tok × Nat)
  | _, _, _, _, [] => []
  | m, df, bh, i, c :: r =>
    match feed m c with
    | (m', none) => cleanM mk rw m' (df || mk i) bh (i + 1) r
    | (m', some t) =>
      if t.kind = 2 ∧ t.code = 242 then (t, i) :: cleanM mk rw m' false bh (i + 1) r
      else if t.kind ≠ 1 then (t, i) :: cleanM mk rw m' (df || mk i) bh (i + 1) r
      else if (df || mk i) = true then cleanM mk rw m' true bh (i + 1) r
      else (if (rw i || (t.code != 0 || !bh)) = true then [(t, i)] else []) ++ cleanM mk rw m' false (!rw i && t.code == 13) (i + 1) r

/-- Is one of n places from i on marked? -/
def anyK (mk : Nat → Bool) : Nat → Nat → Bool
  | 0, _ => false
  | n + 1, i => mk i || anyK mk n (i + 1)

/-- The same, token by token: last is the first place behind the last token. -/
def cleanT (mk rw : Nat → Bool) : Bool → Bool → Nat → List (Tok × Nat) → List (Tok × Nat)
  | _, _, _, [] => []
  | df, bh, last, (t, e) :: r =>
    if t.kind = 2 ∧ t.code = 242 then (t, e) :: cleanT mk rw false bh (e + 1) r
    else if t.kind ≠ 1 then (t, e) :: cleanT mk rw (df || anyK mk (e + 1 - last) last) bh (e + 1) r
    else if (df || anyK mk (e + 1 - last) last) = true then cleanT mk rw true bh (e + 1) r
    else (if (rw e || (t.code != 0 || !bh)) = true then [(t, e)] else []) ++ cleanT mk rw false (!rw e && t.code == 13) (e + 1) r

theorem run_ge : ∀ (s : List UInt8) (m : M) (i : Nat), ∀ x ∈ (runM m i s).1, i ≤ x.2
  | [], m, i, x, h => by cases h
  | c :: r, m, i, x, h => by
    cases hf : feed m c with
    | mk m' o =>
      cases o with
      | none => rw [run_none hf] at h; have := run_ge r m' (i + 1) x h; omega
      | some t =>
        rw [run_some hf] at h
        rcases List.mem_cons.1 h with rfl | h
        · exact Nat.le_refl _
        · have := run_ge r m' (i + 1) x h; omega

theorem cleanT_step (mk rw : Nat → Bool) (df bh : Bool) (i : Nat) : ∀ T : List (Tok × Nat), (∀ x ∈ T, i + 1 ≤ x.2) → cleanT mk rw (df || mk i) bh (i + 1) T = cleanT mk rw df bh i T
  | [], _ => rfl
  | (t, e) :: r, h => by
    have he := h (t, e) (by simp)
    simp only at he
    have hk : anyK mk (e + 1 - i) i = (mk i || anyK mk (e + 1 - (i + 1)) (i + 1)) := by
      rw [show e + 1 - i = (e + 1 - (i + 1)) + 1 by omega]
      rfl
    simp only [cleanT, hk, Bool.or_assoc]

theorem clean_T (mk rw : Nat → Bool) : ∀ (s : List UInt8) (m : M) (df bh : Bool) (i : Nat), cleanM mk rw m df bh i s = cleanT mk rw df bh i (runM m i s).1
  | [], m, df, bh, i => rfl
  | c :: r, m, df, bh, i => by
    cases hf : feed m c with
    | mk m' o =>
      cases o with
      | none =>
        rw [run_none hf]
        simp only [cleanM, hf]
        rw [clean_T mk rw r m' (df || mk i) bh (i + 1)]
        exact cleanT_step mk rw df bh i _ (run_ge r m' (i + 1))
      | some t =>
        rw [run_some hf]
        have hk : anyK mk (i + 1 - i) i = mk i := by
          rw [show i + 1 - i = 1 by omega]
          simp [anyK]
        simp only [cleanM, hf, cleanT, hk]
        simp only [clean_T mk rw r]

section
variable (mk rw : Nat → Bool) (T : List (Tok × Nat))
def tkA (i : Nat) : Tok := (T.getD i (z0, 0)).1
def enA (i : Nat) : Nat := (T.getD i (z0, 0)).2
/-- The first place behind the first n tokens. -/
def lastA : Nat → Nat
  | 0 => 0
  | n + 1 => enA T n + 1
def isDM (t : Tok) : Bool := t.kind == 2 && t.code == 242
/-- Is the reader deaf behind the first n tokens? -/
def dfA : Nat → Bool
  | 0 => false
  | n + 1 => if isDM (tkA T n) = true then false else dfA n || anyK mk (enA T n + 1 - lastA T n) (lastA T n)
/-- Is the n-th token's datum heard? -/
def heardA (n : Nat) : Bool := (tkA T n).kind == 1 && !(dfA mk T n || anyK mk (enA T n + 1 - lastA T n) (lastA T n))
/-- The data that are heard of the first n tokens: each with whether it came raw, and its token's number. -/
def dataA : Nat → List (Nat × Bool × Nat)
  | 0 => []
  | n + 1 => if heardA mk T n = true then dataA n ++ [((tkA T n).code, rw (enA T n), n)] else dataA n
/-- Behind a carriage return that came not raw? -/
def bhL : List (Nat × Bool × Nat) → Bool
  | [] => false
  | [x] => !x.2.1 && x.1 == 13
  | _ :: y :: r => bhL (y :: r)
def stayA (i : Nat) : Bool :=
  if (tkA T i).kind = 1 then heardA mk T i && (rw (enA T i) || ((tkA T i).code != 0 || !bhL (dataA mk rw T i))) else true
def outA : Nat → List (Tok × Nat)
  | 0 => []
  | n + 1 => outA n ++ (if stayA mk rw T n = true then [(tkA T n, enA T n)] else [])
end

theorem bhL_snoc (x : Nat × Bool × Nat) : ∀ l, bhL (l ++ [x]) = (!x.2.1 && x.1 == 13)
  | [] => rfl
  | [y] => rfl
  | y :: z :: r => by
    show bhL (z :: (r ++ [x])) = _
    exact bhL_snoc x (z :: r)

/-- The document's three passes keep what is kept token by token. -/
theorem cleanT_out (mk rw : Nat → Bool) (T : List (Tok × Nat)) : ∀ (k n : Nat), n + k = T.length →
    outA mk rw T n ++ cleanT mk rw (dfA mk T n) (bhL (dataA mk rw T n)) (lastA T n) (T.drop n) = outA mk rw T T.length
  | 0, n, h => by
    have : n = T.length := by omega
    subst this
    simp [cleanT]
  | k + 1, n, h => by
    have hn : n < T.length := by omega
    rw [← cleanT_out mk rw T k (n + 1) (by omega)]
    have hd : T.drop n = (tkA T n, enA T n) :: T.drop (n + 1) := by
      rw [List.drop_eq_getElem_cons hn]
      simp only [tkA, enA, List.getD_eq_getElem?_getD, List.getElem?_eq_getElem hn, Option.getD_some]
    have hl : lastA T (n + 1) = enA T n + 1 := rfl
    rw [hd]
    simp only [outA, List.append_assoc]
    congr 1
    simp only [cleanT]
    by_cases h1 : (tkA T n).kind = 2 ∧ (tkA T n).code = 242
    · have e1 : isDM (tkA T n) = true := by simp [isDM, h1.1, h1.2]
      have e2 : heardA mk T n = false := by simp [heardA, h1.1]
      have e3 : stayA mk rw T n = true := by unfold stayA; rw [if_neg (by omega)]
      rw [if_pos h1, e3]
      simp only [dfA, dataA, e1, e2, hl, if_true, Bool.false_eq_true, if_false, List.singleton_append]
    · have e1 : isDM (tkA T n) = false := by
        rw [Bool.eq_false_iff]; intro e
        simp only [isDM, Bool.and_eq_true, beq_iff_eq] at e
        exact h1 e
      rw [if_neg h1]
      by_cases h2 : (tkA T n).kind = 1
      · rw [if_neg (by omega)]
        cases hdf : dfA mk T n || anyK mk (enA T n + 1 - lastA T n) (lastA T n) with
        | true =>
          have e2 : heardA mk T n = false := by unfold heardA; rw [hdf]; simp
          have e3 : stayA mk rw T n = false := by unfold stayA; rw [if_pos h2, e2, Bool.false_and]
          rw [if_pos rfl, e3]
          simp only [dfA, dataA, e1, e2, hdf, hl, Bool.false_eq_true, if_false, List.nil_append]
        | false =>
          have e2 : heardA mk T n = true := by unfold heardA; rw [hdf]; simp [h2]
          have e3 : stayA mk rw T n = (rw (enA T n) || ((tkA T n).code != 0 || !bhL (dataA mk rw T n))) := by unfold stayA; rw [if_pos h2, e2, Bool.true_and]
          rw [if_neg (by simp), e3]
          simp only [dfA, dataA, e1, e2, hdf, hl, Bool.false_eq_true, if_false, if_true, bhL_snoc]
      · have e2 : heardA mk T n = false := by simp [heardA, h2]
        have e3 : stayA mk rw T n = true := by unfold stayA; rw [if_neg h2]
        rw [if_pos h2, e3]
        simp only [dfA, dataA, e1, e2, hl, Bool.false_eq_true, if_false, if_true, List.singleton_append]

/-- What the reader keeps, byte by byte, is what the document keeps. -/
theorem clean_ok (mk rw : Nat → Bool) (s : List UInt8) : cleanM mk rw M0 false false 0 s = outA mk rw (toksR (s.length + 1) 0 s) (toksR (s.length + 1) 0 s).length := by
  rw [clean_T, run_toks (s.length + 1) s 0 (by omega)]
  have := cleanT_out mk rw (toksR (s.length + 1) 0 s) (toksR (s.length + 1) 0 s).length 0 (by omega)
  simpa [outA, dfA, dataA, bhL, lastA] using this

/-- The reader behind one byte more: its machine, deaf, behind a carriage return. -/
def stepM (mk rw : Nat → Bool) (q : M × Bool × Bool) (i : Nat) (c : UInt8) : M × Bool × Bool :=
  match feed q.1 c with
  | (m', none) => (m', q.2.1 || mk i, q.2.2)
  | (m', some t) =>
    if t.kind = 2 ∧ t.code = 242 then (m', false, q.2.2)
    else if t.kind ≠ 1 then (m', q.2.1 || mk i, q.2.2)
    else if (q.2.1 || mk i) = true then (m', true, q.2.2)
    else (m', false, !rw i && t.code == 13)
def stM (mk rw : Nat → Bool) : M × Bool × Bool → Nat → List UInt8 → M × Bool × Bool
  | q, _, [] => q
  | q, i, c :: r => stM mk rw (stepM mk rw q i c) (i + 1) r
/-- What is told at one byte. -/
def tellM (mk rw : Nat → Bool) (q : M × Bool × Bool) (i : Nat) (c : UInt8) : List (Tok × Nat) :=
  match feed q.1 c with
  | (_, none) => []
  | (_, some t) =>
    if t.kind = 2 ∧ t.code = 242 then [(t, i)]
    else if t.kind ≠ 1 then [(t, i)]
    else if (q.2.1 || mk i) = true then []
    else if (rw i || (t.code != 0 || !q.2.2)) = true then [(t, i)] else []

theorem cleanM_cons (mk rw : Nat → Bool) (m : M) (df bh : Bool) (i : Nat) (c : UInt8) (r : List UInt8) :
    cleanM mk rw m df bh i (c :: r) = tellM mk rw (m, df, bh) i c ++ cleanM mk rw (stepM mk rw (m, df, bh) i c).1 (stepM mk rw (m, df, bh) i c).2.1 (stepM mk rw (m, df, bh) i c).2.2 (i + 1) r := by
  simp only [cleanM, tellM, stepM]
  cases feed m c with
  | mk m' o =>
    cases o with
    | none => rfl
    | some t =>
      simp only
      split
      · rfl
      · split
        · rfl
        · split
          · rfl
          · rfl

end Go.Proofs.Ytcphocfnhekdaaa.CleanR

set_option linter.unusedSimpArgs false
set_option linter.unusedVariables false
set_option maxRecDepth 100000
namespace Go.Proofs.Ytcphocfnhekdaaa
open Go.Sx

theorem goodP : PGood Try.prog := good_of (by kernel_rfl) (by kernel_rfl)
theorem gtopP : gtop Try.prog ≤ 100 := of_decide_eq_true (by kernel_rfl)
theorem gtopG : gtop Try.prog = 0 := of_decide_eq_true (by kernel_rfl)
theorem gtL {n : Nat} (h : 0 ≤ n) : gtop Try.prog ≤ n := Nat.le_trans (Nat.le_of_eq gtopG) h
theorem baseO : Base0 Try.prog [] := Base0.nil goodP
abbrev YES : SV := .v (.vb fun _ => true)
abbrev vN (a : Int) : SV := .v (.vi .i64 fun _ => a)
abbrev vU (a : Int) : SV := .v (.vi .u8 fun _ => a)
abbrev vB (a : Bool) : SV := .v (.vb fun _ => a)
abbrev vS (a : List UInt8) : SV := .v (.vs fun _ => a)
abbrev vP (l : Nat) : SV := .v (.vp l (fun _ => 0) [])
abbrev vL (l w n : Nat) : SV := .v (.vl l (fun _ => 0) w [] (fun _ => n))
open CleanR
/-- The first place from i on, of k, at which a row has a number; -1: none. -/
def idxF (U : Ix → Int) (v : Int) : Nat → Nat → Int
  | 0, _ => -1
  | k + 1, i => if U [i] = v then (i : Int) else idxF U v k (i + 1)
def hasM (U : Ix → Int) (n : Nat) (v : Int) : Bool := decide (idxF U v n 0 ≥ 0)
def tk (k c o : Nat) (b : List UInt8) : Tok := ⟨k, c, o, b⟩
def tK (T : List Tok) : Ix → Int := fun is => ((T.getD (is.headD 0) z0).kind : Int)
def tC (T : List Tok) : Ix → Int := fun is => ((T.getD (is.headD 0) z0).code : Int)
def tO (T : List Tok) : Ix → Int := fun is => ((T.getD (is.headD 0) z0).opt : Int)
def tU : Ix → Bool := fun _ => false
def tM (T : List Tok) : Ix → Nat := fun is => T.length - 1 - is.headD 0
def tL (T : List Tok) : Ix → Nat := fun is => (T.getD (is.headD 0) z0).body.length
def fL (T : List Tok) : Nat → Nat := fun m => (T.getD (T.length - 1 - m) z0).body.length
def fB (T : List Tok) : Ix → Int := fun is => (((T.getD (T.length - 1 - is.headD 0) z0).body.getD (is.tail.headD 0) 0).toNat : Int)
def toE (l f : Nat) (T : List Tok) : List Ent := [⟨l, true, none, 5, .ta T.length (.tc (.vi .i64 (tK T)) (.tc (.vi .i64 (tC T)) (.tc (.vi .i64 (tO T)) (.tc (.vl f (tM T) 1 [] (tL T)) (.tc (.vb tU) .t0)))))⟩, ⟨f, true, some (T.length, fL T), 1, .vi .u8 (fB T)⟩]
def bW (l : Nat) (b : List UInt8) : List Ent := [⟨l, true, none, 1, .ta b.length (.vi .u8 fun is => ((b.getD (is.headD 0) 0).toNat : Int))⟩]
def clE (p l st cd op : Nat) (b : List UInt8) (bh df : Bool) : List Ent := ⟨p, true, none, 8, .tc (.tc (.vi .i64 fun _ => st) (.tc (.tc (.vi .i64 fun _ => 0) (.tc (.vi .i64 fun _ => cd) (.tc (.vi .i64 fun _ => op) (.tc (.vl l (fun _ => 0) 1 [] (fun _ => b.length)) (.tc (.vb fun _ => false) .t0))))) .t0)) (.tc (.tc (.vb fun _ => bh) .t0) (.tc (.vb fun _ => df) .t0))⟩ :: bW l b
def rB (l n : Nat) (B : Ix → Int) : List Ent := [⟨l, false, none, 1, .ta n (.vi .u8 B)⟩]
def rI (l n : Nat) (B : Ix → Int) : List Ent := [⟨l, false, none, 1, .ta n (.vi .i64 B)⟩]
theorem idx_hit {U : Ix → Int} {v : Int} {k i : Nat} (h : U [i] = v) : idxF U v (k + 1) i = (i : Int) := by simp only [idxF, if_pos h]
theorem idx_miss {U : Ix → Int} {v : Int} {k i : Nat} (h : U [i] ≠ v) : idxF U v (k + 1) i = idxF U v k (i + 1) := by simp only [idxF, if_neg h]
theorem ixStart_p0 (Q : Nat) (U : Ix → Int) (x : Int) :
    isMore (evTill Try.prog [] 300 (behind Try.f30 0) 900 30 [.code (bodyOf Try.f30)] (envOf [vL 61 1 Q, vN x] Try.f30.ntmps) (rI 61 Q U ++ ([])) ⟨[], 80⟩) (moreP (headOf Try.f30 0) ([]) Try.f30.ntmps ([(0, vL 61 1 Q), (1, vN x), (7, vN Q), (8, vN (0 : Nat))]) ([]) 140) =
    (OkL [] ∧ headOf Try.f30 (0 : Nat) = headOf Try.f30 (0 : Nat) ∧ (((0 : Nat) = (0 : Nat) ∧ Q = Q) ∧ x = x ∧ (↑Q : Int) = (↑Q : Int) ∧ (↑(0 : Nat) : Int) = (0 : Int)) ∧ True) := by kernel_rfl

set_option maxHeartbeats 4000000 in
theorem ixStart (Q : Nat) (U : Ix → Int) (x : Int)  (v : SV) (L' : HF) (next : RunsTo Try.prog 30 (headOf Try.f30 0) (envAt Try.f30.ntmps ([(0, vL 61 1 Q), (1, vN x), (7, vN Q), (8, vN (0 : Nat))])) (Sx.look (rI 61 Q U ++ ([]))) 80 (v) (L') 140) :
    RunsTo Try.prog 30 [.code (bodyOf Try.f30)] (envOf [vL 61 1 Q, vN x] Try.f30.ntmps) (Sx.look (rI 61 Q U ++ ([]))) 80 (v) (L') 140 := by
  refine runs_more baseO (More.of (ixStart_p0 Q U x) ⟨?oo, rfl, ?rr⟩) (by kernel_rfl) (by kernel_rfl) rfl (gtL (by decide)) (by decide) next
  case oo =>
    clear next
    refine okn
    all_goals ((try simp (disch := omega) only [SS]); first | done | omega | assumption | (simp (disch := omega) only [SS] at *; first | done | omega | assumption) | (simp_all; done))
  case rr =>
    clear next
    try simp (disch := omega) only [SS]
    repeat' apply And.intro
    all_goals first | exact True.intro | with_reducible rfl | omega | (intros; first | exact True.intro | with_reducible rfl | omega | (simp_all; done)) | (simp_all; done) | rfl

theorem ixMiss_p0 (Q : Nat) (U : Ix → Int) (x : Int) (i : Nat) :
    isMore (evTill Try.prog [] 300 (behind Try.f30 0) 900 30 (headOf Try.f30 0) (envAt Try.f30.ntmps ([(0, vL 61 1 Q), (1, vN x), (7, vN Q), (8, vN (i : Nat))])) (rI 61 Q U ++ ([])) ⟨[.s true, .s true, .s true, .s true, .s false], 110⟩) (moreP (headOf Try.f30 0) ([]) Try.f30.ntmps ([(0, vL 61 1 Q), (1, vN x), (7, vN Q), (8, vN (i + 1 : Nat))]) ([]) 140) =
    (OkL [(decide ((↑i : Int) < (↑Q : Int)), true), (decide ((0 : Int) ≤ (↑i : Int) ∧ (↑i : Int) < (↑Q : Int)), true), (((0 : Nat) + (↑i : Int).toNat).blt Q, true), (((0 : Nat) + (↑i : Int).toNat).blt Q, true), (x == U [(0 : Nat) + (↑i : Int).toNat], false)] ∧ headOf Try.f30 (0 : Nat) = headOf Try.f30 (0 : Nat) ∧ (((0 : Nat) = (0 : Nat) ∧ Q = Q) ∧ x = x ∧ (↑Q : Int) = (↑Q : Int) ∧ (↑(i + (1 : Nat)) : Int) = IntKind.i64.wrap ((↑i : Int) + (1 : Int))) ∧ True) := by kernel_rfl

set_option maxHeartbeats 4000000 in
theorem ixMiss (Q : Nat) (U : Ix → Int) (x : Int) (i : Nat) (hi : i < Q) (hQ : Q ≤ 1000) (h : U [i] ≠ x) (v : SV) (L' : HF) (next : RunsTo Try.prog 30 (headOf Try.f30 0) (envAt Try.f30.ntmps ([(0, vL 61 1 Q), (1, vN x), (7, vN Q), (8, vN (i + 1 : Nat))])) (Sx.look (rI 61 Q U ++ ([]))) 80 (v) (L') 140) :
    RunsTo Try.prog 30 (headOf Try.f30 0) (envAt Try.f30.ntmps ([(0, vL 61 1 Q), (1, vN x), (7, vN Q), (8, vN (i : Nat))])) (Sx.look (rI 61 Q U ++ ([]))) 80 (v) (L') 140 := by
  have hw : IntKind.i64.wrap ((i : Int) + 1) = ((i + 1 : Nat) : Int) := by rw [wr64 (by omega)]; rfl
  refine runs_more baseO (More.of (ixMiss_p0 Q U x i) ⟨?oo, rfl, ?rr⟩) (by kernel_rfl) (by kernel_rfl) rfl (gtL (by decide)) (by decide) next
  case oo =>
    clear next
    refine (okc ?_ (okc ?_ (okc ?_ (okc ?_ (okc ?_ okn)))))
    all_goals ((try simp (disch := omega) only [SS, hw]); first | done | omega | assumption | (simp (disch := omega) only [SS, hw] at *; first | done | omega | assumption) | (simp_all; done))
  case rr =>
    clear next
    try simp (disch := omega) only [SS, hw]
    repeat' apply And.intro
    all_goals first | exact True.intro | with_reducible rfl | omega | (intros; first | exact True.intro | with_reducible rfl | omega | (simp_all; done)) | (simp_all; done) | rfl

theorem ixHit_p0 (Q : Nat) (U : Ix → Int) (x : Int) (i : Nat) :
    isEnd (evTill Try.prog [] 300 (99) 900 30 (headOf Try.f30 0) (envAt Try.f30.ntmps ([(0, vL 61 1 Q), (1, vN x), (7, vN Q), (8, vN (i : Nat))])) (rI 61 Q U ++ ([])) ⟨[.s true, .s true, .s true, .s true, .s true], 110⟩) (endP ([]) (vN i) ([]) 140) =
    (OkL [(decide ((↑i : Int) < (↑Q : Int)), true), (decide ((0 : Int) ≤ (↑i : Int) ∧ (↑i : Int) < (↑Q : Int)), true), (((0 : Nat) + (↑i : Int).toNat).blt Q, true), (((0 : Nat) + (↑i : Int).toNat).blt Q, true), (x == U [(0 : Nat) + (↑i : Int).toNat], true)] ∧ (↑i : Int) = (↑i : Int) ∧ True) := by kernel_rfl

set_option maxHeartbeats 4000000 in
theorem ixHit (Q : Nat) (U : Ix → Int) (x : Int) (i : Nat) (hi : i < Q) (h : U [i] = x) :
    RunsTo Try.prog 30 (headOf Try.f30 0) (envAt Try.f30.ntmps ([(0, vL 61 1 Q), (1, vN x), (7, vN Q), (8, vN (i : Nat))])) (Sx.look (rI 61 Q U ++ ([]))) 80 (vN i) (Sx.look ([])) 140 := by
  refine runs_last baseO (Sx.Ends.of (ixHit_p0 Q U x i) ⟨?oo, ?rr⟩) (by kernel_rfl) rfl (gtL (by decide)) (by decide)
  case oo =>
    refine (okc ?_ (okc ?_ (okc ?_ (okc ?_ (okc ?_ okn)))))
    all_goals ((try simp (disch := omega) only [SS]); first | done | omega | assumption | (simp (disch := omega) only [SS] at *; first | done | omega | assumption) | (simp_all; done))
  case rr =>
    try simp (disch := omega) only [SS]
    repeat' apply And.intro
    all_goals first | exact True.intro | with_reducible rfl | omega | (intros; first | exact True.intro | with_reducible rfl | omega | (simp_all; done)) | (simp_all; done) | rfl

theorem ixEnd_p0 (Q : Nat) (U : Ix → Int) (x : Int) (i : Nat) :
    isEnd (evTill Try.prog [] 300 (99) 900 30 (headOf Try.f30 0) (envAt Try.f30.ntmps ([(0, vL 61 1 Q), (1, vN x), (7, vN Q), (8, vN (i : Nat))])) (rI 61 Q U ++ ([])) ⟨[.s false], 110⟩) (endP ([]) (vN (-1)) ([]) 140) =
    (OkL [(decide ((↑i : Int) < (↑Q : Int)), false)] ∧ (-1 : Int) = (-1 : Int) ∧ True) := by kernel_rfl

set_option maxHeartbeats 4000000 in
theorem ixEnd (Q : Nat) (U : Ix → Int) (x : Int) (i : Nat) (hi : i = Q) :
    RunsTo Try.prog 30 (headOf Try.f30 0) (envAt Try.f30.ntmps ([(0, vL 61 1 Q), (1, vN x), (7, vN Q), (8, vN (i : Nat))])) (Sx.look (rI 61 Q U ++ ([]))) 80 (vN (-1)) (Sx.look ([])) 140 := by
  refine runs_last baseO (Sx.Ends.of (ixEnd_p0 Q U x i) ⟨?oo, ?rr⟩) (by kernel_rfl) rfl (gtL (by decide)) (by decide)
  case oo =>
    refine (okc ?_ okn)
    all_goals ((try simp (disch := omega) only [SS]); first | done | omega | assumption | (simp (disch := omega) only [SS] at *; first | done | omega | assumption) | (simp_all; done))
  case rr =>
    try simp (disch := omega) only [SS]
    repeat' apply And.intro
    all_goals first | exact True.intro | with_reducible rfl | omega | (intros; first | exact True.intro | with_reducible rfl | omega | (simp_all; done)) | (simp_all; done) | rfl

theorem ixI (Q : Nat) (U : Ix → Int) (x : Int) (hQ : Q ≤ 1000) : RunsTo Try.prog 30 [.code (bodyOf Try.f30)] (envOf [vL 61 1 Q, vN x] Try.f30.ntmps) (Sx.look (rI 61 Q U ++ ([]))) 80 (vN (idxF U x Q 0)) (Sx.look []) 140 := by
  refine ixStart Q U x _ _ ?_
  suffices q : ∀ (k i : Nat), i + k = Q → RunsTo Try.prog 30 (headOf Try.f30 0) (envAt Try.f30.ntmps ([(0, vL 61 1 Q), (1, vN x), (7, vN Q), (8, vN (i : Nat))])) (Sx.look (rI 61 Q U ++ ([]))) 80 (vN (idxF U x k i)) (Sx.look []) 140 from q Q 0 (by omega)
  intro k
  induction k with
  | zero => intro i hi; exact ixEnd Q U x i (by omega)
  | succ k ih =>
    intro i hi
    by_cases h : U [i] = x
    · rw [idx_hit h]; exact ixHit Q U x i (by omega) h
    · rw [idx_miss h]; exact ixMiss Q U x i (by omega) hQ h _ _ (ih (i + 1) (by omega))
def ixP : PC := { args := [.v (.vl 61 1 0), .v (.vi .i64 2)], heap := [⟨61, false, 1, .ta 0 (.vi .i64 1)⟩], gs := [], G := 0, tp := 999, n := 80, n' := 140, cond := fun e => decide (eN e 0 ≤ 1000), v := fun e => vN (idxF (eI e 1) (eI e 2 []) (eN e 0) 0), post := fun e => [] }
theorem ixP_pc : PC.Runs Try.prog 30 Try.f30 (bodyOf Try.f30) ixP := ⟨Try.func30, by kernel_rfl, (fun g hg => by first | (cases hg; done) | (revert g; show ∀ g ∈ ([] : List Nat), g < 0; decide)), fun e H hc => by
  have hc : (decide (eN e 0 ≤ 1000)) = true := hc
  try simp only [Bool.and_eq_true, decide_eq_true_eq, Nat.beq_eq] at hc
  exact ixI (eN e 0) (eI e 1) (eI e 2 []) hc⟩
def sumsI : List (FuncId × Summ) := [(30, ixP.summ 0)]
theorem baseI : Base0 Try.prog sumsI := (baseO.cons Try.func30 (by kernel_rfl) (PC.summ_ok ixP_pc gtopG))
theorem cnI_p0 (Q : Nat) (U : Ix → Int) (x : Int) :
    isEnd (evTill Try.prog sumsI 300 (99) 900 24 [.code (bodyOf Try.f24)] (envOf [vL 61 1 Q, vN x] Try.f24.ntmps) (rI 61 Q U ++ ([])) ⟨[.s true, .s true], 80⟩) (endP ([]) (vB (hasM U Q x)) ([]) 260) =
    (OkL [(Q.beq Q, true), (decide (Q ≤ (1000 : Nat)), true)] ∧ hasM U Q x = decide (idxF U x Q (0 : Nat) ≥ (0 : Int)) ∧ True) := by kernel_rfl

set_option maxHeartbeats 4000000 in
theorem cnI (Q : Nat) (U : Ix → Int) (x : Int) (hQ : Q ≤ 1000) :
    RunsTo Try.prog 24 [.code (bodyOf Try.f24)] (envOf [vL 61 1 Q, vN x] Try.f24.ntmps) (Sx.look (rI 61 Q U ++ ([]))) 80 (vB (hasM U Q x)) (Sx.look ([])) 260 := by
  refine runs_last baseI (Sx.Ends.of (cnI_p0 Q U x) ⟨?oo, ?rr⟩) (by kernel_rfl) rfl (gtL (by decide)) (by decide)
  case oo =>
    refine (okc ?_ (okc ?_ okn))
    all_goals ((try simp (disch := omega) only [SS]); first | done | omega | assumption | (simp (disch := omega) only [SS] at *; first | done | omega | assumption) | (simp_all; done))
  case rr =>
    try simp (disch := omega) only [SS]
    repeat' apply And.intro
    all_goals first | exact True.intro | with_reducible rfl | omega | (intros; first | exact True.intro | with_reducible rfl | omega | (simp_all; done)) | (simp_all; done) | rfl

def cnP : PC := { args := [.v (.vl 61 1 0), .v (.vi .i64 2)], heap := [⟨61, false, 1, .ta 0 (.vi .i64 1)⟩], gs := [], G := 0, tp := 999, n := 80, n' := 260, cond := fun e => decide (eN e 0 ≤ 1000), v := fun e => vB (hasM (eI e 1) (eN e 0) (eI e 2 [])), post := fun e => [] }
theorem cnP_pc : PC.Runs Try.prog 24 Try.f24 (bodyOf Try.f24) cnP := ⟨Try.func24, by kernel_rfl, (fun g hg => by first | (cases hg; done) | (revert g; show ∀ g ∈ ([] : List Nat), g < 0; decide)), fun e H hc => by
  have hc : (decide (eN e 0 ≤ 1000)) = true := hc
  try simp only [Bool.and_eq_true, decide_eq_true_eq, Nat.beq_eq] at hc
  exact cnI (eN e 0) (eI e 1) (eI e 2 []) hc⟩
end Go.Proofs.Ytcphocfnhekdaaa

