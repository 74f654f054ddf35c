/- Cleaning: the plain law. -/
import Derived.Test.YtcphocfnhekdaaaDoorChecked
import Derived.Test.YtcphocfnhekdaaaDoorRows
import Derived.Test.YtcphocfnhekdaaaDoorQaC
set_option linter.unusedSimpArgs false
set_option linter.unusedVariables false
namespace Go.Proofs.YtcphocfnhekdaaaDoor.CleanR

/-- A token: its kind (1 data, 2 plain, 3 verb, 4 sub, 5 bad), its code, its option, its body. -/
structure Tok where
  kind : Nat
  code : Nat
  opt : Nat
  body : List UInt8
deriving DecidableEq, Repr
def z0 : Tok := ⟨0, 0, 0, []⟩

/-- The machine: its state (0 between, 1 behind IAC, 2 behind a verb, 3 behind SB, 4 in a body, 5 behind IAC in a body), and what it keeps. -/
structure M where
  st : Nat
  code : Nat
  opt : Nat
  body : List UInt8
def M0 : M := ⟨0, 0, 0, []⟩

def feed (m : M) (c : UInt8) : M × Option Tok :=
  if m.st = 1 then
    if c = 255 then (M0, some ⟨1, 255, 0, []⟩)
    else if c = 250 then (⟨3, m.code, m.opt, m.body⟩, none)
    else if 251 ≤ c.toNat ∧ c.toNat ≤ 254 then (⟨2, c.toNat, 0, []⟩, none)
    else (M0, some ⟨2, c.toNat, 0, []⟩)
  else if m.st = 2 then (M0, some ⟨3, m.code, c.toNat, []⟩)
  else if m.st = 3 then (⟨4, 0, c.toNat, []⟩, none)
  else if m.st = 4 then (if c = 255 then (⟨5, m.code, m.opt, m.body⟩, none) else (⟨4, m.code, m.opt, m.body ++ [c]⟩, none))
  else if m.st = 5 then
    if c = 255 then (⟨4, m.code, m.opt, m.body ++ [255]⟩, none)
    else if c = 240 then (M0, some ⟨4, m.code, m.opt, m.body⟩)
    else (M0, some ⟨5, c.toNat, m.opt, []⟩)
  else if c = 255 then (⟨1, m.code, m.opt, m.body⟩, none) else (M0, some ⟨1, c.toNat, 0, []⟩)

/-- All tokens, each with the place of its last byte, and where the machine stands then. -/
def runM : M → Nat → List UInt8 → List (Tok × Nat) × M
  | m, _, [] => ([], m)
  | m, i, c :: r => match feed m c with
    | (m', none) => runM m' (i + 1) r
    | (m', some t) => ((t, i) :: (runM m' (i + 1) r).1, (runM m' (i + 1) r).2)

/-- The document's: a subnegotiation's body from place i on. -/
def subR (o : Nat) : List UInt8 → List UInt8 → Nat → Tok × Nat
  | [], _, _ => (z0, 0)
  | c :: r, b, i => if c ≠ 255 then subR o r (b ++ [c]) (i + 1) else
    match r with
    | [] => (z0, 0)
    | d :: r' => if d = 255 then subR o r' (b ++ [255]) (i + 2) else if d = 240 then (⟨4, 0, o, b⟩, i + 2) else (⟨5, d.toNat, o, []⟩, i + 2)

def nextR : List UInt8 → Tok × Nat
  | [] => (z0, 0)
  | c :: r => if c ≠ 255 then (⟨1, c.toNat, 0, []⟩, 1) else
    match r with
    | [] => (z0, 0)
    | d :: r2 => if d = 255 then (⟨1, 255, 0, []⟩, 2) else if d.toNat < 250 then (⟨2, d.toNat, 0, []⟩, 2) else
      match r2 with
      | [] => (z0, 0)
      | e :: r3 => if 250 < d.toNat then (⟨3, d.toNat, e.toNat, []⟩, 3) else subR e.toNat r3 [] 3

def toksR : Nat → Nat → List UInt8 → List (Tok × Nat)
  | 0, _, _ => []
  | k + 1, at_, s => if (nextR s).2 = 0 then [] else ((nextR s).1, at_ + (nextR s).2 - 1) :: toksR k (at_ + (nextR s).2) (s.drop (nextR s).2)

theorem run_none {m m' : M} {c : UInt8} (h : feed m c = (m', none)) (i : Nat) (r : List UInt8) : runM m i (c :: r) = runM m' (i + 1) r := by
  simp only [runM, h]
theorem run_some {m m' : M} {c : UInt8} {t : Tok} (h : feed m c = (m', some t)) (i : Nat) (r : List UInt8) : runM m i (c :: r) = ((t, i) :: (runM m' (i + 1) r).1, (runM m' (i + 1) r).2) := by
  simp only [runM, h]

/-- A body: the machine, and the document's. -/
theorem sub_ok (o : Nat) : ∀ (k : Nat) (r b : List UInt8) (i at_ : Nat), r.length ≤ k →
    ((subR o r b i).2 = 0 → (runM ⟨4, 0, o, b⟩ (at_ + i) r).1 = [] ∧ (runM ⟨4, 0, o, b⟩ (at_ + i) r).2.st ≠ 0) ∧
    ((subR o r b i).2 ≠ 0 → i < (subR o r b i).2 ∧ (subR o r b i).2 ≤ i + r.length ∧
      runM ⟨4, 0, o, b⟩ (at_ + i) r = (((subR o r b i).1, at_ + (subR o r b i).2 - 1) :: (runM M0 (at_ + (subR o r b i).2) (r.drop ((subR o r b i).2 - i))).1, (runM M0 (at_ + (subR o r b i).2) (r.drop ((subR o r b i).2 - i))).2)) := by
  intro k
  induction k with
  | zero =>
    intro r b i at_ hk
    have : r = [] := List.length_eq_zero_iff.1 (by omega)
    subst this
    exact ⟨fun _ => ⟨rfl, by simp [runM]⟩, fun h => absurd rfl h⟩
  | succ k ih =>
    intro r b i at_ hk
    match r with
    | [] => exact ⟨fun _ => ⟨rfl, by simp [runM]⟩, fun h => absurd rfl h⟩
    | c :: r =>
      by_cases hc : c = 255
      · subst hc
        have f1 : feed ⟨4, 0, o, b⟩ 255 = (⟨5, 0, o, b⟩, none) := by simp [feed]
        rw [run_none f1]
        match r with
        | [] => exact ⟨fun _ => ⟨rfl, by simp [runM]⟩, fun h => absurd rfl h⟩
        | d :: r' =>
          by_cases hd : d = 255
          · subst hd
            have f2 : feed ⟨5, 0, o, b⟩ 255 = (⟨4, 0, o, b ++ [255]⟩, none) := by simp [feed]
            rw [run_none f2]
            have e : subR o (255 :: 255 :: r') b i = subR o r' (b ++ [255]) (i + 2) := by simp [subR]
            rw [e]
            obtain ⟨h1, h2⟩ := ih r' (b ++ [255]) (i + 2) at_ (by simp at hk; omega)
            rw [show at_ + i + 1 + 1 = at_ + (i + 2) by omega]
            refine ⟨h1, fun h => ?_⟩
            obtain ⟨g1, g2, g3⟩ := h2 h
            refine ⟨by omega, by simp only [List.length_cons]; omega, ?_⟩
            rw [g3]
            have : (255 :: 255 :: r').drop ((subR o r' (b ++ [255]) (i + 2)).2 - i) = r'.drop ((subR o r' (b ++ [255]) (i + 2)).2 - (i + 2)) := by
              rw [show (subR o r' (b ++ [255]) (i + 2)).2 - i = ((subR o r' (b ++ [255]) (i + 2)).2 - (i + 2)) + 1 + 1 by omega]
              rfl
            rw [this]
          · by_cases h4 : d = 240
            · subst h4
              have f2 : feed ⟨5, 0, o, b⟩ 240 = (M0, some ⟨4, 0, o, b⟩) := by simp [feed]
              rw [run_some f2]
              have e : subR o (255 :: 240 :: r') b i = (⟨4, 0, o, b⟩, i + 2) := by simp [subR]
              rw [e]
              refine ⟨fun h => by simp at h, fun _ => ⟨by simp only; omega, by simp only [List.length_cons]; omega, ?_⟩⟩
              simp only
              rw [show i + 2 - i = 2 by omega, show at_ + (i + 2) - 1 = at_ + i + 1 by omega, show at_ + (i + 2) = at_ + i + 1 + 1 by omega]
              rfl
            · have f2 : feed ⟨5, 0, o, b⟩ d = (M0, some ⟨5, d.toNat, o, []⟩) := by simp [feed, hd, h4]
              rw [run_some f2]
              have e : subR o (255 :: d :: r') b i = (⟨5, d.toNat, o, []⟩, i + 2) := by simp [subR, hd, h4]
              rw [e]
              refine ⟨fun h => by simp at h, fun _ => ⟨by simp only; omega, by simp only [List.length_cons]; omega, ?_⟩⟩
              simp only
              rw [show i + 2 - i = 2 by omega, show at_ + (i + 2) - 1 = at_ + i + 1 by omega, show at_ + (i + 2) = at_ + i + 1 + 1 by omega]
              rfl
      · have f1 : feed ⟨4, 0, o, b⟩ c = (⟨4, 0, o, b ++ [c]⟩, none) := by simp [feed, hc]
        rw [run_none f1]
        have e : subR o (c :: r) b i = subR o r (b ++ [c]) (i + 1) := by rw [subR.eq_def]; simp [hc]
        rw [e]
        obtain ⟨h1, h2⟩ := ih r (b ++ [c]) (i + 1) at_ (by simp at hk; omega)
        rw [show at_ + i + 1 = at_ + (i + 1) by omega]
        refine ⟨h1, fun h => ?_⟩
        obtain ⟨g1, g2, g3⟩ := h2 h
        refine ⟨by omega, by simp only [List.length_cons]; omega, ?_⟩
        rw [g3]
        have : (c :: r).drop ((subR o r (b ++ [c]) (i + 1)).2 - i) = r.drop ((subR o r (b ++ [c]) (i + 1)).2 - (i + 1)) := by
          rw [show (subR o r (b ++ [c]) (i + 1)).2 - i = ((subR o r (b ++ [c]) (i + 1)).2 - (i + 1)) + 1 by omega]
          rfl
        rw [this]

theorem lt256 (c : UInt8) : c.toNat < 256 := c.toNat_lt
theorem ne_nat {c : UInt8} {k : UInt8} : c ≠ k ↔ c.toNat ≠ k.toNat := not_congr UInt8.toNat_inj.symm

/-- A token at the front of bytes. -/
theorem next_ok (s : List UInt8) (at_ : Nat) :
    ((nextR s).2 = 0 → (runM M0 at_ s).1 = [] ∧ ((runM M0 at_ s).2.st = 0 ↔ s = [])) ∧
    ((nextR s).2 ≠ 0 → (nextR s).2 ≤ s.length ∧
      runM M0 at_ s = (((nextR s).1, at_ + (nextR s).2 - 1) :: (runM M0 (at_ + (nextR s).2) (s.drop (nextR s).2)).1, (runM M0 (at_ + (nextR s).2) (s.drop (nextR s).2)).2)) := by
  match s with
  | [] => exact ⟨fun _ => ⟨rfl, by simp [runM, M0]⟩, fun h => absurd rfl h⟩
  | c :: r =>
    by_cases hc : c = 255
    · subst hc
      have f1 : feed M0 255 = (⟨1, 0, 0, []⟩, none) := by simp [feed, M0]
      match r with
      | [] => exact ⟨fun _ => by rw [run_none f1]; exact ⟨rfl, by simp [runM]⟩, fun h => absurd rfl h⟩
      | d :: r2 =>
        by_cases hd : d = 255
        · subst hd
          have f2 : feed ⟨1, 0, 0, []⟩ 255 = (M0, some ⟨1, 255, 0, []⟩) := by simp [feed]
          have e : nextR (255 :: 255 :: r2) = (⟨1, 255, 0, []⟩, 2) := by simp [nextR]
          rw [e]
          exact ⟨fun h => by simp at h, fun _ => ⟨by simp, by rw [run_none f1, run_some f2]; rfl⟩⟩
        · have hd1 := ne_nat.1 hd
          have hd2 := lt256 d
          by_cases h250 : d.toNat < 250
          · have hn : d ≠ 250 := ne_nat.2 (by show d.toNat ≠ 250; omega)
            have f2 : feed ⟨1, 0, 0, []⟩ d = (M0, some ⟨2, d.toNat, 0, []⟩) := by
              simp only [feed, if_true, if_neg hd, if_neg hn]
              rw [if_neg (by omega)]
            have e : nextR (255 :: d :: r2) = (⟨2, d.toNat, 0, []⟩, 2) := by simp [nextR, hd, h250]
            rw [e]
            exact ⟨fun h => by simp at h, fun _ => ⟨by simp, by rw [run_none f1, run_some f2]; rfl⟩⟩
          · by_cases hb : 250 < d.toNat
            · have hn : d ≠ 250 := ne_nat.2 (by show d.toNat ≠ 250; omega)
              have hd3 : d.toNat ≠ 255 := hd1
              have f2 : feed ⟨1, 0, 0, []⟩ d = (⟨2, d.toNat, 0, []⟩, none) := by
                simp only [feed, if_true, if_neg hd, if_neg hn]
                rw [if_pos (by omega)]
              match r2 with
              | [] =>
                have e : nextR [255, d] = (z0, 0) := by simp [nextR, hd, h250]
                rw [e]
                exact ⟨fun _ => by rw [run_none f1, run_none f2]; exact ⟨rfl, by simp [runM]⟩, fun h => absurd rfl h⟩
              | x :: r3 =>
                have f3 : feed ⟨2, d.toNat, 0, []⟩ x = (M0, some ⟨3, d.toNat, x.toNat, []⟩) := by simp [feed]
                have e : nextR (255 :: d :: x :: r3) = (⟨3, d.toNat, x.toNat, []⟩, 3) := by simp [nextR, hd, h250, hb]
                rw [e]
                exact ⟨fun h => by simp at h, fun _ => ⟨by simp, by rw [run_none f1, run_none f2, run_some f3]; rfl⟩⟩
            · have hq : d = 250 := UInt8.toNat_inj.1 (by show d.toNat = 250; omega)
              subst hq
              have f2 : feed ⟨1, 0, 0, []⟩ 250 = (⟨3, 0, 0, []⟩, none) := by simp [feed]
              match r2 with
              | [] => exact ⟨fun _ => by rw [run_none f1, run_none f2]; exact ⟨rfl, by simp [runM]⟩, fun h => absurd rfl h⟩
              | x :: r3 =>
                have f3 : feed ⟨3, 0, 0, []⟩ x = (⟨4, 0, x.toNat, []⟩, none) := by simp [feed]
                have e : nextR (255 :: 250 :: x :: r3) = subR x.toNat r3 [] 3 := by simp [nextR]
                rw [e, run_none f1, run_none f2, run_none f3]
                obtain ⟨h1, h2⟩ := sub_ok x.toNat r3.length r3 [] 3 at_ (Nat.le_refl _)
                rw [show at_ + 1 + 1 + 1 = at_ + 3 by omega]
                refine ⟨fun h => ⟨(h1 h).1, by simp [(h1 h).2]⟩, fun h => ?_⟩
                obtain ⟨g1, g2, g3⟩ := h2 h
                refine ⟨by simp only [List.length_cons]; omega, ?_⟩
                rw [g3]
                have : (255 :: 250 :: x :: r3).drop (subR x.toNat r3 [] 3).2 = r3.drop ((subR x.toNat r3 [] 3).2 - 3) := by
                  rw [show (subR x.toNat r3 [] 3).2 = ((subR x.toNat r3 [] 3).2 - 3) + 1 + 1 + 1 by omega]
                  rfl
                rw [this]
    · have f1 : feed M0 c = (M0, some ⟨1, c.toNat, 0, []⟩) := by simp [feed, M0, hc]
      have e : nextR (c :: r) = (⟨1, c.toNat, 0, []⟩, 1) := by rw [nextR.eq_def]; simp [hc]
      rw [e]
      exact ⟨fun h => by simp at h, fun _ => ⟨by simp, by rw [run_some f1]; rfl⟩⟩

/-- The machine's tokens are the document's. -/
theorem run_toks : ∀ (k : Nat) (s : List UInt8) (at_ : Nat), s.length < k → (runM M0 at_ s).1 = toksR k at_ s
  | 0, s, _, h => by omega
  | k + 1, s, at_, h => by
    obtain ⟨h1, h2⟩ := next_ok s at_
    simp only [toksR]
    by_cases hz : (nextR s).2 = 0
    · rw [if_pos hz]; exact (h1 hz).1
    · rw [if_neg hz]
      obtain ⟨g1, g2⟩ := h2 hz
      rw [g2, run_toks k (s.drop (nextR s).2) (at_ + (nextR s).2) (by rw [List.length_drop]; omega)]

/-- What stays, byte by byte: marks and raw by place. -/
def cleanM (mk rw : Nat → Bool) : M → Bool → Bool → Nat → List UInt8 → List (Tok × Nat)
  | _, _, _, _, [] => []
  | m, df, bh, i, c :: r =>
    match feed m c with
    | (m', none) => cleanM mk rw m' (df || mk i) bh (i + 1) r
    | (m', some t) =>
      if t.kind = 2 ∧ t.code = 242 then (t, i) :: cleanM mk rw m' false bh (i + 1) r
      else if t.kind ≠ 1 then (t, i) :: cleanM mk rw m' (df || mk i) bh (i + 1) r
      else if (df || mk i) = true then cleanM mk rw m' true bh (i + 1) r
      else (if (rw i || (t.code != 0 || !bh)) = true then [(t, i)] else []) ++ cleanM mk rw m' false (!rw i && t.code == 13) (i + 1) r

/-- Is one of n places from i on marked? -/
def anyK (mk : Nat → Bool) : Nat → Nat → Bool
  | 0, _ => false
  | n + 1, i => mk i || anyK mk n (i + 1)

/-- The same, token by token: last is the first place behind the last token. -/
def cleanT (mk rw : Nat → Bool) : Bool → Bool → Nat → List (Tok × Nat) → List (Tok × Nat)
  | _, _, _, [] => []
  | df, bh, last, (t, e) :: r =>
    if t.kind = 2 ∧ t.code = 242 then (t, e) :: cleanT mk rw false bh (e + 1) r
    else if t.kind ≠ 1 then (t, e) :: cleanT mk rw (df || anyK mk (e + 1 - last) last) bh (e + 1) r
    else if (df || anyK mk (e + 1 - last) last) = true then cleanT mk rw true bh (e + 1) r
    else (if (rw e || (t.code != 0 || !bh)) = true then [(t, e)] else []) ++ cleanT mk rw false (!rw e && t.code == 13) (e + 1) r

theorem run_ge : ∀ (s : List UInt8) (m : M) (i : Nat), ∀ x ∈ (runM m i s).1, i ≤ x.2
  | [], m, i, x, h => by cases h
  | c :: r, m, i, x, h => by
    cases hf : feed m c with
    | mk m' o =>
      cases o with
      | none => rw [run_none hf] at h; have := run_ge r m' (i + 1) x h; omega
      | some t =>
        rw [run_some hf] at h
        rcases List.mem_cons.1 h with rfl | h
        · exact Nat.le_refl _
        · have := run_ge r m' (i + 1) x h; omega

theorem cleanT_step (mk rw : Nat → Bool) (df bh : Bool) (i : Nat) : ∀ T : List (Tok × Nat), (∀ x ∈ T, i + 1 ≤ x.2) → cleanT mk rw (df || mk i) bh (i + 1) T = cleanT mk rw df bh i T
  | [], _ => rfl
  | (t, e) :: r, h => by
    have he := h (t, e) (by simp)
    simp only at he
    have hk : anyK mk (e + 1 - i) i = (mk i || anyK mk (e + 1 - (i + 1)) (i + 1)) := by
      rw [show e + 1 - i = (e + 1 - (i + 1)) + 1 by omega]
      rfl
    simp only [cleanT, hk, Bool.or_assoc]

theorem clean_T (mk rw : Nat → Bool) : ∀ (s : List UInt8) (m : M) (df bh : Bool) (i : Nat), cleanM mk rw m df bh i s = cleanT mk rw df bh i (runM m i s).1
  | [], m, df, bh, i => rfl
  | c :: r, m, df, bh, i => by
    cases hf : feed m c with
    | mk m' o =>
      cases o with
      | none =>
        rw [run_none hf]
        simp only [cleanM, hf]
        rw [clean_T mk rw r m' (df || mk i) bh (i + 1)]
        exact cleanT_step mk rw df bh i _ (run_ge r m' (i + 1))
      | some t =>
        rw [run_some hf]
        have hk : anyK mk (i + 1 - i) i = mk i := by
          rw [show i + 1 - i = 1 by omega]
          simp [anyK]
        simp only [cleanM, hf, cleanT, hk]
        simp only [clean_T mk rw r]

section
variable (mk rw : Nat → Bool) (T : List (Tok × Nat))
def tkA (i : Nat) : Tok := (T.getD i (z0, 0)).1
def enA (i : Nat) : Nat := (T.getD i (z0, 0)).2
/-- The first place behind the first n tokens. -/
def lastA : Nat → Nat
  | 0 => 0
  | n + 1 => enA T n + 1
def isDM (t : Tok) : Bool := t.kind == 2 && t.code == 242
/-- Is the reader deaf behind the first n tokens? -/
def dfA : Nat → Bool
  | 0 => false
  | n + 1 => if isDM (tkA T n) = true then false else dfA n || anyK mk (enA T n + 1 - lastA T n) (lastA T n)
/-- Is the n-th token's datum heard? -/
def heardA (n : Nat) : Bool := (tkA T n).kind == 1 && !(dfA mk T n || anyK mk (enA T n + 1 - lastA T n) (lastA T n))
/-- The data that are heard of the first n tokens: each with whether it came raw, and its token's number. -/
def dataA : Nat → List (Nat × Bool × Nat)
  | 0 => []
  | n + 1 => if heardA mk T n = true then dataA n ++ [((tkA T n).code, rw (enA T n), n)] else dataA n
/-- Behind a carriage return that came not raw? -/
def bhL : List (Nat × Bool × Nat) → Bool
  | [] => false
  | [x] => !x.2.1 && x.1 == 13
  | _ :: y :: r => bhL (y :: r)
def stayA (i : Nat) : Bool :=
  if (tkA T i).kind = 1 then heardA mk T i && (rw (enA T i) || ((tkA T i).code != 0 || !bhL (dataA mk rw T i))) else true
def outA : Nat → List (Tok × Nat)
  | 0 => []
  | n + 1 => outA n ++ (if stayA mk rw T n = true then [(tkA T n, enA T n)] else [])
end

theorem bhL_snoc (x : Nat × Bool × Nat) : ∀ l, bhL (l ++ [x]) = (!x.2.1 && x.1 == 13)
  | [] => rfl
  | [y] => rfl
  | y :: z :: r => by
    show bhL (z :: (r ++ [x])) = _
    exact bhL_snoc x (z :: r)

/-- The document's three passes keep what is kept token by token. -/
theorem cleanT_out (mk rw : Nat → Bool) (T : List (Tok × Nat)) : ∀ (k n : Nat), n + k = T.length →
    outA mk rw T n ++ cleanT mk rw (dfA mk T n) (bhL (dataA mk rw T n)) (lastA T n) (T.drop n) = outA mk rw T T.length
  | 0, n, h => by
    have : n = T.length := by omega
    subst this
    simp [cleanT]
  | k + 1, n, h => by
    have hn : n < T.length := by omega
    rw [← cleanT_out mk rw T k (n + 1) (by omega)]
    have hd : T.drop n = (tkA T n, enA T n) :: T.drop (n + 1) := by
      rw [List.drop_eq_getElem_cons hn]
      simp only [tkA, enA, List.getD_eq_getElem?_getD, List.getElem?_eq_getElem hn, Option.getD_some]
    have hl : lastA T (n + 1) = enA T n + 1 := rfl
    rw [hd]
    simp only [outA, List.append_assoc]
    congr 1
    simp only [cleanT]
    by_cases h1 : (tkA T n).kind = 2 ∧ (tkA T n).code = 242
    · have e1 : isDM (tkA T n) = true := by simp [isDM, h1.1, h1.2]
      have e2 : heardA mk T n = false := by simp [heardA, h1.1]
      have e3 : stayA mk rw T n = true := by unfold stayA; rw [if_neg (by omega)]
      rw [if_pos h1, e3]
      simp only [dfA, dataA, e1, e2, hl, if_true, Bool.false_eq_true, if_false, List.singleton_append]
    · have e1 : isDM (tkA T n) = false := by
        rw [Bool.eq_false_iff]; intro e
        simp only [isDM, Bool.and_eq_true, beq_iff_eq] at e
        exact h1 e
      rw [if_neg h1]
      by_cases h2 : (tkA T n).kind = 1
      · rw [if_neg (by omega)]
        cases hdf : dfA mk T n || anyK mk (enA T n + 1 - lastA T n) (lastA T n) with
        | true =>
          have e2 : heardA mk T n = false := by unfold heardA; rw [hdf]; simp
          have e3 : stayA mk rw T n = false := by unfold stayA; rw [if_pos h2, e2, Bool.false_and]
          rw [if_pos rfl, e3]
          simp only [dfA, dataA, e1, e2, hdf, hl, Bool.false_eq_true, if_false, List.nil_append]
        | false =>
          have e2 : heardA mk T n = true := by unfold heardA; rw [hdf]; simp [h2]
          have e3 : stayA mk rw T n = (rw (enA T n) || ((tkA T n).code != 0 || !bhL (dataA mk rw T n))) := by unfold stayA; rw [if_pos h2, e2, Bool.true_and]
          rw [if_neg (by simp), e3]
          simp only [dfA, dataA, e1, e2, hdf, hl, Bool.false_eq_true, if_false, if_true, bhL_snoc]
      · have e2 : heardA mk T n = false := by simp [heardA, h2]
        have e3 : stayA mk rw T n = true := by unfold stayA; rw [if_neg h2]
        rw [if_pos h2, e3]
        simp only [dfA, dataA, e1, e2, hl, Bool.false_eq_true, if_false, if_true, List.singleton_append]

/-- What the reader keeps, byte by byte, is what the document keeps. -/
theorem clean_ok (mk rw : Nat → Bool) (s : List UInt8) : cleanM mk rw M0 false false 0 s = outA mk rw (toksR (s.length + 1) 0 s) (toksR (s.length + 1) 0 s).length := by
  rw [clean_T, run_toks (s.length + 1) s 0 (by omega)]
  have := cleanT_out mk rw (toksR (s.length + 1) 0 s) (toksR (s.length + 1) 0 s).length 0 (by omega)
  simpa [outA, dfA, dataA, bhL, lastA] using this

/-- The reader behind one byte more: its machine, deaf, behind a carriage return. -/
def stepM (mk rw : Nat → Bool) (q : M × Bool × Bool) (i : Nat) (c : UInt8) : M × Bool × Bool :=
  match feed q.1 c with
  | (m', none) => (m', q.2.1 || mk i, q.2.2)
  | (m', some t) =>
    if t.kind = 2 ∧ t.code = 242 then (m', false, q.2.2)
    else if t.kind ≠ 1 then (m', q.2.1 || mk i, q.2.2)
    else if (q.2.1 || mk i) = true then (m', true, q.2.2)
    else (m', false, !rw i && t.code == 13)
def stM (mk rw : Nat → Bool) : M × Bool × Bool → Nat → List UInt8 → M × Bool × Bool
  | q, _, [] => q
  | q, i, c :: r => stM mk rw (stepM mk rw q i c) (i + 1) r
/-- What is told at one byte. -/
def tellM (mk rw : Nat → Bool) (q : M × Bool × Bool) (i : Nat) (c : UInt8) : List (Tok × Nat) :=
  match feed q.1 c with
  | (_, none) => []
  | (_, some t) =>
    if t.kind = 2 ∧ t.code = 242 then [(t, i)]
    else if t.kind ≠ 1 then [(t, i)]
    else if (q.2.1 || mk i) = true then []
    else if (rw i || (t.code != 0 || !q.2.2)) = true then [(t, i)] else []

theorem cleanM_cons (mk rw : Nat → Bool) (m : M) (df bh : Bool) (i : Nat) (c : UInt8) (r : List UInt8) :
    cleanM mk rw m df bh i (c :: r) = tellM mk rw (m, df, bh) i c ++ cleanM mk rw (stepM mk rw (m, df, bh) i c).1 (stepM mk rw (m, df, bh) i c).2.1 (stepM mk rw (m, df, bh) i c).2.2 (i + 1) r := by
  simp only [cleanM, tellM, stepM]
  cases feed m c with
  | mk m' o =>
    cases o with
    | none => rfl
    | some t =>
      simp only
      split
      · rfl
      · split
        · rfl
        · split
          · rfl
          · rfl

theorem cleanM_agree (rw mk mk2 : Nat → Bool) : ∀ (s : List UInt8) (m : M) (df bh : Bool) (i : Nat), (∀ x, i ≤ x → mk x = mk2 x) → cleanM mk rw m df bh i s = cleanM mk2 rw m df bh i s
  | [], _, _, _, _, _ => rfl
  | c :: r, m, df, bh, i, h => by
    have hi := h i (Nat.le_refl _)
    rw [cleanM_cons, cleanM_cons]
    have e1 : tellM mk rw (m, df, bh) i c = tellM mk2 rw (m, df, bh) i c := by unfold tellM; rw [hi]
    have e2 : stepM mk rw (m, df, bh) i c = stepM mk2 rw (m, df, bh) i c := by unfold stepM; rw [hi]
    rw [e1, e2, cleanM_agree rw mk mk2 r _ _ _ (i + 1) (fun x hx => h x (by omega))]

/-- A mark at a byte that is deaf already changes nothing. -/
theorem mark_deaf (rw mk mk2 : Nat → Bool) (j : Nat) : ∀ (s : List UInt8) (q : M × Bool × Bool) (i : Nat), i ≤ j → (∀ x, x ≠ j → mk x = mk2 x) → (stM mk rw q i (s.take (j - i))).2.1 = true →
    cleanM mk rw q.1 q.2.1 q.2.2 i s = cleanM mk2 rw q.1 q.2.1 q.2.2 i s
  | [], _, _, _, _, _ => rfl
  | c :: r, q, i, hij, h, hd => by
    rw [cleanM_cons, cleanM_cons]
    by_cases he : i = j
    · subst he
      rw [Nat.sub_self] at hd
      have hd : q.2.1 = true := hd
      have e1 : tellM mk rw (q.1, q.2.1, q.2.2) i c = tellM mk2 rw (q.1, q.2.1, q.2.2) i c := by unfold tellM; simp only [hd, Bool.true_or]
      have e2 : stepM mk rw (q.1, q.2.1, q.2.2) i c = stepM mk2 rw (q.1, q.2.1, q.2.2) i c := by unfold stepM; simp only [hd, Bool.true_or]
      rw [e1, e2, cleanM_agree rw mk mk2 r _ _ _ (i + 1) (fun x hx => h x (by omega))]
    · have hi := h i he
      have e1 : tellM mk rw (q.1, q.2.1, q.2.2) i c = tellM mk2 rw (q.1, q.2.1, q.2.2) i c := by unfold tellM; rw [hi]
      have e2 : stepM mk rw (q.1, q.2.1, q.2.2) i c = stepM mk2 rw (q.1, q.2.1, q.2.2) i c := by unfold stepM; rw [hi]
      rw [show j - i = (j - (i + 1)) + 1 by omega, List.take_succ_cons] at hd
      have := mark_deaf rw mk mk2 j r (stepM mk rw q i c) (i + 1) (by omega) h hd
      have e3 : stepM mk rw (q.1, q.2.1, q.2.2) i c = stepM mk rw q i c := rfl
      rw [e1, ← e2, e3, this]

def othersL (l : List (Tok × Nat)) : Nat := (l.filter fun x => x.1.kind != 1).length
theorem others_app (a b : List (Tok × Nat)) : othersL (a ++ b) = othersL a + othersL b := by simp [othersL]
theorem step_m (mk mk2 rw : Nat → Bool) (q p : M × Bool × Bool) (h : q.1 = p.1) (i : Nat) (c : UInt8) : (stepM mk rw q i c).1 = (stepM mk2 rw p i c).1 := by
  unfold stepM
  rw [h]
  cases feed p.1 c with
  | mk m' o =>
    cases o with
    | none => rfl
    | some t =>
      simp only
      split
      · rfl
      · split
        · rfl
        · split <;> split <;> rfl
theorem tell_others (mk mk2 rw : Nat → Bool) (q p : M × Bool × Bool) (h : q.1 = p.1) (i : Nat) (c : UInt8) : othersL (tellM mk rw q i c) = othersL (tellM mk2 rw p i c) := by
  unfold tellM
  rw [h]
  cases feed p.1 c with
  | mk m' o =>
    cases o with
    | none => rfl
    | some t =>
      simp only
      split
      · rfl
      · split
        · rfl
        · rename_i h1
          have hk : t.kind = 1 := by simpa using h1
          have z : ∀ l : List (Tok × Nat), (∀ x ∈ l, x = (t, i)) → othersL l = 0 := fun l hl => by
            unfold othersL
            rw [List.filter_eq_nil_iff.2 (fun x hx => by rw [hl x hx]; simp [hk])]
            rfl
          rw [z _ (by intro x hx; split at hx; cases hx; split at hx; simpa using hx; cases hx), z _ (by intro x hx; split at hx; cases hx; split at hx; simpa using hx; cases hx)]

/-- Marks never change what isn't data. -/
theorem others_same (mk mk2 rw : Nat → Bool) : ∀ (s : List UInt8) (q p : M × Bool × Bool) (i : Nat), q.1 = p.1 → othersL (cleanM mk rw q.1 q.2.1 q.2.2 i s) = othersL (cleanM mk2 rw p.1 p.2.1 p.2.2 i s)
  | [], _, _, _, _ => rfl
  | c :: r, q, p, i, h => by
    rw [cleanM_cons, cleanM_cons, others_app, others_app]
    have e1 := tell_others mk mk2 rw q p h i c
    have e2 := others_same mk mk2 rw r (stepM mk rw q i c) (stepM mk2 rw p i c) (i + 1) (step_m mk mk2 rw q p h i c)
    exact congr (congrArg _ e1) e2
end Go.Proofs.YtcphocfnhekdaaaDoor.CleanR

set_option linter.unusedSimpArgs false
set_option linter.unusedVariables false
namespace Go.Proofs.YtcphocfnhekdaaaDoor.GramR
open CleanR (nextR)

/-- The document's item: by what layer 5 cuts off. -/
def viaR (s : List UInt8) : Res :=
  if (nextR s).2 = 0 then .short
  else if (nextR s).1.kind = 1 then .ok ⟨1, (nextR s).1.code, 0, []⟩ (nextR s).2
  else if (nextR s).1.kind = 2 ∧ 240 < (nextR s).1.code then .ok ⟨3, (nextR s).1.code, 0, []⟩ (nextR s).2
  else if (nextR s).1.kind = 3 then .ok ⟨4, (nextR s).1.code, (nextR s).1.opt, []⟩ (nextR s).2
  else .form
def itemR (raw : Bool) (s : List UInt8) : Res :=
  match s with
  | [] => .short
  | c :: r =>
    if c = 13 ∧ raw = false then
      (match r with
      | [] => .short
      | d :: _ => if d = 0 ∨ d = 10 then .ok ⟨2, d.toNat, 0, []⟩ 2 else viaR s)
    else if c = 255 then
      (match r with
      | d :: e :: r' => if d = 250 then subI e.toNat r' [] 3 else viaR s
      | _ => viaR s)
    else viaR s

theorem via_byte {c : UInt8} (h : c ≠ 255) (r : List UInt8) : viaR (c :: r) = .ok ⟨1, c.toNat, 0, []⟩ 1 := by
  have e : nextR (c :: r) = (⟨1, c.toNat, 0, []⟩, 1) := by simp [nextR, h]
  simp [viaR, e]

theorem itemR_eq (raw : Bool) (s : List UInt8) : itemR raw s = itemI raw s := by
  match s with
  | [] => rfl
  | c :: r =>
    by_cases hc : c = 255
    · subst hc
      have e0 : itemI raw (255 :: r) = cmdI r := by simp [itemI]
      rw [e0]
      match r with
      | [] => simp [itemR, viaR, nextR, cmdI]
      | [d] =>
        have e1 : itemR raw [255, d] = viaR [255, d] := by simp [itemR]
        rw [e1]
        by_cases hd : d = 255
        · subst hd; simp [viaR, nextR, cmdI]
        · have hd1 := CleanR.ne_nat.1 hd
          have hd1 : d.toNat ≠ 255 := hd1
          have hd2 := d.toNat_lt
          by_cases h250 : d.toNat < 250
          · have hn : d ≠ 250 := CleanR.ne_nat.2 (by show d.toNat ≠ 250; omega)
            have e : nextR [255, d] = (⟨2, d.toNat, 0, []⟩, 2) := by simp [nextR, hd, h250]
            by_cases h240 : 240 < d.toNat
            · simp only [viaR, e, cmdI, if_neg hd]
              rw [if_pos (show 241 ≤ d.toNat ∧ d.toNat ≤ 249 by omega)]
              simp [h240]
            · simp only [viaR, e, cmdI, if_neg hd]
              rw [if_neg (show ¬ (241 ≤ d.toNat ∧ d.toNat ≤ 249) by omega), if_neg (show ¬ (251 ≤ d.toNat ∧ d.toNat ≤ 254) by omega), if_neg hn]
              simp [h240]
          · have e : nextR [255, d] = (CleanR.z0, 0) := by simp [nextR, hd, h250]
            simp only [viaR, e, cmdI, if_neg hd]
            rw [if_neg (show ¬ (241 ≤ d.toNat ∧ d.toNat ≤ 249) by omega)]
            by_cases hv : 251 ≤ d.toNat ∧ d.toNat ≤ 254
            · rw [if_pos hv]; rfl
            · rw [if_neg hv, if_pos (UInt8.toNat_inj.1 (show d.toNat = 250 by omega))]; rfl
      | d :: e :: r' =>
        by_cases h5 : d = 250
        · subst h5
          simp [itemR, cmdI]
        · have e1 : itemR raw (255 :: d :: e :: r') = viaR (255 :: d :: e :: r') := by simp [itemR, h5]
          rw [e1]
          have hn : d.toNat ≠ 250 := CleanR.ne_nat.1 h5
          by_cases hd : d = 255
          · subst hd; simp [viaR, nextR, cmdI]
          · have hd1 := CleanR.ne_nat.1 hd
            have hd1 : d.toNat ≠ 255 := hd1
            have hd2 := d.toNat_lt
            by_cases h250 : d.toNat < 250
            · have en : nextR (255 :: d :: e :: r') = (⟨2, d.toNat, 0, []⟩, 2) := by simp [nextR, hd, h250]
              by_cases h240 : 240 < d.toNat
              · simp only [viaR, en, cmdI, if_neg hd]
                rw [if_pos (show 241 ≤ d.toNat ∧ d.toNat ≤ 249 by omega)]
                simp [h240]
              · simp only [viaR, en, cmdI, if_neg hd]
                rw [if_neg (show ¬ (241 ≤ d.toNat ∧ d.toNat ≤ 249) by omega), if_neg (show ¬ (251 ≤ d.toNat ∧ d.toNat ≤ 254) by omega), if_neg h5]
                simp [h240]
            · have en : nextR (255 :: d :: e :: r') = (⟨3, d.toNat, e.toNat, []⟩, 3) := by
                simp [nextR, hd, h250, show 250 < d.toNat by omega]
              simp only [viaR, en, cmdI, if_neg hd]
              rw [if_neg (show ¬ (241 ≤ d.toNat ∧ d.toNat ≤ 249) by omega), if_pos (show 251 ≤ d.toNat ∧ d.toNat ≤ 254 by omega)]
              simp
    · by_cases h13 : c = 13 ∧ raw = false
      · obtain ⟨rfl, rfl⟩ := h13
        match r with
        | [] => simp [itemR, itemI]
        | d :: r =>
          by_cases hd : d = 0 ∨ d = 10
          · simp [itemR, itemI, hd]
          · have e1 : itemR false (13 :: d :: r) = viaR (13 :: d :: r) := by simp [itemR, hd]
            rw [e1, via_byte (by decide)]
            simp [itemI, hd]
      · have e1 : itemR raw (c :: r) = viaR (c :: r) := by
          simp only [itemR, if_neg h13, if_neg hc]
        rw [e1, via_byte hc, itemI.eq_def]
        have : c ≠ 13 ∨ raw = true := by
          by_cases q : c = 13
          · right
            cases raw with
            | true => rfl
            | false => exact absurd ⟨q, rfl⟩ h13
          · exact .inl q
        simp [hc, this]

/-- A place is an item's beginning or end. -/
def borI (l : List (It × Nat × Nat)) (many at_ : Nat) : Bool := at_ == 0 || (at_ == many || l.any fun x => x.2.2 == at_)
def borR (l : List (It × Nat × Nat)) (many at_ : Nat) : Bool := at_ == 0 || (at_ == many || l.any fun x => x.2.1 == at_ || x.2.2 == at_)
theorem bor_eq (raw : Bool) (s : List UInt8) (l : List (It × Nat × Nat)) (m at_ : Nat) (h : parseI raw s = some (l, m)) : borI l s.length at_ = borR l s.length at_ := by
  obtain ⟨_, _, _, h4⟩ := read_ok raw (s.length + 1) 0 s l m (by omega) h
  unfold borI borR
  rw [Bool.eq_iff_iff]
  simp only [Bool.or_eq_true, beq_iff_eq, List.any_eq_true]
  constructor
  · rintro (h | h | ⟨x, hx, h⟩)
    · exact .inl h
    · exact .inr (.inl h)
    · exact .inr (.inr ⟨x, hx, .inr h⟩)
  · rintro (h | h | ⟨x, hx, h | h⟩)
    · exact .inl h
    · exact .inr (.inl h)
    · obtain ⟨i, hi, rfl⟩ := List.getElem_of_mem hx
      obtain ⟨_, _, _, _, b5⟩ := h4 i l[i].1 l[i].2.1 l[i].2.2 (by rw [List.getElem?_eq_getElem hi])
      by_cases hz : i = 0
      · rw [if_pos hz] at b5; left; omega
      · rw [if_neg hz] at b5
        right; right
        refine ⟨l[i - 1], List.getElem_mem (by omega), ?_⟩
        rw [← h, b5, List.getD_eq_getElem?_getD, List.getElem?_eq_getElem (by omega), Option.getD_some]
    · exact .inr (.inr ⟨x, hx, h⟩)
end Go.Proofs.YtcphocfnhekdaaaDoor.GramR

