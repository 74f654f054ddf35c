/- Special characters: two sides come to rest, in plain words: what is in flight, place by place. -/
import Derived.Test.YtdmkdmaofgjelaaDoorChecked
set_option linter.unusedSimpArgs false
set_option linter.unusedVariables false
namespace Go.Proofs.YtdmkdmaofgjelaaDoor.SlcR

abbrev Stg := Int × Int
abbrev Msg := Stg × Bool

def nil0 : Stg := (0, 0)

/-- What a place that holds o has behind x, and whether that is told as an Ack. -/
def ans (o x : Stg) : Msg :=
  if x.1 = 0 then (x, true) else if x.1 = 3 then (o, false) else if o.1 = 2 then (x, true) else if x.1 = 2 then (o, false) else (nil0, false)

def told (has : Stg) (m : Msg) : Bool := !m.2 && !decide (m.1 = has)

def fine (x : Stg) : Prop := (x.1 = 0 ∨ x.1 = 1 ∨ x.1 = 2 ∨ x.1 = 3) ∧ ((x.1 = 0 ∨ x.1 = 3) → x.2 = 0)

theorem fine0 {x : Stg} (h : fine x) (h0 : x.1 = 0) : x = nil0 := Prod.ext h0 (h.2 (.inl h0))

def eff (T : List Msg) (s : Stg) : Prop := ∃ m ∈ T, m.2 = false ∧ m.1 ≠ s

def lastN (d : Stg) : List Msg → Stg
  | [] => d
  | m :: r => lastN (if m.1.1 = 3 then d else m.1) r
def lastL (d : Stg) : List Msg → Stg
  | [] => d
  | m :: r => lastL (if m.2 = true then d else m.1) r

theorem lastN_app (d : Stg) (T : List Msg) (m : Msg) : lastN d (T ++ [m]) = if m.1.1 = 3 then lastN d T else m.1 := by
  induction T generalizing d with
  | nil => simp [lastN]
  | cons x r ih => simp only [List.cons_append, lastN, ih]
theorem lastL_app (d : Stg) (T : List Msg) (m : Msg) : lastL d (T ++ [m]) = if m.2 = true then lastL d T else m.1 := by
  induction T generalizing d with
  | nil => simp [lastL]
  | cons x r ih => simp only [List.cons_append, lastL, ih]
theorem lastN_d {d : Stg} {T : List Msg} (h : ∀ m ∈ T, m.1.1 = 3) : lastN d T = d := by
  induction T with
  | nil => rfl
  | cons x r ih => simp only [lastN, if_pos (h x (by simp))]; exact ih fun m hm => h m (by simp [hm])
theorem lastN_any {d d' : Stg} {T : List Msg} (h : ¬ ∀ m ∈ T, m.1.1 = 3) : lastN d T = lastN d' T := by
  induction T generalizing d d' with
  | nil => exact absurd (fun m hm => by cases hm) h
  | cons x r ih =>
    simp only [lastN]
    split
    · rename_i hx
      exact ih fun hr => h fun m hm => (List.mem_cons.1 hm).elim (fun e => e ▸ hx) (hr m)
    · rfl
theorem lastL_any {d d' : Stg} {T : List Msg} (h : lastL d T ≠ d) : lastL d T = lastL d' T := by
  induction T generalizing d d' with
  | nil => exact absurd rfl h
  | cons x r ih =>
    simp only [lastL] at *
    split
    · rename_i hx; rw [if_pos hx] at h; exact ih h
    · rfl
theorem lastN_same {s : Stg} {T : List Msg} (h : ∀ m ∈ T, m.1 = s) : lastN s T = s := by
  induction T with
  | nil => rfl
  | cons x r ih =>
    simp only [lastN]
    rw [show (if x.1.1 = 3 then s else x.1) = s by split; rfl; exact h x (by simp)]
    exact ih fun m hm => h m (by simp [hm])
theorem lastL_same {s : Stg} {T : List Msg} (h : ∀ m ∈ T, m.2 = false → m.1 = s) : lastL s T = s := by
  induction T with
  | nil => rfl
  | cons x r ih =>
    simp only [lastL]
    rw [show (if x.2 = true then s else x.1) = s by split; rfl; exact h x (by simp) (by simpa using ‹¬ x.2 = true›)]
    exact ih fun m hm => h m (by simp [hm])

theorem eff_app {T : List Msg} {s : Stg} {m : Msg} : eff (T ++ [m]) s ↔ eff T s ∨ (m.2 = false ∧ m.1 ≠ s) := by
  simp only [eff, List.mem_append, List.mem_singleton]
  constructor
  · rintro ⟨x, h | rfl, h1⟩
    · exact .inl ⟨x, h, h1⟩
    · exact .inr h1
  · rintro (⟨x, h, h1⟩ | h1)
    · exact ⟨x, .inl h, h1⟩
    · exact ⟨m, .inr rfl, h1⟩
theorem eff_cons {T : List Msg} {s : Stg} {m : Msg} : eff (m :: T) s ↔ (m.2 = false ∧ m.1 ≠ s) ∨ eff T s := by
  simp [eff]
theorem not_eff {T : List Msg} {s : Stg} (h : ¬ eff T s) : ∀ m ∈ T, m.2 = false → m.1 = s := fun m hm h2 => Classical.byContradiction fun hne => h ⟨m, hm, h2, hne⟩

/-- Both are free. -/
def InvB (so ch : Stg) (w : Bool) (sh : Stg) (T B : List Msg) : Prop :=
  (w = false ∧ (∀ m ∈ T, m.2 = true) ∧ B = [] ∧ ch = sh) ∨
  (w = true ∧ (∃ x T1 T2, T = T1 ++ (x, false) :: T2 ∧ (∀ m ∈ T1, m.2 = true) ∧ (∀ m ∈ T2, m.2 = true) ∧ x ≠ sh ∧ (x.1 = 3 ∨ ch = x)) ∧ B = []) ∨
  (w = true ∧ (∀ m ∈ T, m.2 = true) ∧ (B = [(sh, true)] ∧ ch = sh ∨ B = [(so, false)] ∧ sh = so))
/-- The one is not, the other is. -/
structure Inv2 (so ch : Stg) (w : Bool) (sh : Stg) (T B : List Msg) : Prop where
  ta : ∀ m ∈ T, m.2 = false
  ba : ∀ m ∈ B, m.2 = false → m.1 = so
  la : lastN sh T = ch ∨ ((∀ m ∈ T, m.1.1 = 3) ∧ ∃ m ∈ B, m.2 = false ∧ m.1 ≠ ch)
  wa : w = true → B ≠ [] ∨ eff T sh
/-- The other isn't, and the one takes all that the other tells. -/
structure InvA (co so ch : Stg) (w : Bool) (sh : Stg) (T B : List Msg) : Prop where
  tl : ∀ m ∈ T, m.2 = false → m.1.1 ≠ 0
  ba : ∀ m ∈ B, m.2 = false ∧ (m.1 = nil0 ∨ m.1 = so)
  sa : sh = nil0 ∨ sh = so
  lb : ∀ b, B.getLast? = some b → b.1 = sh
  ea : B = [] → ch = sh ∨ eff T sh
  wa : w = true → B ≠ [] ∨ eff T sh
/-- Neither is free. -/
structure InvC (so ch : Stg) (w : Bool) (sh : Stg) (T B : List Msg) : Prop where
  tl : ∀ m ∈ T, m.2 = false → m.1.1 = 0 → m.1 = nil0
  ba : ∀ m ∈ B, (m.2 = false ∧ m.1 = so) ∨ m.1 = nil0
  sa : sh = nil0 ∨ sh = so
  lb : ∀ b, B.getLast? = some b → b.1 = sh
  ea : B = [] → ch = sh ∨ eff T sh
  ka : ∀ b, B.getLast? = some b → b.2 = true → ch = nil0 ∨ eff T sh ∨ (nil0, false) ∈ B ∨ (ch ≠ so ∧ (so, false) ∈ B)
  la : lastL so T = nil0 → ch = nil0
  wa : w = true → B ≠ [] ∨ eff T sh

structure Inv (co so ch : Stg) (w : Bool) (sh : Stg) (T B : List Msg) : Prop where
  ft : ∀ m ∈ T, fine m.1
  fc : fine ch ∧ ch.1 ≠ 3
  fs : fine sh ∧ sh.1 ≠ 3
  oc : fine co ∧ co.1 ≠ 3
  os : fine so ∧ so.1 ≠ 3
  bb : so.1 = 2 → co.1 = 2 → InvB so ch w sh T B
  b2 : so.1 = 2 → co.1 ≠ 2 → Inv2 so ch w sh T B
  bA : so.1 ≠ 2 → (co.1 = 2 ∨ so = nil0) → InvA co so ch w sh T B
  bC : so.1 ≠ 2 → co.1 ≠ 2 → so ≠ nil0 → InvC so ch w sh T B
  fb : ∀ m ∈ B, fine m.1

theorem inv0 {co so : Stg} (hc : fine co ∧ co.1 ≠ 3) (hs : fine so ∧ so.1 ≠ 3) : Inv co so nil0 false nil0 [] [] := by
  have f0 : fine nil0 ∧ nil0.1 ≠ 3 := by simp [fine, nil0]
  refine ⟨by simp, f0, f0, hc, hs, fun _ _ => .inl ⟨rfl, by simp, rfl, rfl⟩, fun _ _ => ⟨by simp, by simp, .inl rfl, by simp⟩, fun _ _ => ⟨by simp, by simp, .inl rfl, by simp, fun _ => .inl rfl, by simp⟩, fun _ _ h => ⟨by simp, by simp, .inl rfl, by simp, fun _ => .inl rfl, by simp, fun h1 => ?_, by simp⟩, by simp⟩
  rfl

/-- At rest. -/
theorem inv_rest {co so ch : Stg} {w : Bool} {sh : Stg} (h : Inv co so ch w sh [] []) : ch = sh ∧ w = false := by
  have e0 : ¬ eff [] sh := by simp [eff]
  by_cases h1 : so.1 = 2
  · by_cases h2 : co.1 = 2
    · rcases h.bb h1 h2 with ⟨a, _, _, b⟩ | ⟨_, ⟨x, T1, T2, hT, _⟩, _⟩ | ⟨_, _, hb | hb⟩
      · exact ⟨b, a⟩
      · simp at hT
      · simp at hb
      · simp at hb
    · obtain ⟨_, _, la, wa⟩ := h.b2 h1 h2
      refine ⟨?_, ?_⟩
      · rcases la with la | ⟨_, m, hm, _⟩
        · exact la.symm
        · cases hm
      · cases w with
        | false => rfl
        | true => rcases wa rfl with h | h; exact absurd rfl h; exact absurd h e0
  · by_cases h2 : co.1 = 2 ∨ so = nil0
    · obtain ⟨_, _, _, _, ea, wa⟩ := h.bA h1 h2
      refine ⟨(ea rfl).resolve_right e0, ?_⟩
      cases w with
      | false => rfl
      | true => rcases wa rfl with h | h; exact absurd rfl h; exact absurd h e0
    · have h2 := not_or.1 h2
      obtain ⟨_, _, _, _, ea, _, _, wa⟩ := h.bC h1 h2.1 h2.2
      refine ⟨(ea rfl).resolve_right e0, ?_⟩
      cases w with
      | false => rfl
      | true => rcases wa rfl with h | h; exact absurd rfl h; exact absurd h e0

/-- The one asks. -/
theorem inv_ask {co so ch : Stg} {sh : Stg} {T B : List Msg} {x : Stg} (h : Inv co so ch false sh T B) (hx : fine x) (h0 : x.1 ≠ 0) (hne : ch ≠ x) :
    Inv co so (if x.1 = 3 then ch else x) true sh (T ++ [(x, false)]) B := by
  have xs : x.1 = 3 → x ≠ sh := fun h3 e => h.fs.2 (e ▸ h3)
  refine ⟨fun m hm => ?_, ?_, h.fs, h.oc, h.os, fun h1 h2 => ?_, fun h1 h2 => ?_, fun h1 h2 => ?_, fun h1 h2 h3 => ?_, h.fb⟩
  · rcases List.mem_append.1 hm with hm | hm
    · exact h.ft m hm
    · simp only [List.mem_singleton] at hm; subst hm; exact hx
  · split
    · exact h.fc
    · exact ⟨hx, ‹_›⟩
  · rcases h.bb h1 h2 with ⟨_, a, b, c⟩ | ⟨a, _⟩ | ⟨a, _⟩
    · refine .inr (.inl ⟨rfl, ⟨x, T, [], rfl, a, by simp, fun e => ?_, ?_⟩, b⟩)
      · by_cases h3 : x.1 = 3
        · exact xs h3 e
        · exact hne (c.trans e.symm)
      · by_cases h3 : x.1 = 3
        · exact .inl h3
        · simp [h3]
    · cases a
    · cases a
  · obtain ⟨ta, ba, la, wa⟩ := h.b2 h1 h2
    refine ⟨fun m hm => ?_, ba, ?_, fun _ => ?_⟩
    · rcases List.mem_append.1 hm with hm | hm
      · exact ta m hm
      · simp only [List.mem_singleton] at hm; subst hm; rfl
    · rw [lastN_app]
      by_cases h3 : x.1 = 3
      · simp only [h3, if_true]
        rcases la with la | ⟨la, lb⟩
        · exact .inl la
        · refine .inr ⟨fun m hm => ?_, lb⟩
          rcases List.mem_append.1 hm with hm | hm
          · exact la m hm
          · simp only [List.mem_singleton] at hm; subst hm; exact h3
      · simp [h3]
    · by_cases hb : B = []
      · refine .inr (eff_app.2 ?_)
        by_cases he : eff T sh
        · exact .inl he
        · refine .inr ⟨rfl, fun e => ?_⟩
          by_cases h3 : x.1 = 3
          · exact xs h3 e
          · have hs := not_eff he
            have := lastN_same (T := T) (s := sh) fun m hm => hs m hm (ta m hm)
            rcases la with la | ⟨_, m, hm, _⟩
            · exact hne (by rw [← la, this]; exact e.symm)
            · rw [hb] at hm; cases hm
      · exact .inl hb
  · obtain ⟨tl, ba, sa, lb, ea, wa⟩ := h.bA h1 h2
    have key : B = [] → eff (T ++ [(x, false)]) sh := fun hb => eff_app.2 (by
      rcases ea hb with he | he
      · refine .inr ⟨rfl, fun e => ?_⟩
        exact hne (he.trans e.symm)
      · exact .inl he)
    refine ⟨fun m hm hm2 => ?_, ba, sa, lb, fun hb => .inr (key hb), fun _ => ?_⟩
    · rcases List.mem_append.1 hm with hm | hm
      · exact tl m hm hm2
      · simp only [List.mem_singleton] at hm; subst hm; exact h0
    · by_cases hb : B = []
      · exact .inr (key hb)
      · exact .inl hb
  · obtain ⟨tl, ba, sa, lb, ea, ka, la, wa⟩ := h.bC h1 h2 h3
    have key : B = [] → eff (T ++ [(x, false)]) sh := fun hb => eff_app.2 (by
      rcases ea hb with he | he
      · refine .inr ⟨rfl, fun e => ?_⟩
        exact hne (he.trans e.symm)
      · exact .inl he)
    refine ⟨fun m hm hm2 hm0 => ?_, ba, sa, lb, fun hb => .inr (key hb), fun b hb hb2 => ?_, fun hl => ?_, fun _ => ?_⟩
    · rcases List.mem_append.1 hm with hm | hm
      · exact tl m hm hm2 hm0
      · simp only [List.mem_singleton] at hm; subst hm; exact absurd hm0 h0
    · refine .inr (.inl (eff_app.2 (.inr ⟨rfl, fun e => ?_⟩)))
      have hb1 := lb b hb
      have hbm := ba b (List.mem_of_getLast? hb)
      rcases hbm with ⟨hbf, _⟩ | hbm
      · rw [hb2] at hbf; cases hbf
      · have : x = nil0 := e.trans (hb1.symm.trans hbm)
        exact h0 (by rw [this]; rfl)
    · rw [lastL_app] at hl
      simp only [Bool.false_eq_true, if_false] at hl
      exact absurd (by rw [hl]; rfl) h0
    · by_cases hb : B = []
      · exact .inr (key hb)
      · exact .inl hb

theorem ans_fine {o x : Stg} (ho : fine o ∧ o.1 ≠ 3) (hx : fine x) : fine (ans o x).1 ∧ (ans o x).1.1 ≠ 3 := by
  have f0 : fine nil0 ∧ nil0.1 ≠ 3 := by simp [fine, nil0]
  unfold ans
  split
  · rename_i h; exact ⟨hx, by simp only; omega⟩
  · split
    · exact ho
    · split
      · exact ⟨hx, by assumption⟩
      · split
        · exact ho
        · exact f0

theorem told_t {h : Stg} {m : Msg} (e : told h m = true) : m.2 = false ∧ m.1 ≠ h := by
  simpa [told] using e
theorem told_f {h : Stg} {m : Msg} (e : told h m = false) : m.2 = true ∨ m.1 = h := by
  cases hm : m.2 <;> simp_all [told]

theorem eff_tail {T : List Msg} {s : Stg} {m : Msg} (h : eff (m :: T) s) (e : told s m = false) : eff T s := by
  rcases eff_cons.1 h with h | h
  · rcases told_f e with e | e
    · rw [h.1] at e; cases e
    · exact absurd e h.2
  · exact h

/-- The other hears. -/
theorem inv_hearS {co so ch : Stg} {w : Bool} {sh : Stg} {m : Msg} {T B : List Msg} (h : Inv co so ch w sh (m :: T) B) :
    Inv co so ch w (if told sh m then (ans so m.1).1 else sh) T (if told sh m then B ++ [ans so m.1] else B) := by
  have hm := h.ft m (by simp)
  have af := ans_fine h.os hm
  cases ht : told sh m with
  | true =>
    obtain ⟨m2, mne⟩ := told_t ht
    simp only [if_true]
    have hBne : B ++ [ans so m.1] ≠ [] := by simp
    refine ⟨fun k hk => h.ft k (by simp [hk]), h.fc, af, h.oc, h.os, fun h1 h2 => ?_, fun h1 h2 => ?_, fun h1 h2 => ?_, fun h1 h2 h3 => ?_, fun k hk => ?_⟩
    · rcases h.bb h1 h2 with ⟨_, a, _⟩ | ⟨a, ⟨x, T1, T2, hT, t1, t2, xs, xc⟩, b⟩ | ⟨_, a, _⟩
      · rw [a m (by simp)] at m2; cases m2
      · have : T1 = [] := by
          cases T1 with
          | nil => rfl
          | cons y r => simp only [List.cons_append, List.cons.injEq] at hT; have := t1 y (by simp); rw [← hT.1, m2] at this; cases this
        subst this
        simp only [List.nil_append, List.cons.injEq] at hT
        obtain ⟨rfl, rfl⟩ := hT
        subst b
        refine .inr (.inr ⟨a, t2, ?_⟩)
        unfold ans
        by_cases x0 : x.1 = 0
        · simp only [x0, if_true, List.nil_append]
          exact .inl ⟨trivial, xc.resolve_left (by omega)⟩
        · by_cases x3 : x.1 = 3
          · simp [x0, x3]
          · simp only [x0, x3, h1, if_true, if_false, List.nil_append]
            exact .inl ⟨trivial, xc.resolve_left x3⟩
      · rw [a m (by simp)] at m2; cases m2
    · obtain ⟨ta, ba, la, wa⟩ := h.b2 h1 h2
      refine ⟨fun k hk => ta k (by simp [hk]), fun k hk k2 => ?_, ?_, fun _ => .inl hBne⟩
      · rcases List.mem_append.1 hk with hk | hk
        · exact ba k hk k2
        · simp only [List.mem_singleton] at hk
          subst hk
          revert k2
          unfold ans
          by_cases x0 : m.1.1 = 0
          · simp [x0]
          · by_cases x3 : m.1.1 = 3
            · simp [x0, x3]
            · simp [x0, x3, h1]
      · by_cases x3 : m.1.1 = 3
        · have ea : ans so m.1 = (so, false) := by simp [ans, x3]
          rw [ea]
          by_cases hall : ∀ k ∈ T, k.1.1 = 3
          · rw [lastN_d hall]
            by_cases e : so = ch
            · exact .inl e
            · exact .inr ⟨hall, (so, false), by simp, rfl, e⟩
          · rcases la with la | ⟨la, _⟩
            · simp only [lastN, x3, if_true] at la
              exact .inl ((lastN_any hall).trans la)
            · exact absurd (fun k hk => la k (by simp [hk])) hall
        · have ea : ans so m.1 = (m.1, true) := by simp only [ans, h1, x3, if_false, if_true]; split <;> rfl
          rw [ea]
          rcases la with la | ⟨la, _⟩
          · simp only [lastN, x3, if_false] at la
            exact .inl la
          · exact absurd (la m (by simp)) x3
    · obtain ⟨tl, ba, sa, lb, ea, wa⟩ := h.bA h1 h2
      have x0 := tl m (by simp) m2
      have hA : (ans so m.1).2 = false ∧ ((ans so m.1).1 = nil0 ∨ (ans so m.1).1 = so) := by
        unfold ans
        simp only [x0, h1, if_false]
        split
        · exact ⟨rfl, .inr rfl⟩
        · split
          · exact ⟨rfl, .inr rfl⟩
          · exact ⟨rfl, .inl rfl⟩
      refine ⟨fun k hk => tl k (by simp [hk]), fun k hk => ?_, hA.2, fun b hb => ?_, fun hb => absurd hb hBne, fun _ => .inl hBne⟩
      · rcases List.mem_append.1 hk with hk | hk
        · exact ba k hk
        · simp only [List.mem_singleton] at hk; subst hk; exact hA
      · simp only [List.getLast?_append, List.getLast?_singleton, Option.some_or, Option.some.injEq] at hb
        rw [← hb]
    · obtain ⟨tl, ba, sa, lb, ea, ka, la, wa⟩ := h.bC h1 h2 h3
      have hA : ((ans so m.1).2 = false ∧ (ans so m.1).1 = so) ∨ (ans so m.1).1 = nil0 := by
        unfold ans
        by_cases x0 : m.1.1 = 0
        · simp only [x0, if_true]; exact .inr (fine0 hm x0)
        · simp only [x0, h1, if_false]
          split
          · exact .inl ⟨rfl, rfl⟩
          · split
            · exact .inl ⟨rfl, rfl⟩
            · exact .inr rfl
      refine ⟨fun k hk => tl k (by simp [hk]), fun k hk => ?_, hA.elim (fun e => .inr e.2) .inl, fun b hb => ?_, fun hb => absurd hb hBne, fun b hb hb2 => ?_, fun hl => ?_, fun _ => .inl hBne⟩
      · rcases List.mem_append.1 hk with hk | hk
        · exact ba k hk
        · simp only [List.mem_singleton] at hk; subst hk; exact hA
      · simp only [List.getLast?_append, List.getLast?_singleton, Option.some_or, Option.some.injEq] at hb
        rw [← hb]
      · simp only [List.getLast?_append, List.getLast?_singleton, Option.some_or, Option.some.injEq] at hb
        subst hb
        -- only an answer to None is told as an Ack
        have x0 : m.1.1 = 0 := by
          apply Classical.byContradiction
          intro x0
          revert hb2
          unfold ans
          simp only [x0, h1, if_false]
          split
          · simp
          · split <;> simp
        have hm0 := fine0 hm x0
        have e1 : (ans so m.1).1 = nil0 := by unfold ans; rw [hm0]; simp [nil0]
        rw [e1]
        by_cases he : eff T nil0
        · exact .inr (.inl he)
        · refine .inl (la ?_)
          simp only [lastL, m2, Bool.false_eq_true, if_false, hm0]
          exact lastL_same (not_eff he)
      · refine la ?_
        simp only [lastL, m2, Bool.false_eq_true, if_false]
        rw [← hl]
        exact (lastL_any (by rw [hl]; exact fun e => h3 e.symm)).symm
    · rcases List.mem_append.1 hk with hk | hk
      · exact h.fb k hk
      · simp only [List.mem_singleton] at hk; subst hk; exact af.1
  | false =>
    simp only [Bool.false_eq_true, if_false]
    refine ⟨fun k hk => h.ft k (by simp [hk]), h.fc, h.fs, h.oc, h.os, fun h1 h2 => ?_, fun h1 h2 => ?_, fun h1 h2 => ?_, fun h1 h2 h3 => ?_, h.fb⟩
    · rcases h.bb h1 h2 with ⟨w0, a, b⟩ | ⟨a, ⟨x, T1, T2, hT, t1, t2, xs, xc⟩, b⟩ | ⟨w0, a, b⟩
      · exact .inl ⟨w0, fun k hk => a k (by simp [hk]), b⟩
      · cases T1 with
        | nil =>
          simp only [List.nil_append, List.cons.injEq] at hT
          obtain ⟨rfl, rfl⟩ := hT
          rcases told_f ht with e | e
          · cases e
          · exact absurd e xs
        | cons y r =>
          simp only [List.cons_append, List.cons.injEq] at hT
          obtain ⟨rfl, rfl⟩ := hT
          exact .inr (.inl ⟨a, ⟨x, r, T2, rfl, fun k hk => t1 k (by simp [hk]), t2, xs, xc⟩, b⟩)
      · exact .inr (.inr ⟨w0, fun k hk => a k (by simp [hk]), b⟩)
    · obtain ⟨ta, ba, la, wa⟩ := h.b2 h1 h2
      have hms : m.1 = sh := (told_f ht).resolve_left (by rw [ta m (by simp)]; simp)
      refine ⟨fun k hk => ta k (by simp [hk]), ba, ?_, fun hw => (wa hw).imp_right fun he => eff_tail he ht⟩
      rcases la with la | ⟨la, lb⟩
      · refine .inl ?_
        rw [← la]
        simp only [lastN, hms]
        split <;> rfl
      · exact .inr ⟨fun k hk => la k (by simp [hk]), lb⟩
    · obtain ⟨tl, ba, sa, lb, ea, wa⟩ := h.bA h1 h2
      exact ⟨fun k hk => tl k (by simp [hk]), ba, sa, lb, fun hb => (ea hb).imp_right fun he => eff_tail he ht, fun hw => (wa hw).imp_right fun he => eff_tail he ht⟩
    · obtain ⟨tl, ba, sa, lb, ea, ka, la, wa⟩ := h.bC h1 h2 h3
      refine ⟨fun k hk => tl k (by simp [hk]), ba, sa, lb, fun hb => (ea hb).imp_right fun he => eff_tail he ht, fun b hb hb2 => (ka b hb hb2).imp_right fun he => he.imp_left fun he => eff_tail he ht, fun hl => la ?_, fun hw => (wa hw).imp_right fun he => eff_tail he ht⟩
      simp only [lastL]
      rw [← hl]
      exact (lastL_any (by rw [hl]; exact fun e => h3 e.symm)).symm

/-- The one hears. -/
theorem inv_hearC {co so ch : Stg} {w : Bool} {sh : Stg} {m : Msg} {T B : List Msg} (h : Inv co so ch w sh T (m :: B)) :
    Inv co so (if told ch m then (ans co m.1).1 else ch) false sh (if told ch m then T ++ [ans co m.1] else T) B := by
  have hm := h.fb m (by simp)
  have af := ans_fine h.oc hm
  cases ht : told ch m with
  | true =>
    obtain ⟨m2, mne⟩ := told_t ht
    simp only [if_true]
    refine ⟨fun k hk => ?_, af, h.fs, h.oc, h.os, fun h1 h2 => ?_, fun h1 h2 => ?_, fun h1 h2 => ?_, fun h1 h2 h3 => ?_, fun k hk => h.fb k (by simp [hk])⟩
    · rcases List.mem_append.1 hk with hk | hk
      · exact h.ft k hk
      · simp only [List.mem_singleton] at hk; subst hk; exact af.1
    · rcases h.bb h1 h2 with ⟨_, _, b, _⟩ | ⟨_, _, b⟩ | ⟨_, a, ⟨b, _⟩ | ⟨b, c⟩⟩
      · cases b
      · cases b
      · simp only [List.cons.injEq] at b
        rw [b.1] at m2; cases m2
      · simp only [List.cons.injEq] at b
        obtain ⟨rfl, rfl⟩ := b
        have e1 : ans co so = (so, true) := by simp [ans, h1, h2]
        simp only [e1]
        refine .inl ⟨rfl, fun k hk => ?_, rfl, c.symm⟩
        rcases List.mem_append.1 hk with hk | hk
        · exact a k hk
        · simp only [List.mem_singleton] at hk; subst hk; rfl
    · obtain ⟨ta, ba, la, wa⟩ := h.b2 h1 h2
      have hms : m.1 = so := ba m (by simp) m2
      have e1 : ans co m.1 = (co, false) := by simp [ans, hms, h1, h2]
      rw [e1]
      refine ⟨fun k hk => ?_, fun k hk => ba k (by simp [hk]), ?_, fun hw => by cases hw⟩
      · rcases List.mem_append.1 hk with hk | hk
        · exact ta k hk
        · simp only [List.mem_singleton] at hk; subst hk; rfl
      · rw [lastN_app]; simp [h.oc.2]
    · obtain ⟨tl, ba, sa, lb, ea, wa⟩ := h.bA h1 h2
      have e1 : ans co m.1 = (m.1, true) := by
        rcases (ba m (by simp)).2 with e | e
        · simp [ans, e, nil0]
        · rcases h2 with h2 | h2
          · unfold ans
            by_cases x0 : m.1.1 = 0
            · simp [x0]
            · by_cases x3 : m.1.1 = 3
              · rw [e] at x3; exact absurd x3 h.os.2
              · simp [x0, x3, h2]
          · simp [ans, e, h2, nil0]
      rw [e1]
      refine ⟨fun k hk k2 => ?_, fun k hk => ba k (by simp [hk]), sa, fun b hb => ?_, fun hb => ?_, fun hw => by cases hw⟩
      · rcases List.mem_append.1 hk with hk | hk
        · exact tl k hk k2
        · simp only [List.mem_singleton] at hk; subst hk; cases k2
      · refine lb b ?_
        cases B with
        | nil => simp at hb
        | cons y r => simpa using hb
      · subst hb
        exact .inl (lb m (by simp))
    · obtain ⟨tl, ba, sa, lb, ea, ka, la, wa⟩ := h.bC h1 h2 h3
      have so0 : so.1 ≠ 0 := fun e => h3 (fine0 h.os.1 e)
      have e1 : ((ans co m.1).1 = nil0) ∧ ((m.1 = so → ans co m.1 = (nil0, false)) ∧ (m.1 = nil0 → ans co m.1 = (nil0, true))) := by
        have c1 : m.1 = so → ans co m.1 = (nil0, false) := fun e => by simp [ans, e, so0, h1, h2, h.os.2]
        have c2 : m.1 = nil0 → ans co m.1 = (nil0, true) := fun e => by simp [ans, e, nil0]
        refine ⟨?_, c1, c2⟩
        rcases ba m (by simp) with e | e
        · rw [c1 e.2]
        · rw [c2 e]
      have hlast : ∀ b, B.getLast? = some b → (m :: B).getLast? = some b := fun b hb => by
        cases B with
        | nil => simp at hb
        | cons y r => simpa using hb
      rw [e1.1]
      refine ⟨fun k hk k2 k0 => ?_, fun k hk => ba k (by simp [hk]), sa, fun b hb => lb b (hlast b hb), fun hb => ?_, fun b hb hb2 => .inl rfl, fun _ => rfl, fun hw => by cases hw⟩
      · rcases List.mem_append.1 hk with hk | hk
        · exact tl k hk k2 k0
        · simp only [List.mem_singleton] at hk; subst hk; exact e1.1
      · subst hb
        have hl := lb m (by simp)
        rcases ba m (by simp) with e | e
        · refine .inr (eff_app.2 (.inr ?_))
          rw [e1.2.1 e.2]
          exact ⟨rfl, fun e' => h3 (by rw [← e.2, hl, ← e'])⟩
        · exact .inl (by rw [← hl, e])
  | false =>
    simp only [Bool.false_eq_true, if_false]
    have hlast : ∀ b, B.getLast? = some b → (m :: B).getLast? = some b := fun b hb => by
      cases B with
      | nil => simp at hb
      | cons y r => simpa using hb
    refine ⟨h.ft, h.fc, h.fs, h.oc, h.os, fun h1 h2 => ?_, fun h1 h2 => ?_, fun h1 h2 => ?_, fun h1 h2 h3 => ?_, fun k hk => h.fb k (by simp [hk])⟩
    · rcases h.bb h1 h2 with ⟨_, _, b, _⟩ | ⟨_, _, b⟩ | ⟨_, a, ⟨b, c⟩ | ⟨b, c⟩⟩
      · cases b
      · cases b
      · simp only [List.cons.injEq] at b
        exact .inl ⟨rfl, a, b.2, c⟩
      · simp only [List.cons.injEq] at b
        obtain ⟨rfl, rfl⟩ := b
        refine .inl ⟨rfl, a, rfl, ?_⟩
        rcases told_f ht with e | e
        · cases e
        · rw [c]; exact e.symm
    · obtain ⟨ta, ba, la, wa⟩ := h.b2 h1 h2
      refine ⟨ta, fun k hk => ba k (by simp [hk]), la.imp_right fun ⟨a, k, hk, k2, kn⟩ => ⟨a, k, ?_, k2, kn⟩, fun hw => by cases hw⟩
      rcases List.mem_cons.1 hk with rfl | hk
      · rcases told_f ht with e | e
        · rw [k2] at e; cases e
        · exact absurd e kn
      · exact hk
    · obtain ⟨tl, ba, sa, lb, ea, wa⟩ := h.bA h1 h2
      refine ⟨tl, fun k hk => ba k (by simp [hk]), sa, fun b hb => lb b (hlast b hb), fun hb => ?_, fun hw => by cases hw⟩
      subst hb
      have := lb m (by simp)
      rcases told_f ht with e | e
      · rw [(ba m (by simp)).1] at e; cases e
      · exact .inl (e.symm.trans this)
    · obtain ⟨tl, ba, sa, lb, ea, ka, la, wa⟩ := h.bC h1 h2 h3
      refine ⟨tl, fun k hk => ba k (by simp [hk]), sa, fun b hb => lb b (hlast b hb), fun hb => ?_, fun b hb hb2 => ?_, la, fun hw => by cases hw⟩
      · subst hb
        have hl := lb m (by simp)
        rcases told_f ht with e | e
        · have hk := ka m (by simp) e
          have hm0 : m.1 = nil0 := (ba m (by simp)).resolve_left fun c => by rw [e] at c; cases c.1
          have hnm : ∀ x : Stg, (x, false) ∈ [m] → False := fun x hx => by
            simp only [List.mem_singleton] at hx; rw [← hx] at e; cases e
          rcases hk with hk | hk | hk | hk
          · exact .inl (by rw [hk, ← hl, hm0])
          · exact .inr hk
          · exact (hnm _ hk).elim
          · exact (hnm _ hk.2).elim
        · exact .inl (e.symm.trans hl)
      · rcases ka b (hlast b hb) hb2 with hk | hk | hk | hk
        · exact .inl hk
        · exact .inr (.inl hk)
        · rcases List.mem_cons.1 hk with hk | hk
          · rcases told_f ht with e | e
            · rw [← hk] at e; cases e
            · exact .inl (by rw [← e, ← hk])
          · exact .inr (.inr (.inl hk))
        · rcases List.mem_cons.1 hk.2 with hk2 | hk2
          · rcases told_f ht with e | e
            · rw [← hk2] at e; cases e
            · exact absurd (by rw [← e, ← hk2]) hk.1
          · exact .inr (.inr (.inr ⟨hk.1, hk2⟩))

/-- What a message may still cause. -/
def wt (m : Msg) : Nat := if m.2 = true then 1 else if m.1.1 = 0 then 2 else if m.1.1 = 1 then 3 else if m.1.1 = 2 then 4 else 5
theorem wt_ans {o x : Stg} (ho : fine o ∧ o.1 ≠ 3) : wt (ans o x) < wt (x, false) := by
  unfold ans wt nil0
  obtain ⟨⟨h, _⟩, h3⟩ := ho
  by_cases x0 : x.1 = 0
  · simp [x0]
  · by_cases x3 : x.1 = 3
    · simp [x0, x3]; split <;> (try split) <;> (try split) <;> omega
    · by_cases o2 : o.1 = 2
      · simp [x0, x3, o2]; split <;> (try split) <;> omega
      · by_cases x2 : x.1 = 2
        · simp [x0, x3, o2, x2]; split <;> (try split) <;> omega
        · simp [x0, x3, o2, x2]; split <;> omega
theorem wt_pos (m : Msg) : 1 ≤ wt m := by unfold wt; split <;> (try split) <;> (try split) <;> (try split) <;> omega
theorem wt_le (m : Msg) : wt m ≤ 5 := by unfold wt; split <;> (try split) <;> (try split) <;> (try split) <;> omega

end Go.Proofs.YtdmkdmaofgjelaaDoor.SlcR
