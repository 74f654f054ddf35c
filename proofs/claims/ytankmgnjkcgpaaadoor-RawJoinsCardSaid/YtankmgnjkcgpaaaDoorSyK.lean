/- The engine, part 20: regions that draw their order. -/
import Derived.Test.YtankmgnjkcgpaaaDoorSyJ
import Derived.Orders
set_option linter.unusedSimpArgs false
set_option linter.unusedVariables false
namespace Go.Sx

def touched (e : Eff) (l : Nat) : Prop := l ∈ e.upd.map (·.lab) ∨ l ∈ e.drop

theorem look_isSome {l : Nat} : ∀ {H : List Ent}, l ∈ H.map (·.lab) → look H l ≠ none
  | x :: r, h => by
    simp only [look]
    by_cases hx : x.lab = l
    · rw [beqT hx]; simp
    · rw [beqF hx]
      simp only [Bool.false_eq_true, if_false]
      rcases List.mem_cons.1 h with h | h
      · exact absurd h.symm hx
      · exact look_isSome h

theorem applyF_in {L : HF} {e : Eff} {l : Nat} (h : touched e l) : applyF L e l = look e.upd l := by
  unfold applyF
  cases hu : look e.upd l with
  | some x => rfl
  | none =>
    rcases h with h | h
    · exact absurd hu (look_isSome h)
    · simp [h]

theorem applyF_out {L : HF} {e : Eff} {l : Nat} (h : ¬ touched e l) : applyF L e l = L l := by
  unfold applyF
  rw [look_none (fun hm => h (.inl hm))]
  simp only
  rw [if_neg (fun hm => h (.inr hm))]

def foldL (D : Nat → Bool) : Nat → List Ev → HF → HF
  | _, [], L => L
  | i, ev :: r, L => foldL D (i + 1) r (if D i = true then applyF L ev.e else L)

def foldE (len : Nat) (D : Nat → Bool) : Nat → List Ev → (Nat → Option SV) → (Nat → Option SV)
  | _, [], E => E
  | i, ev :: r, E => foldE len D (i + 1) r (if D i = true then putE' len E ev.o.dst ev.e.v else E)

theorem foldL_pt {D D' : Nat → Bool} {l : Nat} : ∀ (tr : List Ev) (i : Nat) (L L' : HF), L l = L' l → (∀ j ev, tr[j]? = some ev → touched ev.e l → D (i + j) = D' (i + j)) → foldL D i tr L l = foldL D' i tr L' l
  | [], _, _, _, h, _ => h
  | ev :: r, i, L, L', h, hd => by
    simp only [foldL]
    refine foldL_pt r (i + 1) _ _ ?_ (fun j ev' hj ht => by
      have := hd (j + 1) ev' (by simpa using hj) ht
      rwa [show i + (j + 1) = i + 1 + j by omega] at this)
    by_cases ht : touched ev.e l
    · have := hd 0 ev rfl ht
      rw [Nat.add_zero] at this
      rw [this]
      split
      · rw [applyF_in ht, applyF_in ht]
      · exact h
    · split <;> split
      · rw [applyF_out ht, applyF_out ht]; exact h
      · rw [applyF_out ht]; exact h
      · rw [applyF_out ht]; exact h
      · exact h

theorem foldL_last {D : Nat → Bool} {l : Nat} {ev : Ev} : ∀ (tr : List Ev) (i j : Nat) (L : HF), tr[j]? = some ev → D (i + j) = true → touched ev.e l →
    (∀ k ev', j < k → tr[k]? = some ev' → touched ev'.e l → D (i + k) = false) → foldL D i tr L l = look ev.e.upd l
  | [], _, _, _, h, _, _, _ => by simp at h
  | ev0 :: r, i, 0, L, h, hD, ht, hk => by
    simp only [List.getElem?_cons_zero, Option.some.injEq] at h
    subst h
    rw [Nat.add_zero] at hD
    simp only [foldL, hD, if_true]
    have h1 : ∀ (r : List Ev) (i : Nat) (L : HF), (∀ k ev', r[k]? = some ev' → touched ev'.e l → D (i + k) = false) → foldL D i r L l = L l := by
      intro r
      induction r with
      | nil => intro i L _; rfl
      | cons e r ih =>
        intro i L hh
        simp only [foldL]
        rw [ih (i + 1) _ (fun k ev' hk ht => by
          have := hh (k + 1) ev' (by simpa using hk) ht
          rwa [show i + (k + 1) = i + 1 + k by omega] at this)]
        by_cases hte : touched e.e l
        · have := hh 0 e rfl hte
          rw [Nat.add_zero] at this
          simp [this]
        · split
          · exact applyF_out hte
          · rfl
    rw [h1 r (i + 1) _ (fun k ev' hk' ht' => by
      have := hk (k + 1) ev' (by omega) (by simpa using hk') ht'
      rwa [show i + (k + 1) = i + 1 + k by omega] at this)]
    exact applyF_in ht
  | ev0 :: r, i, j + 1, L, h, hD, ht, hk => by
    simp only [foldL]
    exact foldL_last r (i + 1) j _ (by simpa using h) (by rwa [show i + (j + 1) = i + 1 + j by omega] at hD) ht (fun k ev' hjk hk' ht' => by
      have := hk (k + 1) ev' (by omega) (by simpa using hk') ht'
      rwa [show i + (k + 1) = i + 1 + k by omega] at this)

theorem foldL_from {D : Nat → Bool} {l : Nat} {x : Ent} : ∀ (tr : List Ev) (i : Nat) (L : HF), foldL D i tr L l = some x →
    L l = some x ∨ ∃ j ev, tr[j]? = some ev ∧ D (i + j) = true ∧ look ev.e.upd l = some x
  | [], _, _, h => .inl h
  | ev :: r, i, L, h => by
    simp only [foldL] at h
    rcases foldL_from r (i + 1) _ h with h1 | ⟨j, ev', h1, h2, h3⟩
    · split at h1
      · rename_i hD
        by_cases ht : touched ev.e l
        · rw [applyF_in ht] at h1
          exact .inr ⟨0, ev, rfl, hD, h1⟩
        · rw [applyF_out ht] at h1; exact .inl h1
      · exact .inl h1
    · exact .inr ⟨j + 1, ev', by simpa using h1, by rwa [show i + (j + 1) = i + 1 + j by omega], h3⟩

theorem foldL_none {L : HF} {D : Nat → Bool} : ∀ (tr : List Ev) (i : Nat), (∀ j, D (i + j) = false) → foldL D i tr L = L
  | [], _, _ => rfl
  | ev :: r, i, h => by
    have := h 0
    rw [Nat.add_zero] at this
    simp only [foldL, this, Bool.false_eq_true, if_false]
    exact foldL_none r (i + 1) (fun j => by have := h (j + 1); rwa [show i + (j + 1) = i + 1 + j by omega] at this)

theorem foldL_congr {L : HF} {D D' : Nat → Bool} : ∀ (tr : List Ev) (i : Nat), (∀ j, j < tr.length → D (i + j) = D' (i + j)) → foldL D i tr L = foldL D' i tr L := by
  intro tr i h
  funext l
  exact foldL_pt tr i L L rfl (fun j ev hj _ => h j (by
    rcases Nat.lt_or_ge j tr.length with h | h
    · exact h
    · rw [List.getElem?_eq_none h] at hj; cases hj))

/-! ### The same for slots -/

theorem putE'_in {len : Nat} {E : Nat → Option SV} {d : Option Nat} {v : SV} {t : Nat} (h : d = some t ∧ t < len) : putE' len E d v t = some v := by simp [putE', h]
theorem putE'_out {len : Nat} {E : Nat → Option SV} {d : Option Nat} {v : SV} {t : Nat} (h : ¬ (d = some t ∧ t < len)) : putE' len E d v t = E t := by
  unfold putE'; rw [if_neg h]

theorem foldE_pt {len : Nat} {D D' : Nat → Bool} {t : Nat} : ∀ (tr : List Ev) (i : Nat) (E E' : Nat → Option SV), E t = E' t → (∀ j ev, tr[j]? = some ev → ev.o.dst = some t → D (i + j) = D' (i + j)) → foldE len D i tr E t = foldE len D' i tr E' t
  | [], _, _, _, h, _ => h
  | ev :: r, i, L, L', h, hd => by
    simp only [foldE]
    refine foldE_pt r (i + 1) _ _ ?_ (fun j ev' hj ht => by
      have := hd (j + 1) ev' (by simpa using hj) ht
      rwa [show i + (j + 1) = i + 1 + j by omega] at this)
    by_cases ht : ev.o.dst = some t ∧ t < len
    · have := hd 0 ev rfl ht.1
      rw [Nat.add_zero] at this
      rw [this]
      split
      · rw [putE'_in ht, putE'_in ht]
      · exact h
    · split <;> split
      · rw [putE'_out ht, putE'_out ht]; exact h
      · rw [putE'_out ht]; exact h
      · rw [putE'_out ht]; exact h
      · exact h

theorem foldE_last {len : Nat} {D : Nat → Bool} {t : Nat} {ev : Ev} : ∀ (tr : List Ev) (i j : Nat) (E : Nat → Option SV), tr[j]? = some ev → D (i + j) = true → ev.o.dst = some t → t < len →
    (∀ k ev', j < k → tr[k]? = some ev' → ev'.o.dst = some t → D (i + k) = false) → foldE len D i tr E t = some ev.e.v
  | [], _, _, _, h, _, _, _, _ => by simp at h
  | ev0 :: r, i, 0, E, h, hD, ht, hlen, hk => by
    simp only [List.getElem?_cons_zero, Option.some.injEq] at h
    subst h
    rw [Nat.add_zero] at hD
    simp only [foldE, hD, if_true]
    have h1 : ∀ (r : List Ev) (i : Nat) (E : Nat → Option SV), (∀ k ev', r[k]? = some ev' → ev'.o.dst = some t → D (i + k) = false) → foldE len D i r E t = E t := by
      intro r
      induction r with
      | nil => intro i E _; rfl
      | cons e r ih =>
        intro i E hh
        simp only [foldE]
        rw [ih (i + 1) _ (fun k ev' hk ht => by
          have := hh (k + 1) ev' (by simpa using hk) ht
          rwa [show i + (k + 1) = i + 1 + k by omega] at this)]
        by_cases hte : e.o.dst = some t ∧ t < len
        · have := hh 0 e rfl hte.1
          rw [Nat.add_zero] at this
          simp [this]
        · split
          · exact putE'_out hte
          · rfl
    rw [h1 r (i + 1) _ (fun k ev' hk' ht' => by
      have := hk (k + 1) ev' (by omega) (by simpa using hk') ht'
      rwa [show i + (k + 1) = i + 1 + k by omega] at this)]
    exact putE'_in ⟨ht, hlen⟩
  | ev0 :: r, i, j + 1, E, h, hD, ht, hlen, hk => by
    simp only [foldE]
    exact foldE_last r (i + 1) j _ (by simpa using h) (by rwa [show i + (j + 1) = i + 1 + j by omega] at hD) ht hlen (fun k ev' hjk hk' ht' => by
      have := hk (k + 1) ev' (by omega) (by simpa using hk') ht'
      rwa [show i + (k + 1) = i + 1 + k by omega] at this)

theorem foldE_from {len : Nat} {D : Nat → Bool} {t : Nat} {s : SV} : ∀ (tr : List Ev) (i : Nat) (E : Nat → Option SV), foldE len D i tr E t = some s →
    E t = some s ∨ ∃ j ev, tr[j]? = some ev ∧ D (i + j) = true ∧ s = ev.e.v
  | [], _, _, h => .inl h
  | ev :: r, i, E, h => by
    simp only [foldE] at h
    rcases foldE_from r (i + 1) _ h with h1 | ⟨j, ev', h1, h2, h3⟩
    · split at h1
      · rename_i hD
        by_cases ht : ev.o.dst = some t ∧ t < len
        · rw [putE'_in ht] at h1
          exact .inr ⟨0, ev, rfl, hD, (Option.some.inj h1).symm⟩
        · rw [putE'_out ht] at h1; exact .inl h1
      · exact .inl h1
    · exact .inr ⟨j + 1, ev', by simpa using h1, by rwa [show i + (j + 1) = i + 1 + j by omega], h3⟩

theorem foldE_none {len : Nat} {E : Nat → Option SV} {D : Nat → Bool} : ∀ (tr : List Ev) (i : Nat), (∀ j, D (i + j) = false) → foldE len D i tr E = E
  | [], _, _ => rfl
  | ev :: r, i, h => by
    have := h 0
    rw [Nat.add_zero] at this
    simp only [foldE, this, Bool.false_eq_true, if_false]
    exact foldE_none r (i + 1) (fun j => by have := h (j + 1); rwa [show i + (j + 1) = i + 1 + j by omega] at this)

theorem foldE_congr {len : Nat} {E : Nat → Option SV} {D D' : Nat → Bool} : ∀ (tr : List Ev) (i : Nat), (∀ j, j < tr.length → D (i + j) = D' (i + j)) → foldE len D i tr E = foldE len D' i tr E := by
  intro tr i h
  funext l
  exact foldE_pt tr i E E rfl (fun j ev hj _ => h j (by
    rcases Nat.lt_or_ge j tr.length with h | h
    · exact h
    · rw [List.getElem?_eq_none h] at hj; cases hj))

/-! ### Conflicts -/

theorem meets_iff : ∀ {a b : List Nat}, meets a b = true ↔ ∃ n ∈ a, n ∈ b
  | [], b => by simp [meets]
  | n :: r, b => by
    simp only [meets]
    by_cases h : n ∈ b
    · simp [memN_iff.2 h, h]
    · have : memN n b = false := by cases hm : memN n b; rfl; exact absurd (memN_iff.1 hm) h
      simp [this, h, meets_iff]

theorem optMem_iff {d : Option Nat} {l : List Nat} : optMem d l = true ↔ ∃ t, d = some t ∧ t ∈ l := by
  cases d <;> simp [optMem, memN_iff]

theorem optMeet_iff {a b : Option Nat} : optMeet a b = true ↔ ∃ t, a = some t ∧ b = some t := by
  cases a with
  | none => simp [optMeet]
  | some x => cases b with
    | none => simp [optMeet]
    | some y => simp only [optMeet, Option.some.injEq]; constructor
                · intro h; exact ⟨y, Nat.eq_of_beq_eq_true h, rfl⟩
                · rintro ⟨t, h1, h2⟩; rw [h1, h2]; exact Nat.beq_refl t

theorem conflict_iff {a b : Rec} : conflict a b = true ↔
    (∃ t, a.dst = some t ∧ t ∈ b.looks) ∨ (∃ t, b.dst = some t ∧ t ∈ a.looks) ∨ (∃ t, a.dst = some t ∧ b.dst = some t) ∨
    (∃ n ∈ a.wr, n ∈ b.rd) ∨ (∃ n ∈ a.wr, n ∈ b.wr) ∨ (∃ n ∈ a.rd, n ∈ b.wr) ∨ (∃ n ∈ a.wr, n ∈ b.out) := by
  simp only [conflict, Bool.or_eq_true, optMem_iff, optMeet_iff, meets_iff, or_assoc]

theorem pairsOk_ok {es : List (List Nat)} {n j : Nat} {b : Rec} : ∀ (l : List Rec) (i : Nat), pairsOk es n j b i l = true → ∀ k a, l[k]? = some a → i + k < j → conflict a b = true → reaches es n (i + k) j = true
  | [], _, _, _, _, h, _, _ => by simp at h
  | a :: r, i, h, k, a', hk, hlt, hc => by
    simp only [pairsOk] at h
    have hij : Nat.blt i j = true := by rw [Nat.blt_eq]; omega
    simp only [hij, if_true] at h
    cases k with
    | zero =>
      simp only [List.getElem?_cons_zero, Option.some.injEq] at hk
      subst hk
      simp only [hc, if_true] at h
      rw [Nat.add_zero]
      split at h
      · assumption
      · simp at h
    | succ k =>
      have h' : pairsOk es n j b (i + 1) r = true := by
        split at h
        · split at h
          · exact h
          · simp at h
        · exact h
      have := pairsOk_ok r (i + 1) h' k a' (by simpa using hk) (by omega) hc
      rwa [show i + (k + 1) = i + 1 + k by omega]

theorem allPairs_ok {es : List (List Nat)} {n : Nat} {l : List Rec} : ∀ (r : List Rec) (j : Nat), allPairs es n l j r = true → ∀ k b, r[k]? = some b → ∀ i a, l[i]? = some a → i < j + k → conflict a b = true → reaches es n i (j + k) = true
  | [], _, _, _, _, h, _, _, _, _, _ => by simp at h
  | b :: r, j, h, k, b', hk, i, a, hi, hlt, hc => by
    simp only [allPairs] at h
    split at h
    · rename_i hp
      cases k with
      | zero =>
        simp only [List.getElem?_cons_zero, Option.some.injEq] at hk
        subst hk
        have := pairsOk_ok l 0 hp i a hi (by omega) hc
        simpa using this
      | succ k =>
        have := allPairs_ok r (j + 1) h k b' (by simpa using hk) i a hi (by omega) hc
        rwa [show j + (k + 1) = j + 1 + k by omega]
    · simp at h

def edgeAt (ops : List Oper) (j : Nat) : List Nat := (nth (ops.map edgesOf) j).getD []

theorem reaches_closed {ops : List Oper} {D : Nat → Bool} (hD : ∀ j, D j = true → ∀ k ∈ edgeAt ops j, D k = true) : ∀ (n i j : Nat), reaches (ops.map edgesOf) n i j = true → (∀ k ∈ edgeAt ops j, D k = true) → D i = true
  | 0, _, _, h, _ => by simp [reaches] at h
  | n + 1, i, j, h, hj => by
    simp only [reaches, List.any_eq_true] at h
    obtain ⟨k, hk, h⟩ := h
    have hDk := hj k hk
    by_cases hki : k = i
    · subst hki; exact hDk
    · rw [beqF hki] at h
      simp only [Bool.false_eq_true, if_false] at h
      exact reaches_closed hD n i k h (hD k hDk)

structure Ord (P : Program) (ops : List Oper) (env0 : List SV) (H0 : List Ent) (n0 n1 : Nat) (tr : List Ev) : Prop where
  pos : ∀ j ev, tr[j]? = some ev → ops[j]? = some ev.o ∧ OpFact P ops ev ∧ look ev.H = foldL (fun i => decide (i < j)) 0 tr (look H0) ∧
    LitOf (foldE env0.length (fun i => decide (i < j)) 0 tr (nth env0)) ev.env ∧ ev.env.length = env0.length ∧ n0 ≤ ev.n ∧ ev.n' ≤ n1
  ord : ∀ (i j : Nat) (evi evj : Ev), i < j → tr[i]? = some evi → tr[j]? = some evj → evi.n' ≤ evj.n
  len : tr.length = ops.length
  conf : ∀ (i j : Nat) (evi evj : Ev), i < j → tr[i]? = some evi → tr[j]? = some evj → conflict (recOf ops evi) (recOf ops evj) = true → reaches (ops.map edgesOf) ops.length i j = true
  edges : ∀ j, ∀ k ∈ edgeAt ops j, k < j

/-! ### From the trace -/

theorem trace_len {P : Program} {ops : List Oper} : ∀ {rest : List Oper} {env : List SV} {H : List Ent} {n : Nat} {tr : List Ev} {env' : List SV} {H' : List Ent} {n' : Nat}, TraceOK P ops rest env H n tr env' H' n' → tr.length = rest.length ∧ n ≤ n'
  | [], env, H, n, [], env', H', n', h => ⟨rfl, by rw [h.2.2]; exact Nat.le_refl _⟩
  | o :: r, env, H, n, ev :: tr, env', H', n', h => by
    obtain ⟨h1, h2, h3, h4, h5, F, h6⟩ := h
    obtain ⟨g1, g2⟩ := trace_len h6
    have := F.le
    exact ⟨by simp [g1], by omega⟩
  | [], _, _, _, _ :: _, _, _, _, h => h.elim
  | _ :: _, _, _, _, [], _, _, _, h => h.elim

theorem trace_pos {P : Program} {ops : List Oper} {len : Nat} : ∀ {rest : List Oper} {env : List SV} {H : List Ent} {n : Nat} {tr : List Ev} {env' : List SV} {H' : List Ent} {n' : Nat}, TraceOK P ops rest env H n tr env' H' n' → env.length = len →
    ∀ (i : Nat) (E : Nat → Option SV), LitOf E env → (∀ j ev, tr[j]? = some ev → rest[j]? = some ev.o ∧ OpFact P ops ev ∧ look ev.H = foldL (fun k => decide (k < i + j)) i tr (look H) ∧
      LitOf (foldE len (fun k => decide (k < i + j)) i tr E) ev.env ∧ ev.env.length = len ∧ n ≤ ev.n ∧ ev.n' ≤ n') ∧
      look H' = foldL (fun _ => true) i tr (look H) ∧ LitOf (foldE len (fun _ => true) i tr E) env' ∧ env'.length = len
  | [], env, H, n, [], env', H', n', h, hlen, i, E, hE => by
    obtain ⟨rfl, rfl, rfl⟩ := h
    exact ⟨by intro j ev hj; simp at hj, rfl, hE, hlen⟩
  | o :: r, env, H, n, ev :: tr, env', H', n', h, hlen, i, E, hE => by
    obtain ⟨rfl, rfl, rfl, hl, hlit, F, hrest⟩ := h
    have hfun : look (applyE ev.H ev.e) = applyF (look ev.H) ev.e := funext (look_applyE ev.H ev.e F.nd)
    have hE1 : LitOf (putE' len E ev.o.dst ev.e.v) (putS ev.env ev.o.dst ev.e.v) := by
      have := (hlit E hE).put ev.o.dst ev.e.v
      rwa [show ev.env.length = len by omega] at this
    obtain ⟨g1, g2, g3, g4⟩ := trace_pos (len := len) hrest (by rw [putS_length]; omega) (i + 1) _ hE1
    have hle := (trace_len hrest).2
    have hF := F.le
    rw [hfun] at g1 g2
    refine ⟨?_, ?_, ?_, g4⟩
    · intro j ev' hj
      cases j with
      | zero =>
        simp only [List.getElem?_cons_zero, Option.some.injEq] at hj
        subst hj
        have hn : ∀ j, (fun k => decide (k < i + 0)) (i + j) = false := fun j => by simp
        refine ⟨rfl, F, ?_, ?_, by omega, by omega, by omega⟩
        · rw [foldL_none _ _ hn]
        · rw [foldE_none _ _ hn]; exact hlit E hE
      | succ j =>
        obtain ⟨k1, k2, k3, k4, k5, k6, k7⟩ := g1 j ev' (by simpa using hj)
        have hd : decide (i < i + (j + 1)) = true := by simp
        refine ⟨by simpa using k1, k2, ?_, ?_, k5, by omega, k7⟩
        · simp only [foldL, hd, if_true]
          rw [show i + (j + 1) = i + 1 + j by omega]; exact k3
        · simp only [foldE, hd, if_true]
          rw [show i + (j + 1) = i + 1 + j by omega]; exact k4
    · simp only [foldL, if_true]; exact g2
    · simp only [foldE, if_true]; exact g3
  | [], _, _, _, _ :: _, _, _, _, h, _, _, _, _ => h.elim
  | _ :: _, _, _, _, [], _, _, _, h, _, _, _, _ => h.elim

theorem trace_ord {P : Program} {ops : List Oper} : ∀ {rest : List Oper} {env : List SV} {H : List Ent} {n : Nat} {tr : List Ev} {env' : List SV} {H' : List Ent} {n' : Nat}, TraceOK P ops rest env H n tr env' H' n' →
    ∀ (i j : Nat) (evi evj : Ev), i < j → tr[i]? = some evi → tr[j]? = some evj → evi.n' ≤ evj.n
  | [], env, H, n, [], env', H', n', h, i, j, evi, evj, hij, hi, hj => by simp at hi
  | o :: r, env, H, n, ev :: tr, env', H', n', h, i, j, evi, evj, hij, hi, hj => by
    obtain ⟨rfl, rfl, rfl, hl, hlit, F, hrest⟩ := h
    cases j with
    | zero => omega
    | succ j =>
      cases i with
      | zero =>
        simp only [List.getElem?_cons_zero, Option.some.injEq] at hi
        subst hi
        have := (trace_pos (len := (putS ev.env ev.o.dst ev.e.v).length) hrest rfl 0 _ (LitOf.refl _)).1 j evj (by simpa using hj)
        exact this.2.2.2.2.2.1
      | succ i => exact trace_ord hrest i j evi evj (by omega) (by simpa using hi) (by simpa using hj)
  | [], _, _, _, _ :: _, _, _, _, h, _, _, _, _, _, _, _ => h.elim
  | _ :: _, _, _, _, [], _, _, _, h, _, _, _, _, _, _, _ => h.elim

end Go.Sx
