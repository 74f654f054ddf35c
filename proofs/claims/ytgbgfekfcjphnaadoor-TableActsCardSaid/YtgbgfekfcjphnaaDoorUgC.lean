/- Tables, act by act: the document's rows and the table's places: the plain law. -/
import Derived.Test.YtgbgfekfcjphnaaDoorUcC
set_option linter.unusedSimpArgs false
set_option linter.unusedVariables false
namespace Go.Proofs.YtgbgfekfcjphnaaDoor
open Go.Sx

def rd (l : List Rw) (j : Nat) : Rw := l.getD j (0, 0, 0, false)
theorem rd_mem {l : List Rw} {j : Nat} (h : j < l.length) : rd l j ∈ l := by
  unfold rd
  rw [List.getD_eq_getElem?_getD, List.getElem?_eq_getElem h, Option.getD_some]
  exact List.getElem_mem h
theorem mem_rd {l : List Rw} {r : Rw} (h : r ∈ l) : ∃ j, j < l.length ∧ rd l j = r := by
  obtain ⟨j, hj, rfl⟩ := List.mem_iff_getElem.1 h
  refine ⟨j, hj, ?_⟩
  unfold rd
  rw [List.getD_eq_getElem?_getD, List.getElem?_eq_getElem hj, Option.getD_some]
theorem mt_iff {l : List Rw} {sd op : Int} {j : Nat} : mtB (rS l) (rO l) sd op j = true ↔ (rd l j).1 = sd ∧ (rd l j).2.1 = op := by
  simp only [mtB, Bool.and_eq_true, decide_eq_true_eq]; exact Iff.rfl

theorem fnd_some {RS RO : Ix → Int} {sd op : Int} : ∀ {k i j : Nat}, fnd RS RO sd op k i = some j → i ≤ j ∧ j < i + k ∧ mtB RS RO sd op j = true
  | 0, i, j, h => by cases h
  | k + 1, i, j, h => by
    simp only [fnd] at h
    split at h
    · rename_i hm
      simp only [Option.some.injEq] at h
      subst h
      exact ⟨Nat.le_refl _, by omega, hm⟩
    · obtain ⟨h1, h2, h3⟩ := fnd_some h
      exact ⟨by omega, by omega, h3⟩
theorem fnd_none {RS RO : Ix → Int} {sd op : Int} : ∀ {k i : Nat}, fnd RS RO sd op k i = none → ∀ j, i ≤ j → j < i + k → mtB RS RO sd op j = false
  | 0, i, h, j, h1, h2 => by omega
  | k + 1, i, h, j, h1, h2 => by
    simp only [fnd] at h
    split at h
    · cases h
    · rename_i hm
      rcases Nat.eq_or_lt_of_le h1 with rfl | h3
      · simpa using hm
      · exact fnd_none h j (by omega) (by omega)

theorem mem_keep {RS RO RK : Ix → Int} {RB : Ix → Bool} {sd op : Int} {r : Rw} : ∀ {i : Nat}, r ∈ keepL RS RO RK RB sd op i ↔ ∃ j, j < i ∧ mtB RS RO sd op j = false ∧ r = (RS [j], RO [j], RK [j], RB [j])
  | 0 => by simp [keepL]
  | i + 1 => by
    cases hm : mtB RS RO sd op i with
    | true =>
      rw [keep_yes hm, mem_keep]
      constructor
      · rintro ⟨j, h1, h2, h3⟩; exact ⟨j, by omega, h2, h3⟩
      · rintro ⟨j, h1, h2, h3⟩
        refine ⟨j, ?_, h2, h3⟩
        by_cases hj : j = i
        · subst hj; rw [hm] at h2; cases h2
        · omega
    | false =>
      rw [keep_no hm, List.mem_append, mem_keep]
      constructor
      · rintro (⟨j, h1, h2, h3⟩ | h)
        · exact ⟨j, by omega, h2, h3⟩
        · simp only [List.mem_cons, List.not_mem_nil, or_false] at h
          exact ⟨i, by omega, hm, h⟩
      · rintro ⟨j, h1, h2, h3⟩
        by_cases hj : j = i
        · subst hj; exact .inr (by simp [h3])
        · exact .inl ⟨j, by omega, h2, h3⟩

theorem mem_nw {l : List Rw} {sd op k : Int} {o : Bool} {r : Rw} : r ∈ nwL l sd op k o ↔ (r ∈ l ∧ ¬ (r.1 = sd ∧ r.2.1 = op)) ∨ r = (sd, op, k, o) := by
  simp only [nwL, nwG, List.mem_append, List.mem_cons, List.not_mem_nil, or_false, mem_keep]
  constructor
  · rintro (⟨j, h1, h2, h3⟩ | h)
    · left
      have : r = rd l j := h3
      subst this
      refine ⟨rd_mem h1, fun hh => ?_⟩
      rw [mt_iff.2 hh] at h2; cases h2
    · exact .inr h
  · rintro (⟨h1, h2⟩ | h)
    · left
      obtain ⟨j, hj, rfl⟩ := mem_rd h1
      refine ⟨j, hj, ?_, rfl⟩
      cases hm : mtB (rS l) (rO l) sd op j with
      | false => rfl
      | true => exact absurd (mt_iff.1 hm) h2
    · exact .inr h

structure UI (l : List Rw) (K : Ix → Int) (O : Ix → Bool) : Prop where
  rt : ∀ p n, rtB (K [p, n]) (O [p, n]) = true
  rw : ∀ r ∈ l, (r.1 = 0 ∨ r.1 = 1) ∧ inO r.2.1 = true ∧ K [r.1.toNat, r.2.1.toNat] = r.2.2.1 ∧ O [r.1.toNat, r.2.1.toNat] = r.2.2.2
  un : ∀ p n, p < 2 → n < 256 → (∀ r ∈ l, ¬ (r.1 = (p : Nat) ∧ r.2.1 = (n : Nat))) → K [p, n] = 0 ∧ O [p, n] = false

theorem UI.find {l : List Rw} {K : Ix → Int} {O : Ix → Bool} (I : UI l K O) {sd op : Int} (hs : sd = 0 ∨ sd = 1) (ho : inO op = true) : kRef l sd op = K [sd.toNat, op.toNat] ∧ bRef l sd op = O [sd.toNat, op.toNat] := by
  have ho2 := inO_of ho
  simp only [kRef, bRef, kG, bG]
  cases hf : fnd (rS l) (rO l) sd op l.length 0 with
  | none =>
    have hn := fnd_none hf
    have := I.un sd.toNat op.toNat (by omega) (by omega) (fun r hr hh => by
      obtain ⟨j, hj, rfl⟩ := mem_rd hr
      have h1 := hn j (by omega) (by omega)
      have h2 := mt_iff (l := l) (sd := sd) (op := op) (j := j)
      rw [h2.2 ⟨by omega, by omega⟩] at h1; cases h1)
    exact ⟨this.1.symm, this.2.symm⟩
  | some j =>
    obtain ⟨h1, h2, h3⟩ := fnd_some hf
    obtain ⟨h4, h5⟩ := mt_iff.1 h3
    obtain ⟨_, _, h6, h7⟩ := I.rw _ (rd_mem (l := l) (j := j) (by omega))
    rw [h4, h5] at h6 h7
    exact ⟨h6.symm, h7.symm⟩

theorem UI.out {l : List Rw} {K : Ix → Int} {O : Ix → Bool} (I : UI l K O) {sd op : Int} (ho : inO op = false) : kRef l sd op = 0 ∧ bRef l sd op = false := by
  simp only [kRef, bRef, kG, bG]
  cases hf : fnd (rS l) (rO l) sd op l.length 0 with
  | none => exact ⟨rfl, rfl⟩
  | some j =>
    obtain ⟨h1, h2, h3⟩ := fnd_some hf
    obtain ⟨h4, h5⟩ := mt_iff.1 h3
    obtain ⟨_, h6, _, _⟩ := I.rw _ (rd_mem (l := l) (j := j) (by omega))
    rw [h5, ho] at h6; cases h6

theorem upP' {α : Type} (f : Ix → α) (p : Nat) (n : Int) (x : α) : uP f p n x [p, n.toNat] = x := by simp [uP, upd]
theorem upP_no' {α : Type} (f : Ix → α) {p d m : Nat} {n : Int} (x : α) (h : ¬ (p = d ∧ n.toNat = m)) : uP f p n x [d, m] = f [d, m] := by
  have : ¬ ([d, m] : Ix) = [p, n.toNat] := by intro hh; simp only [List.cons.injEq, and_true] at hh; exact h ⟨hh.1.symm, hh.2.symm⟩
  simp only [uP, upd, if_neg this]

theorem UI.set {l : List Rw} {K : Ix → Int} {O : Ix → Bool} (I : UI l K O) {sd op k : Int} {o : Bool} (hs : sd = 0 ∨ sd = 1) (ho : inO op = true) (hr : rtB k o = true) : UI (nwL l sd op k o) (uP K sd.toNat op k) (uP O sd.toNat op o) := by
  have ho2 := inO_of ho
  refine ⟨fun p n => ?_, fun r hr => ?_, fun p n hp hn hh => ?_⟩
  · by_cases h : sd.toNat = p ∧ op.toNat = n
    · obtain ⟨rfl, rfl⟩ := h; rw [upP', upP']; exact hr
    · rw [upP_no' _ _ h, upP_no' _ _ h]; exact I.rt p n
  · rcases mem_nw.1 hr with ⟨h1, h2⟩ | rfl
    · obtain ⟨g1, g2, g3, g4⟩ := I.rw r h1
      have g5 := inO_of g2
      have h : ¬ (sd.toNat = r.1.toNat ∧ op.toNat = r.2.1.toNat) := fun hh => h2 ⟨by omega, by omega⟩
      rw [upP_no' _ _ h, upP_no' _ _ h]
      exact ⟨g1, g2, g3, g4⟩
    · exact ⟨hs, ho, upP' _ _ _ _, upP' _ _ _ _⟩
  · have h : ¬ (sd.toNat = p ∧ op.toNat = n) := fun h => hh _ (mem_nw.2 (.inr rfl)) ⟨by simp only; omega, by simp only; omega⟩
    rw [upP_no' _ _ h, upP_no' _ _ h]
    refine I.un p n hp hn (fun r hr hq => hh r (mem_nw.2 (.inl ⟨hr, fun h2 => h ⟨by omega, by omega⟩⟩)) hq)

theorem low_iff {RK : Ix → Int} : ∀ {k i : Nat}, lowB RK k i = true ↔ ∀ j, i ≤ j → j < i + k → RK [j] ≤ 1
  | 0, i => ⟨fun _ j h1 h2 => by omega, fun _ => rfl⟩
  | k + 1, i => by
    simp only [lowB, Bool.and_eq_true, decide_eq_true_eq, low_iff (k := k) (i := i + 1)]
    constructor
    · rintro ⟨h1, h2⟩ j h3 h4
      rcases Nat.eq_or_lt_of_le h3 with rfl | h5
      · exact h1
      · exact h2 j (by omega) (by omega)
    · intro h
      exact ⟨h i (by omega) (by omega), fun j h1 h2 => h j (by omega) (by omega)⟩

theorem UI.calm {l : List Rw} {K : Ix → Int} {O : Ix → Bool} (I : UI l K O) : calmAll K O = lowL l := by
  rw [Bool.eq_iff_iff, calm_all, lowL, low_iff]
  constructor
  · intro h j _ hj
    have hm := rd_mem (l := l) (j := j) (by omega)
    obtain ⟨g1, g2, g3, g4⟩ := I.rw _ hm
    have g5 := inO_of g2
    have := h (rd l j).1.toNat (by omega) (rd l j).2.1.toNat (by omega)
    rw [g3] at this
    simp only [cal, Bool.and_eq_true, Bool.or_eq_true, decide_eq_true_eq] at this
    have e : rK l [j] = (rd l j).2.2.1 := rfl
    rw [e]; omega
  · intro h p hp n hn
    by_cases hh : ∀ r ∈ l, ¬ (r.1 = (p : Nat) ∧ r.2.1 = (n : Nat))
    · obtain ⟨h1, h2⟩ := I.un p n hp hn hh
      simp [cal, h1, h2]
    · have hh : ∃ r ∈ l, r.1 = (p : Nat) ∧ r.2.1 = (n : Nat) := by
        refine Classical.byContradiction fun hc => hh fun r hr hq => hc ⟨r, hr, hq⟩
      obtain ⟨r, hr, h1, h2⟩ := hh
      obtain ⟨g1, g2, g3, g4⟩ := I.rw r hr
      obtain ⟨j, hj, rfl⟩ := mem_rd hr
      have hk : (rd l j).2.2.1 ≤ 1 := h j (by omega) (by omega)
      have e1 : (rd l j).1.toNat = p := by omega
      have e2 : (rd l j).2.1.toNat = n := by omega
      rw [e1, e2] at g3 g4
      obtain ⟨r1, r2, r3⟩ := rtB_ok (I.rt p n)
      have ho : O [p, n] = false := by
        cases hq : O [p, n] with
        | false => rfl
        | true => have := r3 hq; omega
      simp only [cal, ho, Bool.not_false, Bool.and_true, Bool.or_eq_true, decide_eq_true_eq]
      omega

theorem UI.lists {l : List Rw} {K : Ix → Int} {O : Ix → Bool} (I : UI l K O) {sd : Int} (hs : sd = 0 ∨ sd = 1) : onLR l sd = onM K O sd 256 := by
  have key : ∀ n, n ≤ 256 → onR (rS l) (rO l) (rK l) l.length sd n = onM K O sd n := by
    intro n
    induction n with
    | zero => intro _; rfl
    | succ n ih =>
      intro hn
      have hf := (I.find hs (op := (n : Int)) (by simp only [inO, Bool.and_eq_true, decide_eq_true_eq]; omega)).1
      simp only [kRef, kG, Int.toNat_natCast] at hf
      by_cases hk : K [sd.toNat, n] = 1
      · rw [onR_yes (by rw [hf]; exact hk), onM_yes ⟨hs, hk, rt_on (I.rt _ _) hk⟩, ih (by omega)]
      · rw [onR_no (by rw [hf]; exact hk), onM_no (fun h => hk h.2.1), ih (by omega)]
  exact key 256 (Nat.le_refl _)
theorem onM_two (K : Ix → Int) (O : Ix → Bool) : ∀ n, onM K O 2 n = []
  | 0 => rfl
  | n + 1 => by rw [onM_no (by omega), onM_two K O n]

theorem hasF_iff {U : Ix → Int} {n : Int} : ∀ {k i : Nat}, hasF U n k i = true ↔ ∃ j, i ≤ j ∧ j < i + k ∧ U [j] = n
  | 0, i => by simp [hasF]; omega
  | k + 1, i => by
    simp only [hasF, Bool.or_eq_true, decide_eq_true_eq, hasF_iff (k := k) (i := i + 1)]
    constructor
    · rintro (h | ⟨j, h1, h2, h3⟩)
      · exact ⟨i, by omega, by omega, h⟩
      · exact ⟨j, by omega, by omega, h3⟩
    · rintro ⟨j, h1, h2, h3⟩
      by_cases hj : j = i
      · subst hj; exact .inl h3
      · exact .inr ⟨j, by omega, by omega, h3⟩
theorem hasN_iff {U : Ix → Int} {n : Int} : ∀ {k : Nat}, hasN U k n = true ↔ ∃ j, j < k ∧ U [j] = n
  | 0 => by simp [hasN]
  | k + 1 => by
    simp only [hasN, Bool.or_eq_true, decide_eq_true_eq, hasN_iff (k := k)]
    constructor
    · rintro (⟨j, h1, h3⟩ | h)
      · exact ⟨j, by omega, h3⟩
      · exact ⟨k, by omega, h⟩
    · rintro ⟨j, h1, h3⟩
      by_cases hj : j = k
      · subst hj; exact .inr h3
      · exact .inl ⟨j, by omega, h3⟩
theorem has_same (U : Ix → Int) (n : Int) (k : Nat) : hasF U n k 0 = hasN U k n := by
  rw [Bool.eq_iff_iff, hasF_iff, hasN_iff]
  constructor
  · rintro ⟨j, _, h2, h3⟩; exact ⟨j, by omega, h3⟩
  · rintro ⟨j, h2, h3⟩; exact ⟨j, by omega, by omega, h3⟩
theorem gG_ag (U V : Ix → Int) (N M : Nat) {cd op : Int} (ho : inO op = true) : gG U V N M cd op = agF U V N M [sdN cd, op.toNat] := by
  have ho2 := inO_of ho
  have e : ((op.toNat : Nat) : Int) = op := by omega
  simp only [gG, agF, sdN]
  by_cases h : cd < 253
  · simp [h, has_same, e]
  · simp [h, has_same, e]

/-- What the document says of a verb is what the table says. -/
theorem UI.hears {l : List Rw} {K : Ix → Int} {O : Ix → Bool} (I : UI l K O) (U V : Ix → Int) (N M : Nat) {cd op : Int} (ho : inO op = true) :
    kG (rS l) (rO l) (rK l) l.length (sdN cd) op = K [sdN cd, op.toNat] ∧ bG (rS l) (rO l) (rB l) l.length (sdN cd) op = O [sdN cd, op.toNat] ∧
    zG (rS l) (rO l) (rK l) (rB l) l.length U V N M cd op = hfZ K O (agF U V N M) cd op ∧
    k1G (rS l) (rO l) (rK l) (rB l) l.length U V N M cd op = hearK (K [sdN cd, op.toNat]) (O [sdN cd, op.toNat]) (frB cd) (agF U V N M [sdN cd, op.toNat]) := by
  have hs : ((sdN cd : Nat) : Int) = 0 ∨ ((sdN cd : Nat) : Int) = 1 := by unfold sdN; split <;> simp
  obtain ⟨h1, h2⟩ := I.find hs ho
  simp only [Int.toNat_natCast] at h1 h2
  have h1 : kG (rS l) (rO l) (rK l) l.length (sdN cd) op = K [sdN cd, op.toNat] := h1
  have h2 : bG (rS l) (rO l) (rB l) l.length (sdN cd) op = O [sdN cd, op.toNat] := h2
  refine ⟨h1, h2, ?_, ?_⟩
  · simp only [zG, hfZ, h1, h2, gG_ag U V N M ho]
  · simp only [k1G, h1, h2, gG_ag U V N M ho]

theorem hearK_rt {k : Int} {o is g : Bool} (h : rtB k o = true) : rtB (hearK k o is g) false = true := by
  obtain ⟨h1, h2, h3⟩ := rtB_ok h
  unfold hearK
  (repeat' split) <;> simp [rtB]
theorem ask_rt {k : Int} {o on : Bool} (h : rtB k o = true) : rtB (askK k o on) (askO k o on) = true := by
  grind [rtB, askK, askO, askE]

end Go.Proofs.YtgbgfekfcjphnaaDoor
