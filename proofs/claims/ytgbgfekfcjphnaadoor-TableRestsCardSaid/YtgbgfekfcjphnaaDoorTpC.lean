/- Tables: two sides of every option: the plain law. -/
import Derived.Test.YtgbgfekfcjphnaaDoorTjC
set_option linter.unusedSimpArgs false
set_option linter.unusedVariables false
set_option maxRecDepth 100000
namespace Go.Proofs.YtgbgfekfcjphnaaDoor
open Go.Sx

abbrev Sd := Int × Bool × List Bool
abbrev St := Sd × Sd

def sendL (z : Int) (q : List Bool) : List Bool := if z = 0 then q else q ++ [decide (z = 1)]
def askD (on : Bool) (s : Sd) : Sd := (askK s.1 s.2.1 on, askO s.1 s.2.1 on, sendL (askS s.1 s.2.1 on) s.2.2)
def hearD (g b : Bool) (s : Sd) : Sd := (hearK s.1 s.2.1 b g, false, sendL (hearS s.1 s.2.1 b g) s.2.2)
def sAsk1 (on : Bool) (s : St) : St := (askD on s.1, s.2)
def sAsk2 (on : Bool) (s : St) : St := (s.1, askD on s.2)
def sHear1 (g : Bool) (s : St) : St := match s.2.2.2 with | [] => s | b :: r => (hearD g b s.1, (s.2.1, s.2.2.1, r))
def sHear2 (g : Bool) (s : St) : St := match s.1.2.2 with | [] => s | b :: r => ((s.1.1, s.1.2.1, r), hearD g b s.2)
def stillS (s : St) : Bool := match s.1.2.2, s.2.2.2 with | [], [] => true | _, _ => false
def reach : Bool → Bool → List St
  | false, false => [((0, false, []), (0, false, [])), ((3, false, [true]), (0, false, [])), ((0, false, []), (3, false, [true])), ((3, true, [true]), (0, false, [])), ((3, false, [true]), (3, false, [true])), ((3, false, []), (0, false, [false])), ((0, false, []), (3, true, [true])), ((0, false, [false]), (3, false, [])), ((3, true, [true]), (3, false, [true])), ((3, true, []), (0, false, [false])), ((3, false, [true]), (3, true, [true])), ((1, false, [true]), (3, false, [])), ((3, false, []), (1, false, [true])), ((3, false, []), (3, false, [false, true])), ((0, false, [false]), (3, true, [])), ((3, false, [false, true]), (3, false, [])), ((3, true, [true]), (3, true, [true])), ((2, false, [true, false]), (3, false, [])), ((3, true, []), (1, false, [true])), ((3, true, []), (3, false, [false, true])), ((1, false, [true]), (3, true, [])), ((3, false, []), (2, false, [true, false])), ((1, false, []), (1, false, [])), ((3, false, []), (3, true, [false, true])), ((3, false, [false, true]), (3, true, [])), ((3, true, [false, true]), (3, false, [])), ((2, false, [true, false]), (3, true, [])), ((3, true, []), (2, false, [true, false])), ((2, true, [true, false]), (3, false, [])), ((2, false, [false]), (1, false, [])), ((3, true, []), (3, true, [false, true])), ((1, false, []), (2, false, [false])), ((3, false, []), (2, true, [true, false])), ((3, true, [false, true]), (3, true, [])), ((2, true, [true, false]), (3, true, [])), ((2, false, [false]), (2, false, [false])), ((3, true, []), (2, true, [true, false])), ((2, true, [false]), (1, false, [])), ((2, false, []), (0, false, [false])), ((1, false, []), (2, true, [false])), ((0, false, [false]), (2, false, [])), ((2, true, [false]), (2, false, [false])), ((2, false, [false]), (2, true, [false])), ((2, true, []), (0, false, [false])), ((2, false, []), (3, false, [false, true])), ((0, false, [false]), (2, true, [])), ((3, false, [false, true]), (2, false, [])), ((2, true, [false]), (2, true, [false])), ((2, true, []), (3, false, [false, true])), ((2, false, []), (3, true, [false, true])), ((3, false, [false, true]), (2, true, [])), ((3, true, [false, true]), (2, false, [])), ((2, true, []), (3, true, [false, true])), ((3, true, [false, true]), (2, true, []))]
  | false, true => [((0, false, []), (0, false, [])), ((3, false, [true]), (0, false, [])), ((0, false, []), (3, false, [true])), ((3, true, [true]), (0, false, [])), ((3, false, [true]), (3, false, [true])), ((3, false, []), (1, false, [true])), ((0, false, []), (3, true, [true])), ((0, false, [false]), (3, false, [])), ((3, true, [true]), (3, false, [true])), ((3, true, []), (1, false, [true])), ((3, false, [true]), (3, true, [true])), ((1, false, [true]), (3, false, [])), ((3, false, []), (2, false, [true, false])), ((1, false, []), (1, false, [])), ((0, false, [false]), (3, true, [])), ((3, false, [false, true]), (3, false, [])), ((3, true, [true]), (3, true, [true])), ((2, false, [true, false]), (3, false, [])), ((3, true, []), (2, false, [true, false])), ((2, false, [false]), (1, false, [])), ((1, false, [true]), (3, true, [])), ((3, false, []), (2, true, [true, false])), ((1, false, []), (2, false, [false])), ((3, false, [false, true]), (3, true, [])), ((3, true, [false, true]), (3, false, [])), ((2, false, [true, false]), (3, true, [])), ((2, true, [true, false]), (3, false, [])), ((3, true, []), (2, true, [true, false])), ((2, false, [false]), (2, false, [false])), ((2, true, [false]), (1, false, [])), ((2, false, []), (0, false, [false])), ((1, false, []), (2, true, [false])), ((0, false, [false]), (2, false, [])), ((3, true, [false, true]), (3, true, [])), ((2, true, [true, false]), (3, true, [])), ((2, false, [false]), (2, true, [false])), ((2, true, [false]), (2, false, [false])), ((2, true, []), (0, false, [false])), ((2, false, []), (3, false, [false, true])), ((0, false, [false]), (2, true, [])), ((3, false, [false, true]), (2, false, [])), ((2, true, [false]), (2, true, [false])), ((2, true, []), (3, false, [false, true])), ((2, false, []), (3, true, [false, true])), ((3, false, [false, true]), (2, true, [])), ((3, true, [false, true]), (2, false, [])), ((2, true, []), (3, true, [false, true])), ((3, true, [false, true]), (2, true, []))]
  | true, false => [((0, false, []), (0, false, [])), ((3, false, [true]), (0, false, [])), ((0, false, []), (3, false, [true])), ((3, true, [true]), (0, false, [])), ((3, false, [true]), (3, false, [true])), ((3, false, []), (0, false, [false])), ((0, false, []), (3, true, [true])), ((1, false, [true]), (3, false, [])), ((3, true, [true]), (3, false, [true])), ((3, true, []), (0, false, [false])), ((3, false, [true]), (3, true, [true])), ((3, false, []), (1, false, [true])), ((3, false, []), (3, false, [false, true])), ((1, false, [true]), (3, true, [])), ((2, false, [true, false]), (3, false, [])), ((1, false, []), (1, false, [])), ((3, true, [true]), (3, true, [true])), ((3, true, []), (1, false, [true])), ((3, true, []), (3, false, [false, true])), ((3, false, []), (2, false, [true, false])), ((3, false, []), (3, true, [false, true])), ((2, false, [true, false]), (3, true, [])), ((1, false, []), (2, false, [false])), ((2, true, [true, false]), (3, false, [])), ((2, false, [false]), (1, false, [])), ((3, true, []), (2, false, [true, false])), ((3, true, []), (3, true, [false, true])), ((3, false, []), (2, true, [true, false])), ((2, true, [true, false]), (3, true, [])), ((2, false, [false]), (2, false, [false])), ((1, false, []), (2, true, [false])), ((0, false, [false]), (2, false, [])), ((2, true, [false]), (1, false, [])), ((2, false, []), (0, false, [false])), ((3, true, []), (2, true, [true, false])), ((2, true, [false]), (2, false, [false])), ((2, false, [false]), (2, true, [false])), ((0, false, [false]), (2, true, [])), ((3, false, [false, true]), (2, false, [])), ((2, true, []), (0, false, [false])), ((2, false, []), (3, false, [false, true])), ((2, true, [false]), (2, true, [false])), ((3, false, [false, true]), (2, true, [])), ((3, true, [false, true]), (2, false, [])), ((2, true, []), (3, false, [false, true])), ((2, false, []), (3, true, [false, true])), ((3, true, [false, true]), (2, true, [])), ((2, true, []), (3, true, [false, true]))]
  | true, true => [((0, false, []), (0, false, [])), ((3, false, [true]), (0, false, [])), ((0, false, []), (3, false, [true])), ((3, true, [true]), (0, false, [])), ((3, false, [true]), (3, false, [true])), ((3, false, []), (1, false, [true])), ((0, false, []), (3, true, [true])), ((1, false, [true]), (3, false, [])), ((3, true, [true]), (3, false, [true])), ((3, true, []), (1, false, [true])), ((3, false, [true]), (3, true, [true])), ((3, false, []), (2, false, [true, false])), ((1, false, []), (1, false, [])), ((1, false, [true]), (3, true, [])), ((2, false, [true, false]), (3, false, [])), ((3, true, [true]), (3, true, [true])), ((3, true, []), (2, false, [true, false])), ((2, false, [false]), (1, false, [])), ((3, false, []), (2, true, [true, false])), ((1, false, []), (2, false, [false])), ((2, false, [true, false]), (3, true, [])), ((2, true, [true, false]), (3, false, [])), ((3, true, []), (2, true, [true, false])), ((2, false, [false]), (2, false, [false])), ((2, true, [false]), (1, false, [])), ((2, false, []), (0, false, [false])), ((1, false, []), (2, true, [false])), ((0, false, [false]), (2, false, [])), ((2, true, [true, false]), (3, true, [])), ((2, false, [false]), (2, true, [false])), ((2, true, [false]), (2, false, [false])), ((2, true, []), (0, false, [false])), ((2, false, []), (3, false, [false, true])), ((0, false, [false]), (2, true, [])), ((3, false, [false, true]), (2, false, [])), ((2, true, [false]), (2, true, [false])), ((2, true, []), (3, false, [false, true])), ((2, false, []), (3, true, [false, true])), ((3, false, [false, true]), (2, true, [])), ((3, true, [false, true]), (2, false, [])), ((2, true, []), (3, true, [false, true])), ((3, true, [false, true]), (2, true, []))]

def has (l : List St) (s : St) : Bool := l.any fun x => decide (x = s)
def goodS (s : Sd) : Bool := decide (0 ≤ s.1) && decide (s.1 ≤ 3) && (!s.2.1 || decide (2 ≤ s.1)) && Nat.ble s.2.2.length 2
def right1 (s : St) : Bool := match s.2.2.2 with | [] => true | b :: _ => !(decide (s.1.1 = 2) && b)
def right2 (s : St) : Bool := match s.1.2.2 with | [] => true | b :: _ => !(decide (s.2.1 = 2) && b)
def calmS (s : St) : Bool := !stillS s || (decide (s.1.1 = s.2.1) && (decide (s.1.1 = 0) || decide (s.1.1 = 1)) && !s.1.2.1 && !s.2.2.1)
/-- How many verbs may still be heard. -/
def pot (g1 g2 : Bool) : Nat → St → Nat
  | 0, _ => 0
  | n + 1, s => max (match s.2.2.2 with | [] => 0 | _ => pot g1 g2 n (sHear1 g1 s) + 1) (match s.1.2.2 with | [] => 0 | _ => pot g1 g2 n (sHear2 g2 s) + 1)
def swp (s : St) : St := (s.2, s.1)
def okS (g1 g2 : Bool) (s : St) : Bool :=
  goodS s.1 && right1 s && calmS s && (s.2.2.2.isEmpty || Nat.ble (pot g1 g2 7 (sHear1 g1 s) + 1) (pot g1 g2 7 s)) && Nat.ble (pot g1 g2 7 (sAsk1 false s)) (pot g1 g2 7 s + 2) && Nat.ble (pot g1 g2 7 (sAsk1 true s)) (pot g1 g2 7 s + 2) &&
  has (reach g1 g2) (sAsk1 false s) && has (reach g1 g2) (sAsk1 true s) && has (reach g1 g2) (sHear1 g1 s) && has (reach g2 g1) (swp s) && Nat.beq (pot g2 g1 7 (swp s)) (pot g1 g2 7 s)

theorem closed (g1 g2 : Bool) : (reach g1 g2).all (okS g1 g2) = true := by
  cases g1 <;> cases g2 <;> kernel_rfl

theorem has_mem {l : List St} {s : St} (h : has l s = true) : s ∈ l := by
  simp only [has, List.any_eq_true, decide_eq_true_eq] at h
  obtain ⟨x, h1, rfl⟩ := h
  exact h1

structure OkS (g1 g2 : Bool) (s : St) : Prop where
  s1 : goodS s.1 = true
  r1 : right1 s = true
  calm : calmS s = true
  down : s.2.2.2 ≠ [] → pot g1 g2 7 (sHear1 g1 s) + 1 ≤ pot g1 g2 7 s
  up : ∀ on, pot g1 g2 7 (sAsk1 on s) ≤ pot g1 g2 7 s + 2
  a1 : ∀ on, sAsk1 on s ∈ reach g1 g2
  h1 : sHear1 g1 s ∈ reach g1 g2
  sw : swp s ∈ reach g2 g1
  sp : pot g2 g1 7 (swp s) = pot g1 g2 7 s

theorem OkS.of {g1 g2 : Bool} {s : St} (h : s ∈ reach g1 g2) : OkS g1 g2 s := by
  have := List.all_eq_true.1 (closed g1 g2) s h
  simp only [okS, Bool.and_eq_true, Bool.or_eq_true, Nat.ble_eq, Nat.beq_eq] at this
  obtain ⟨⟨⟨⟨⟨⟨⟨⟨⟨⟨b1, b2⟩, b3⟩, b4⟩, b5⟩, b6⟩, b7⟩, b8⟩, b9⟩, c1⟩, c2⟩ := this
  refine ⟨b1, b2, b3, fun hs => ?_, fun on => ?_, fun on => ?_, has_mem b9, has_mem c1, c2⟩
  · rcases b4 with h | h
    · cases hq : s.2.2.2 with
      | nil => exact absurd hq hs
      | cons x r => rw [hq] at h; cases h
    · exact h
  · cases on
    · exact b5
    · exact b6
  · cases on
    · exact has_mem b7
    · exact has_mem b8

/-- The place of which a verb tells. -/
def pv (v : Int) : Nat := if v < 253 then 0 else 1
def filt (p m : Nat) (q : List (Int × Int)) : List Bool := q.filterMap fun x => if pv x.1 = p ∧ x.2.toNat = m then some (frB x.1) else none
def inst (d m : Nat) (K1 : Ix → Int) (O1 : Ix → Bool) (q1 : List (Int × Int)) (K2 : Ix → Int) (O2 : Ix → Bool) (q2 : List (Int × Int)) : St := ((K1 [d, m], O1 [d, m], filt d m q1), (K2 [1 - d, m], O2 [1 - d, m], filt (1 - d) m q2))
def snd1 (vb on : Int) : List (Int × Int) := if vb = 0 then [] else [(vb, on)]
def okQ (q : List (Int × Int)) : Prop := ∀ x ∈ q, vrb x.1 = true ∧ inO x.2 = true

theorem filt_app (p m : Nat) (a b : List (Int × Int)) : filt p m (a ++ b) = filt p m a ++ filt p m b := by simp [filt]
theorem filt_cons_yes {p m : Nat} {v on : Int} {r : List (Int × Int)} (h1 : pv v = p) (h2 : on.toNat = m) : filt p m ((v, on) :: r) = frB v :: filt p m r := by
  simp [filt, h1, h2]
theorem filt_cons_no {p m : Nat} {v on : Int} {r : List (Int × Int)} (h : ¬ (pv v = p ∧ on.toNat = m)) : filt p m ((v, on) :: r) = filt p m r := by
  simp only [filt, List.filterMap_cons, if_neg h]
theorem verb_pv {p : Nat} (hp : p < 2) {z : Int} (hz : z = 1 ∨ z = 2) : pv (verbV p z) = p ∧ frB (verbV p z) = decide (z = 1) ∧ verbV p z ≠ 0 ∧ vrb (verbV p z) = true := by
  rcases (by omega : p = 0 ∨ p = 1) with rfl | rfl <;> rcases hz with rfl | rfl <;> decide
theorem filt_snd {p : Nat} (hp : p < 2) {z : Int} (hz : z = 0 ∨ z = 1 ∨ z = 2) (on : Int) (q : List (Int × Int)) : filt p on.toNat (q ++ snd1 (verbV p z) on) = sendL z (filt p on.toNat q) := by
  rw [filt_app]
  rcases hz with rfl | hz
  · simp [snd1, verbV, sendL, filt]
  · obtain ⟨h1, h2, h3, _⟩ := verb_pv hp hz
    have hz0 : z ≠ 0 := by omega
    have : filt p on.toNat (snd1 (verbV p z) on) = [frB (verbV p z)] := by
      unfold snd1
      rw [if_neg h3, filt_cons_yes h1 rfl]
      rfl
    rw [this, h2]
    simp only [sendL, if_neg hz0]
theorem filt_snd_other {p d m : Nat} {z : Int} (hp : p < 2) (hz : z = 0 ∨ z = 1 ∨ z = 2) (on : Int) (q : List (Int × Int)) (hne : ¬ (p = d ∧ on.toNat = m)) : filt d m (q ++ snd1 (verbV p z) on) = filt d m q := by
  rw [filt_app]
  rcases hz with rfl | hz
  · simp [snd1, verbV, filt]
  · obtain ⟨h1, h2, h3, _⟩ := verb_pv hp hz
    have : filt d m (snd1 (verbV p z) on) = [] := by
      unfold snd1
      rw [if_neg h3, filt_cons_no (by rw [h1]; exact hne)]
      rfl
    rw [this, List.append_nil]
theorem okQ_snd {p : Nat} {z on : Int} {q : List (Int × Int)} (hp : p < 2) (hz : z = 0 ∨ z = 1 ∨ z = 2) (hon : inO on = true) (h : okQ q) : okQ (q ++ snd1 (verbV p z) on) := by
  intro x hx
  rcases List.mem_append.1 hx with hx | hx
  · exact h x hx
  · unfold snd1 at hx
    split at hx
    · cases hx
    · rename_i hne
      simp only [List.mem_cons, List.not_mem_nil, or_false] at hx
      subst hx
      rcases hz with rfl | hz
      · exact absurd (by simp [verbV]) hne
      · exact ⟨(verb_pv hp hz).2.2.2, hon⟩

def sm (f : Nat → Nat) : Nat → Nat
  | 0 => 0
  | n + 1 => sm f n + f n
theorem sm_same {f g : Nat → Nat} : ∀ {n : Nat}, (∀ m, m < n → f m = g m) → sm f n = sm g n
  | 0, _ => rfl
  | n + 1, h => by
    have h1 := sm_same (f := f) (g := g) (n := n) (fun m hm => h m (by omega))
    have h2 := h n (by omega)
    simp only [sm]; omega
theorem sm_one {f g : Nat → Nat} {m0 : Nat} : ∀ {n : Nat}, m0 < n → (∀ m, m < n → m ≠ m0 → f m = g m) → sm f n + g m0 = sm g n + f m0
  | 0, h, _ => by omega
  | n + 1, h, hh => by
    simp only [sm]
    by_cases hm : m0 = n
    · subst hm
      rw [sm_same (f := f) (g := g) (fun m h1 => hh m (by omega) (by omega))]; omega
    · have := sm_one (f := f) (g := g) (m0 := m0) (n := n) (by omega) (fun m h1 h2 => hh m (by omega) h2)
      rw [hh n (by omega) (by omega)]
      omega
theorem sm_pos {f : Nat → Nat} : ∀ {n m : Nat}, m < n → f m ≤ sm f n
  | 0, m, h => by omega
  | n + 1, m, h => by
    simp only [sm]
    by_cases hm : m = n
    · subst hm; omega
    · have := sm_pos (f := f) (n := n) (m := m) (by omega); omega

def totF (A1 A2 : Ix → Bool) (K1 : Ix → Int) (O1 : Ix → Bool) (q1 : List (Int × Int)) (K2 : Ix → Int) (O2 : Ix → Bool) (q2 : List (Int × Int)) (m : Nat) : Nat := pot (A1 [0, m]) (A2 [1, m]) 7 (inst 0 m K1 O1 q1 K2 O2 q2) + pot (A1 [1, m]) (A2 [0, m]) 7 (inst 1 m K1 O1 q1 K2 O2 q2)

structure TI (A1 A2 : Ix → Bool) (K1 : Ix → Int) (O1 : Ix → Bool) (q1 : List (Int × Int)) (K2 : Ix → Int) (O2 : Ix → Bool) (q2 : List (Int × Int)) (t : Nat) : Prop where
  re : ∀ d, d < 2 → ∀ m, m < 256 → inst d m K1 O1 q1 K2 O2 q2 ∈ reach (A1 [d, m]) (A2 [1 - d, m])
  v1 : okQ q1
  v2 : okQ q2
  tot : sm (totF A1 A2 K1 O1 q1 K2 O2 q2) 256 ≤ t

theorem inst_swp (d m : Nat) (hd : d < 2) {K1 : Ix → Int} {O1 : Ix → Bool} {q1 : List (Int × Int)} {K2 : Ix → Int} {O2 : Ix → Bool} {q2 : List (Int × Int)} : inst d m K2 O2 q2 K1 O1 q1 = swp (inst (1 - d) m K1 O1 q1 K2 O2 q2) := by
  rcases (by omega : d = 0 ∨ d = 1) with rfl | rfl <;> rfl

theorem TI.swap {A1 A2 : Ix → Bool} {K1 : Ix → Int} {O1 : Ix → Bool} {q1 : List (Int × Int)} {K2 : Ix → Int} {O2 : Ix → Bool} {q2 : List (Int × Int)} {t : Nat} (I : TI A1 A2 K1 O1 q1 K2 O2 q2 t) : TI A2 A1 K2 O2 q2 K1 O1 q1 t := by
  refine ⟨fun d hd m hm => ?_, I.v2, I.v1, ?_⟩
  · rw [inst_swp d m hd]
    have := (OkS.of (I.re (1 - d) (by omega) m hm)).sw
    rw [show 1 - (1 - d) = d by omega] at this
    exact this
  · refine Nat.le_trans (Nat.le_of_eq (sm_same fun m hm => ?_)) I.tot
    have e0 := (OkS.of (I.re 0 (by omega) m hm)).sp
    have e1 := (OkS.of (I.re 1 (by omega) m hm)).sp
    simp only [totF, inst_swp 0 m (by omega) (K1 := K1), inst_swp 1 m (by omega) (K1 := K1)]
    simp only [Nat.sub_zero, Nat.sub_self] at e0 e1 ⊢
    rw [e0, e1, Nat.add_comm]

theorem sdN_pv {v : Int} : pv v = 1 - sdN v ∧ sdN v < 2 := by unfold pv sdN; split <;> omega
theorem upP {α : Type} (f : Ix → α) (p : Nat) (n : Int) (x : α) : uP f p n x [p, n.toNat] = x := by simp [uP, upd]
theorem upP_no {α : Type} (f : Ix → α) {p d m : Nat} {n : Int} (x : α) (h : ¬ (p = d ∧ n.toNat = m)) : uP f p n x [d, m] = f [d, m] := by
  have : ¬ ([d, m] : Ix) = [p, n.toNat] := by intro hh; simp only [List.cons.injEq, and_true] at hh; exact h ⟨hh.1.symm, hh.2.symm⟩
  simp only [uP, upd, if_neg this]
theorem inO_lt {on : Int} (h : inO on = true) : on.toNat < 256 := by simp only [inO, Bool.and_eq_true, decide_eq_true_eq] at h; omega
theorem hearS_z (k : Int) (o is g : Bool) : hearS k o is g = 0 ∨ hearS k o is g = 1 ∨ hearS k o is g = 2 := by
  unfold hearS; (repeat' split) <;> simp
theorem askS_z (k : Int) (o on : Bool) : askS k o on = 0 ∨ askS k o on = 1 ∨ askS k o on = 2 := by
  unfold askS; (repeat' split) <;> simp
theorem good_rt {k : Int} {o : Bool} {q : List Bool} (h : goodS (k, o, q) = true) : rtB k o = true := by
  simp only [goodS, Bool.and_eq_true] at h
  simp only [rtB, Bool.and_eq_true]
  exact h.1
theorem TI.right {A1 A2 : Ix → Bool} {K1 : Ix → Int} {O1 : Ix → Bool} {q1 : List (Int × Int)} {K2 : Ix → Int} {O2 : Ix → Bool} {q2 : List (Int × Int)} {t : Nat} (I : TI A1 A2 K1 O1 q1 K2 O2 q2 t) {d m : Nat} (hd : d < 2) (hm : m < 256) : rtB (K1 [d, m]) (O1 [d, m]) = true :=
  good_rt (OkS.of (I.re d hd m hm)).s1

/-- One place changes: what comes of all. -/
theorem TI.step {A1 A2 : Ix → Bool} {K1 : Ix → Int} {O1 : Ix → Bool} {q1 : List (Int × Int)} {K2 : Ix → Int} {O2 : Ix → Bool} {q2 : List (Int × Int)} {t t' : Nat} (I : TI A1 A2 K1 O1 q1 K2 O2 q2 t)
    {K1' : Ix → Int} {O1' : Ix → Bool} {q1' q2' : List (Int × Int)} {p m : Nat} (hp : p < 2) (hm : m < 256)
    (h1 : inst p m K1' O1' q1' K2 O2 q2' ∈ reach (A1 [p, m]) (A2 [1 - p, m]))
    (h2 : ∀ d n, d < 2 → ¬ (p = d ∧ m = n) → inst d n K1' O1' q1' K2 O2 q2' = inst d n K1 O1 q1 K2 O2 q2)
    (v1 : okQ q1') (v2 : okQ q2')
    (ht : pot (A1 [p, m]) (A2 [1 - p, m]) 7 (inst p m K1' O1' q1' K2 O2 q2') + t ≤ t' + pot (A1 [p, m]) (A2 [1 - p, m]) 7 (inst p m K1 O1 q1 K2 O2 q2)) : TI A1 A2 K1' O1' q1' K2 O2 q2' t' := by
  refine ⟨fun d hd n hn => ?_, v1, v2, ?_⟩
  · by_cases h : p = d ∧ m = n
    · obtain ⟨rfl, rfl⟩ := h; exact h1
    · rw [h2 d n hd h]; exact I.re d hd n hn
  · have hs := sm_one (f := totF A1 A2 K1' O1' q1' K2 O2 q2') (g := totF A1 A2 K1 O1 q1 K2 O2 q2) (m0 := m) (n := 256) hm (fun n _ hne => by
      simp only [totF, h2 0 n (by omega) (fun h => hne h.2.symm), h2 1 n (by omega) (fun h => hne h.2.symm)])
    have hl := I.tot
    have hf : totF A1 A2 K1' O1' q1' K2 O2 q2' m + pot (A1 [p, m]) (A2 [1 - p, m]) 7 (inst p m K1 O1 q1 K2 O2 q2) = totF A1 A2 K1 O1 q1 K2 O2 q2 m + pot (A1 [p, m]) (A2 [1 - p, m]) 7 (inst p m K1' O1' q1' K2 O2 q2') := by
      rcases (by omega : p = 0 ∨ p = 1) with rfl | rfl
      · simp only [totF, h2 1 m (by omega) (by omega)]; simp only [Nat.sub_zero]; omega
      · simp only [totF, h2 0 m (by omega) (by omega)]; simp only [Nat.sub_self]; omega
    omega

theorem TI.hear {A1 A2 : Ix → Bool} {K1 : Ix → Int} {O1 : Ix → Bool} {q1 : List (Int × Int)} {K2 : Ix → Int} {O2 : Ix → Bool} {r : List (Int × Int)} {v on : Int} {t : Nat} (I : TI A1 A2 K1 O1 q1 K2 O2 ((v, on) :: r) t) :
    1 ≤ t ∧ vrb v = true ∧ inO on = true ∧ rtB (K1 [sdN v, on.toNat]) (O1 [sdN v, on.toNat]) = true ∧ hearW (K1 [sdN v, on.toNat]) (frB v) = false ∧
      TI A1 A2 (uP K1 (sdN v) on (hK K1 O1 A1 v on)) (uP O1 (sdN v) on false) (q1 ++ snd1 (hV K1 O1 A1 v on) on) K2 O2 r (t - 1) := by
  obtain ⟨g1, g2⟩ : vrb v = true ∧ inO on = true := I.v2 (v, on) (by simp)
  have hm : on.toNat < 256 := inO_lt g2
  obtain ⟨hpv, hsd⟩ := sdN_pv (v := v)
  have S := OkS.of (I.re (sdN v) hsd on.toNat hm)
  have hq2 : filt (1 - sdN v) on.toNat ((v, on) :: r) = frB v :: filt (1 - sdN v) on.toNat r := filt_cons_yes hpv rfl
  have hz : hS K1 O1 A1 v on = 0 ∨ hS K1 O1 A1 v on = 1 ∨ hS K1 O1 A1 v on = 2 := hearS_z (K1 [sdN v, on.toNat]) (O1 [sdN v, on.toNat]) (frB v) (A1 [sdN v, on.toNat])
  have hne : (inst (sdN v) on.toNat K1 O1 q1 K2 O2 ((v, on) :: r)).2.2.2 ≠ [] := by simp only [inst, hq2]; simp
  have hdown := S.down hne
  have heq : inst (sdN v) on.toNat (uP K1 (sdN v) on (hK K1 O1 A1 v on)) (uP O1 (sdN v) on false) (q1 ++ snd1 (hV K1 O1 A1 v on) on) K2 O2 r = sHear1 (A1 [sdN v, on.toNat]) (inst (sdN v) on.toNat K1 O1 q1 K2 O2 ((v, on) :: r)) := by
    simp only [inst, hq2, sHear1, hearD, upP, hV]
    rw [filt_snd hsd hz]
    rfl
  have hpos := sm_pos (f := totF A1 A2 K1 O1 q1 K2 O2 ((v, on) :: r)) (n := 256) hm
  have htot := I.tot
  have hp1 : pot (A1 [sdN v, on.toNat]) (A2 [1 - sdN v, on.toNat]) 7 (inst (sdN v) on.toNat K1 O1 q1 K2 O2 ((v, on) :: r)) ≤ totF A1 A2 K1 O1 q1 K2 O2 ((v, on) :: r) on.toNat := by
    rcases (by omega : sdN v = 0 ∨ sdN v = 1) with e | e <;> rw [e] <;> simp only [totF, Nat.sub_zero, Nat.sub_self] <;> omega
  refine ⟨by omega, g1, g2, good_rt S.s1, ?_, ?_⟩
  · have hr := S.r1
    simp only [right1, inst, hq2] at hr
    simp only [hearW]
    cases hf : frB v with
    | false => rfl
    | true => rw [hf] at hr; simpa using hr
  · refine I.step (p := sdN v) (m := on.toNat) hsd hm ?_ ?_ ?_ ?_ ?_
    · rw [heq]; exact S.h1
    · intro d n hd hn
      have hn2 : ¬ (pv v = 1 - d ∧ on.toNat = n) := by rw [hpv]; intro h; exact hn ⟨by omega, h.2⟩
      simp only [inst, upP_no _ _ hn, filt_cons_no hn2, hV]
      rw [filt_snd_other hsd (by exact hz) on q1 hn]
    · exact okQ_snd hsd hz g2 I.v1
    · exact fun x hx => I.v2 x (List.mem_cons_of_mem _ hx)
    · rw [heq]; omega

theorem TI.ask {A1 A2 : Ix → Bool} {K1 : Ix → Int} {O1 : Ix → Bool} {q1 : List (Int × Int)} {K2 : Ix → Int} {O2 : Ix → Bool} {q2 : List (Int × Int)} {on : Int} {p t : Nat} (I : TI A1 A2 K1 O1 q1 K2 O2 q2 t) (hp : p < 2) (hon : inO on = true) (b : Bool) :
    TI A1 A2 (uP K1 p on (askK (K1 [p, on.toNat]) (O1 [p, on.toNat]) b)) (uP O1 p on (askO (K1 [p, on.toNat]) (O1 [p, on.toNat]) b)) (q1 ++ snd1 (verbV p (askS (K1 [p, on.toNat]) (O1 [p, on.toNat]) b)) on) K2 O2 q2 (t + 2) := by
  have hm := inO_lt hon
  have S := OkS.of (I.re p hp on.toNat hm)
  have hz := askS_z (K1 [p, on.toNat]) (O1 [p, on.toNat]) b
  have heq : inst p on.toNat (uP K1 p on (askK (K1 [p, on.toNat]) (O1 [p, on.toNat]) b)) (uP O1 p on (askO (K1 [p, on.toNat]) (O1 [p, on.toNat]) b)) (q1 ++ snd1 (verbV p (askS (K1 [p, on.toNat]) (O1 [p, on.toNat]) b)) on) K2 O2 q2 = sAsk1 b (inst p on.toNat K1 O1 q1 K2 O2 q2) := by
    simp only [inst, sAsk1, askD, upP]
    rw [filt_snd hp hz]
  have hup := S.up b
  refine I.step (p := p) (m := on.toNat) hp hm ?_ ?_ ?_ I.v2 ?_
  · rw [heq]; exact S.a1 b
  · intro d n hd hn
    simp only [inst, upP_no _ _ hn]
    rw [filt_snd_other hp hz on q1 hn]
  · exact okQ_snd hp hz hon I.v1
  · rw [heq]; omega

theorem TI.rest {A1 A2 : Ix → Bool} {K1 : Ix → Int} {O1 : Ix → Bool} {K2 : Ix → Int} {O2 : Ix → Bool} {t : Nat} (I : TI A1 A2 K1 O1 [] K2 O2 [] t) {d m : Nat} (hd : d < 2) (hm : m < 256) :
    K1 [d, m] = K2 [1 - d, m] ∧ O1 [d, m] = false ∧ O2 [1 - d, m] = false ∧ cal (K1 [d, m]) (O1 [d, m]) = true := by
  have hc := (OkS.of (I.re d hd m hm)).calm
  simp only [calmS, stillS, inst, filt, List.filterMap_nil, Bool.not_true, Bool.false_or, Bool.and_eq_true, Bool.or_eq_true, decide_eq_true_eq, Bool.not_eq_true'] at hc
  obtain ⟨⟨⟨h1, h2⟩, h3⟩, h4⟩ := hc
  refine ⟨of_decide_eq_true h1, h3, h4, ?_⟩
  simp only [cal, h3, Bool.not_false, Bool.and_true, Bool.or_eq_true]
  exact h2

theorem reach0 (g1 g2 : Bool) : ((0, false, []), (0, false, [])) ∈ reach g1 g2 := by cases g1 <;> cases g2 <;> simp [reach]
theorem sm_zero {f : Nat → Nat} : ∀ {n : Nat}, (∀ m, m < n → f m = 0) → sm f n = 0
  | 0, _ => rfl
  | n + 1, h => by
    have h1 := sm_zero (f := f) (n := n) (fun m hm => h m (by omega))
    have h2 := h n (by omega)
    simp only [sm]; omega
theorem TI.start (A1 A2 : Ix → Bool) : TI A1 A2 zI zB [] zI zB [] 0 := by
  refine ⟨fun d _ m _ => reach0 _ _, fun x hx => (by cases hx), fun x hx => (by cases hx), Nat.le_of_eq (sm_zero fun m hm => ?_)⟩
  simp only [totF]
  have : ∀ g1 g2, pot g1 g2 7 ((0, false, []), (0, false, [])) = 0 := fun g1 g2 => by cases g1 <;> cases g2 <;> rfl
  rw [show inst 0 m zI zB [] zI zB [] = ((0, false, []), (0, false, [])) from rfl, show inst 1 m zI zB [] zI zB [] = ((0, false, []), (0, false, [])) from rfl, this, this]

/-- A row as a list. -/
def qL (n : Nat) (Q : Ix → Int) : List (Int × Int) := (List.range n).map fun i => (Q [i, 0], Q [i, 1])
theorem qL_len (n : Nat) (Q : Ix → Int) : (qL n Q).length = n := by simp [qL]
theorem qL_zero (Q : Ix → Int) : qL 0 Q = [] := rfl
theorem qL_sh (n : Nat) (Q : Ix → Int) (h : 0 < n) : qL n Q = (Q [0, 0], Q [0, 1]) :: qL (n - 1) (shQ Q) := by
  obtain ⟨k, rfl⟩ : ∃ k, n = k + 1 := ⟨n - 1, by omega⟩
  simp only [qL, List.range_succ_eq_map, List.map_cons, List.map_map, Nat.add_sub_cancel]
  congr 1
  apply List.map_congr_left
  intro i _
  simp [Function.comp, shQ, Nat.add_comm]
theorem qL_snd (vb on : Int) (n : Nat) (Q : Ix → Int) : qL (sN vb n) (sQ vb on n Q) = qL n Q ++ snd1 vb on := by
  by_cases h : vb = 0
  · simp [sN, sQ, snd1, h]
  · simp only [sN, sQ, snd1, if_neg h, qL, List.range_succ, List.map_append, List.map_cons, List.map_nil]
    congr 1
    · apply List.map_congr_left
      intro i hi
      have : i < n := by simpa using hi
      simp [this]
    · simp

end Go.Proofs.YtgbgfekfcjphnaaDoor
