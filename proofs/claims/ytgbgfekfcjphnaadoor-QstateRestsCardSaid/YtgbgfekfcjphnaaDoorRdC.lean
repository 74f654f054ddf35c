/- Q states: two sides, joined: the plain law. -/
import Derived.Test.YtgbgfekfcjphnaaDoorRcC
set_option linter.unusedSimpArgs false
set_option linter.unusedVariables false
set_option maxRecDepth 100000
namespace Go.Proofs.YtgbgfekfcjphnaaDoor
open Go.Sx

abbrev Sd := Int × Bool × List Bool
abbrev St := Sd × Sd

def sendL (z : Int) (q : List Bool) : List Bool := if z = 0 then q else q ++ [decide (z = 1)]
def askD (on : Bool) (s : Sd) : Sd := (askK s.1 s.2.1 on, askO s.1 s.2.1 on, sendL (askS s.1 s.2.1 on) s.2.2)
def hearD (g b : Bool) (s : Sd) : Sd := (hearK s.1 s.2.1 b g, false, sendL (hearS s.1 s.2.1 b g) s.2.2)
def sAsk1 (on : Bool) (s : St) : St := (askD on s.1, s.2)
def sAsk2 (on : Bool) (s : St) : St := (s.1, askD on s.2)
def sHear1 (g : Bool) (s : St) : St := match s.2.2.2 with | [] => s | b :: r => (hearD g b s.1, (s.2.1, s.2.2.1, r))
def sHear2 (g : Bool) (s : St) : St := match s.1.2.2 with | [] => s | b :: r => ((s.1.1, s.1.2.1, r), hearD g b s.2)
def turn (g1 g2 : Bool) (s : St) : St := sHear2 g2 (sHear1 g1 s)
def stillS (s : St) : Bool := match s.1.2.2, s.2.2.2 with | [], [] => true | _, _ => false
def rank (g1 g2 : Bool) : Nat → St → Nat
  | 0, _ => 0
  | n + 1, s => match stillS s with | true => 0 | false => rank g1 g2 n (turn g1 g2 s) + 1

def reach : Bool → Bool → List St
  | false, false => [((0, false, []), (0, false, [])), ((3, false, [true]), (0, false, [])), ((0, false, []), (3, false, [true])), ((3, true, [true]), (0, false, [])), ((3, false, [true]), (3, false, [true])), ((3, false, []), (0, false, [false])), ((0, false, []), (3, true, [true])), ((0, false, [false]), (3, false, [])), ((3, true, [true]), (3, false, [true])), ((3, true, []), (0, false, [false])), ((3, false, [true]), (3, true, [true])), ((1, false, [true]), (3, false, [])), ((3, false, []), (1, false, [true])), ((3, false, []), (3, false, [false, true])), ((0, false, [false]), (3, true, [])), ((3, false, [false, true]), (3, false, [])), ((3, true, [true]), (3, true, [true])), ((2, false, [true, false]), (3, false, [])), ((3, true, []), (1, false, [true])), ((3, true, []), (3, false, [false, true])), ((1, false, [true]), (3, true, [])), ((3, false, []), (2, false, [true, false])), ((1, false, []), (1, false, [])), ((3, false, []), (3, true, [false, true])), ((3, false, [false, true]), (3, true, [])), ((3, true, [false, true]), (3, false, [])), ((2, false, [true, false]), (3, true, [])), ((3, true, []), (2, false, [true, false])), ((2, true, [true, false]), (3, false, [])), ((2, false, [false]), (1, false, [])), ((3, true, []), (3, true, [false, true])), ((1, false, []), (2, false, [false])), ((3, false, []), (2, true, [true, false])), ((3, true, [false, true]), (3, true, [])), ((2, true, [true, false]), (3, true, [])), ((2, false, [false]), (2, false, [false])), ((3, true, []), (2, true, [true, false])), ((2, true, [false]), (1, false, [])), ((2, false, []), (0, false, [false])), ((1, false, []), (2, true, [false])), ((0, false, [false]), (2, false, [])), ((2, true, [false]), (2, false, [false])), ((2, false, [false]), (2, true, [false])), ((2, true, []), (0, false, [false])), ((2, false, []), (3, false, [false, true])), ((0, false, [false]), (2, true, [])), ((3, false, [false, true]), (2, false, [])), ((2, true, [false]), (2, true, [false])), ((2, true, []), (3, false, [false, true])), ((2, false, []), (3, true, [false, true])), ((3, false, [false, true]), (2, true, [])), ((3, true, [false, true]), (2, false, [])), ((2, true, []), (3, true, [false, true])), ((3, true, [false, true]), (2, true, []))]
  | false, true => [((0, false, []), (0, false, [])), ((3, false, [true]), (0, false, [])), ((0, false, []), (3, false, [true])), ((3, true, [true]), (0, false, [])), ((3, false, [true]), (3, false, [true])), ((3, false, []), (1, false, [true])), ((0, false, []), (3, true, [true])), ((0, false, [false]), (3, false, [])), ((3, true, [true]), (3, false, [true])), ((3, true, []), (1, false, [true])), ((3, false, [true]), (3, true, [true])), ((1, false, [true]), (3, false, [])), ((3, false, []), (2, false, [true, false])), ((1, false, []), (1, false, [])), ((0, false, [false]), (3, true, [])), ((3, false, [false, true]), (3, false, [])), ((3, true, [true]), (3, true, [true])), ((2, false, [true, false]), (3, false, [])), ((3, true, []), (2, false, [true, false])), ((2, false, [false]), (1, false, [])), ((1, false, [true]), (3, true, [])), ((3, false, []), (2, true, [true, false])), ((1, false, []), (2, false, [false])), ((3, false, [false, true]), (3, true, [])), ((3, true, [false, true]), (3, false, [])), ((2, false, [true, false]), (3, true, [])), ((2, true, [true, false]), (3, false, [])), ((3, true, []), (2, true, [true, false])), ((2, false, [false]), (2, false, [false])), ((2, true, [false]), (1, false, [])), ((2, false, []), (0, false, [false])), ((1, false, []), (2, true, [false])), ((0, false, [false]), (2, false, [])), ((3, true, [false, true]), (3, true, [])), ((2, true, [true, false]), (3, true, [])), ((2, false, [false]), (2, true, [false])), ((2, true, [false]), (2, false, [false])), ((2, true, []), (0, false, [false])), ((2, false, []), (3, false, [false, true])), ((0, false, [false]), (2, true, [])), ((3, false, [false, true]), (2, false, [])), ((2, true, [false]), (2, true, [false])), ((2, true, []), (3, false, [false, true])), ((2, false, []), (3, true, [false, true])), ((3, false, [false, true]), (2, true, [])), ((3, true, [false, true]), (2, false, [])), ((2, true, []), (3, true, [false, true])), ((3, true, [false, true]), (2, true, []))]
  | true, false => [((0, false, []), (0, false, [])), ((3, false, [true]), (0, false, [])), ((0, false, []), (3, false, [true])), ((3, true, [true]), (0, false, [])), ((3, false, [true]), (3, false, [true])), ((3, false, []), (0, false, [false])), ((0, false, []), (3, true, [true])), ((1, false, [true]), (3, false, [])), ((3, true, [true]), (3, false, [true])), ((3, true, []), (0, false, [false])), ((3, false, [true]), (3, true, [true])), ((3, false, []), (1, false, [true])), ((3, false, []), (3, false, [false, true])), ((1, false, [true]), (3, true, [])), ((2, false, [true, false]), (3, false, [])), ((1, false, []), (1, false, [])), ((3, true, [true]), (3, true, [true])), ((3, true, []), (1, false, [true])), ((3, true, []), (3, false, [false, true])), ((3, false, []), (2, false, [true, false])), ((3, false, []), (3, true, [false, true])), ((2, false, [true, false]), (3, true, [])), ((1, false, []), (2, false, [false])), ((2, true, [true, false]), (3, false, [])), ((2, false, [false]), (1, false, [])), ((3, true, []), (2, false, [true, false])), ((3, true, []), (3, true, [false, true])), ((3, false, []), (2, true, [true, false])), ((2, true, [true, false]), (3, true, [])), ((2, false, [false]), (2, false, [false])), ((1, false, []), (2, true, [false])), ((0, false, [false]), (2, false, [])), ((2, true, [false]), (1, false, [])), ((2, false, []), (0, false, [false])), ((3, true, []), (2, true, [true, false])), ((2, true, [false]), (2, false, [false])), ((2, false, [false]), (2, true, [false])), ((0, false, [false]), (2, true, [])), ((3, false, [false, true]), (2, false, [])), ((2, true, []), (0, false, [false])), ((2, false, []), (3, false, [false, true])), ((2, true, [false]), (2, true, [false])), ((3, false, [false, true]), (2, true, [])), ((3, true, [false, true]), (2, false, [])), ((2, true, []), (3, false, [false, true])), ((2, false, []), (3, true, [false, true])), ((3, true, [false, true]), (2, true, [])), ((2, true, []), (3, true, [false, true]))]
  | true, true => [((0, false, []), (0, false, [])), ((3, false, [true]), (0, false, [])), ((0, false, []), (3, false, [true])), ((3, true, [true]), (0, false, [])), ((3, false, [true]), (3, false, [true])), ((3, false, []), (1, false, [true])), ((0, false, []), (3, true, [true])), ((1, false, [true]), (3, false, [])), ((3, true, [true]), (3, false, [true])), ((3, true, []), (1, false, [true])), ((3, false, [true]), (3, true, [true])), ((3, false, []), (2, false, [true, false])), ((1, false, []), (1, false, [])), ((1, false, [true]), (3, true, [])), ((2, false, [true, false]), (3, false, [])), ((3, true, [true]), (3, true, [true])), ((3, true, []), (2, false, [true, false])), ((2, false, [false]), (1, false, [])), ((3, false, []), (2, true, [true, false])), ((1, false, []), (2, false, [false])), ((2, false, [true, false]), (3, true, [])), ((2, true, [true, false]), (3, false, [])), ((3, true, []), (2, true, [true, false])), ((2, false, [false]), (2, false, [false])), ((2, true, [false]), (1, false, [])), ((2, false, []), (0, false, [false])), ((1, false, []), (2, true, [false])), ((0, false, [false]), (2, false, [])), ((2, true, [true, false]), (3, true, [])), ((2, false, [false]), (2, true, [false])), ((2, true, [false]), (2, false, [false])), ((2, true, []), (0, false, [false])), ((2, false, []), (3, false, [false, true])), ((0, false, [false]), (2, true, [])), ((3, false, [false, true]), (2, false, [])), ((2, true, [false]), (2, true, [false])), ((2, true, []), (3, false, [false, true])), ((2, false, []), (3, true, [false, true])), ((3, false, [false, true]), (2, true, [])), ((3, true, [false, true]), (2, false, [])), ((2, true, []), (3, true, [false, true])), ((3, true, [false, true]), (2, true, []))]

def has (l : List St) (s : St) : Bool := l.any fun x => decide (x = s)
def goodS (s : Sd) : Bool := decide (0 ≤ s.1) && decide (s.1 ≤ 3) && (!s.2.1 || decide (2 ≤ s.1)) && Nat.ble s.2.2.length 2
def right1 (s : St) : Bool := match s.2.2.2 with | [] => true | b :: _ => !(decide (s.1.1 = 2) && b)
def right2 (s : St) : Bool := match s.1.2.2 with | [] => true | b :: _ => !(decide (s.2.1 = 2) && b)
def calmS (s : St) : Bool := !stillS s || (decide (s.1.1 = s.2.1) && (decide (s.1.1 = 0) || decide (s.1.1 = 1)) && !s.1.2.1 && !s.2.2.1)
def okS (g1 g2 : Bool) (s : St) : Bool :=
  goodS s.1 && goodS s.2 && right1 s && right2 s && right2 (sHear1 g1 s) && calmS s && Nat.ble (rank g1 g2 6 s) 4 && (stillS s || Nat.ble (rank g1 g2 6 (turn g1 g2 s) + 1) (rank g1 g2 6 s)) &&
  has (reach g1 g2) (sAsk1 false s) && has (reach g1 g2) (sAsk1 true s) && has (reach g1 g2) (sAsk2 false s) && has (reach g1 g2) (sAsk2 true s) && has (reach g1 g2) (sHear1 g1 s) && has (reach g1 g2) (sHear2 g2 s)

theorem closed (g1 g2 : Bool) : (reach g1 g2).all (okS g1 g2) = true := by
  cases g1 <;> cases g2 <;> kernel_rfl

theorem has_mem {l : List St} {s : St} (h : has l s = true) : s ∈ l := by
  simp only [has, List.any_eq_true, decide_eq_true_eq] at h
  obtain ⟨x, h1, rfl⟩ := h
  exact h1

structure OkS (g1 g2 : Bool) (s : St) : Prop where
  s1 : goodS s.1 = true
  s2 : goodS s.2 = true
  r1 : right1 s = true
  r2 : right2 s = true
  r3 : right2 (sHear1 g1 s) = true
  calm : calmS s = true
  low : rank g1 g2 6 s ≤ 4
  down : stillS s = false → rank g1 g2 6 (turn g1 g2 s) + 1 ≤ rank g1 g2 6 s
  a1 : ∀ on, sAsk1 on s ∈ reach g1 g2
  a2 : ∀ on, sAsk2 on s ∈ reach g1 g2
  h1 : sHear1 g1 s ∈ reach g1 g2
  h2 : sHear2 g2 s ∈ reach g1 g2

theorem OkS.of {g1 g2 : Bool} {s : St} (h : s ∈ reach g1 g2) : OkS g1 g2 s := by
  have := List.all_eq_true.1 (closed g1 g2) s h
  simp only [okS, Bool.and_eq_true, Bool.or_eq_true, Nat.ble_eq] at this
  obtain ⟨⟨⟨⟨⟨⟨⟨⟨⟨⟨⟨⟨⟨b1, b2⟩, b3⟩, b4⟩, b5⟩, b6⟩, b7⟩, b8⟩, b9⟩, c1⟩, c2⟩, c3⟩, c4⟩, c5⟩ := this
  refine ⟨b1, b2, b3, b4, b5, b6, b7, fun hs => ?_, fun on => ?_, fun on => ?_, has_mem c4, has_mem c5⟩
  · rcases b8 with h | h
    · rw [hs] at h; cases h
    · exact h
  · cases on
    · exact has_mem b9
    · exact has_mem c1
  · cases on
    · exact has_mem c2
    · exact has_mem c3

def ql (n : Nat) (Q : Ix → Bool) : List Bool := (List.range n).map fun i => Q [i]
theorem ql_len (n : Nat) (Q : Ix → Bool) : (ql n Q).length = n := by simp [ql]
theorem ql_send (z : Int) (n : Nat) (Q : Ix → Bool) : ql (sentN z n) (sentQ z n Q) = sendL z (ql n Q) := by
  unfold sendL
  by_cases hz : z = 0
  · simp [sentN, sentQ, hz]
  · simp only [sentN, sentQ, if_neg hz, ql, List.range_succ, List.map_append, List.map_cons, List.map_nil, Nat.lt_irrefl, if_false]
    congr 1
    apply List.map_congr_left
    intro i hi
    rw [List.mem_range] at hi
    simp [hi]
theorem ql_sh (n : Nat) (Q : Ix → Bool) (h : 0 < n) : ql n Q = Q [0] :: ql (n - 1) (shQ Q) := by
  cases n with
  | zero => omega
  | succ n =>
    simp only [ql, Nat.add_sub_cancel, List.range_succ_eq_map, List.map_cons, List.map_map]
    congr 1
    apply List.map_congr_left
    intro i _
    simp [shQ, Nat.add_comm]

def enc (k1 : Int) (o1 : Bool) (n1 : Nat) (Q1 : Ix → Bool) (k2 : Int) (o2 : Bool) (n2 : Nat) (Q2 : Ix → Bool) : St := ((k1, o1, ql n1 Q1), (k2, o2, ql n2 Q2))

section
variable {k1 : Int} {o1 : Bool} {n1 : Nat} {Q1 : Ix → Bool} {g1 : Bool} {k2 : Int} {o2 : Bool} {n2 : Nat} {Q2 : Ix → Bool} {g2 : Bool}

structure Ok1 (k : Int) (o : Bool) (n : Nat) : Prop where
  lo : 0 ≤ k
  hi : k ≤ 3
  opp : o = true → 2 ≤ k
  len : n ≤ 2

theorem good_ok {k : Int} {o : Bool} {n : Nat} {Q : Ix → Bool} (h : goodS (k, o, ql n Q) = true) : Ok1 k o n := by
  simp only [goodS, Bool.and_eq_true, decide_eq_true_eq, Bool.or_eq_true, Bool.not_eq_true', ql_len, Nat.ble_eq] at h
  obtain ⟨⟨⟨h1, h2⟩, h3⟩, h4⟩ := h
  exact ⟨h1, h2, fun ho => by rcases h3 with h | h; · rw [ho] at h; cases h
                              · exact h, h4⟩

theorem right1_ok (h : right1 (enc k1 o1 n1 Q1 k2 o2 n2 Q2) = true) (hn : 0 < n2) : k1 = 2 → Q2 [0] = false := by
  intro hk
  simp only [right1, enc, ql_sh n2 Q2 hn, hk, decide_true, Bool.true_and, Bool.not_eq_true'] at h
  exact h
theorem right2_ok (h : right2 (enc k1 o1 n1 Q1 k2 o2 n2 Q2) = true) (hn : 0 < n1) : k2 = 2 → Q1 [0] = false := by
  intro hk
  simp only [right2, enc, ql_sh n1 Q1 hn, hk, decide_true, Bool.true_and, Bool.not_eq_true'] at h
  exact h

theorem enc_ask1 (on : Bool) : enc (askK k1 o1 on) (askO k1 o1 on) (sentN (askS k1 o1 on) n1) (sentQ (askS k1 o1 on) n1 Q1) k2 o2 n2 Q2 = sAsk1 on (enc k1 o1 n1 Q1 k2 o2 n2 Q2) := by
  simp only [enc, sAsk1, askD, ql_send]
theorem enc_ask2 (on : Bool) : enc k1 o1 n1 Q1 (askK k2 o2 on) (askO k2 o2 on) (sentN (askS k2 o2 on) n2) (sentQ (askS k2 o2 on) n2 Q2) = sAsk2 on (enc k1 o1 n1 Q1 k2 o2 n2 Q2) := by
  simp only [enc, sAsk2, askD, ql_send]
theorem enc_hear1 (hn : 0 < n2) : enc (hearK k1 o1 (Q2 [0]) g1) false (sentN (hearS k1 o1 (Q2 [0]) g1) n1) (sentQ (hearS k1 o1 (Q2 [0]) g1) n1 Q1) k2 o2 (n2 - 1) (shQ Q2) = sHear1 g1 (enc k1 o1 n1 Q1 k2 o2 n2 Q2) := by
  simp only [sHear1, enc, ql_sh n2 Q2 hn, hearD, ql_send]
theorem enc_hear2 (hn : 0 < n1) : enc k1 o1 (n1 - 1) (shQ Q1) (hearK k2 o2 (Q1 [0]) g2) false (sentN (hearS k2 o2 (Q1 [0]) g2) n2) (sentQ (hearS k2 o2 (Q1 [0]) g2) n2 Q2) = sHear2 g2 (enc k1 o1 n1 Q1 k2 o2 n2 Q2) := by
  simp only [sHear2, enc, ql_sh n1 Q1 hn, hearD, ql_send]
theorem hear1_none (hn : n2 = 0) : sHear1 g1 (enc k1 o1 n1 Q1 k2 o2 n2 Q2) = enc k1 o1 n1 Q1 k2 o2 n2 Q2 := by subst hn; rfl
theorem hear2_none (hn : n1 = 0) : sHear2 g2 (enc k1 o1 n1 Q1 k2 o2 n2 Q2) = enc k1 o1 n1 Q1 k2 o2 n2 Q2 := by subst hn; rfl

theorem stillS_iff : stillS (enc k1 o1 n1 Q1 k2 o2 n2 Q2) = true ↔ n1 = 0 ∧ n2 = 0 := by
  cases n1 with
  | zero => cases n2 with
    | zero => simp [stillS, enc, ql]
    | succ n => simp only [stillS, enc, ql_sh (n + 1) Q2 (by omega)]; simp [ql]
  | succ m => simp only [stillS, enc, ql_sh (m + 1) Q1 (by omega)]; simp

theorem hearC_ok {k : Int} {o : Bool} {n m : Nat} {b : Bool} (h : Ok1 k o n) (hn : 0 < m) (hw : k = 2 → b = false) : hearC k o n m b = true := by
  have := h.len
  simp only [hearC, Bool.and_eq_true, decide_eq_true_eq, Bool.or_eq_true, Bool.not_eq_true', decide_eq_false_iff_not]
  refine ⟨⟨⟨⟨⟨h.lo, h.hi⟩, ?_⟩, hn⟩, by omega⟩, ?_⟩
  · cases o with
    | false => exact .inl rfl
    | true => exact .inr (h.opp rfl)
  · by_cases h : k = 2
    · exact .inr (hw h)
    · exact .inl h
end

theorem sentN_le (z : Int) (n : Nat) : sentN z n ≤ n + 1 := by unfold sentN; split <;> omega
theorem sentN_eq (z : Int) (n : Nat) : ((sentN z n : Nat) : Int) = n + (if z = 0 then 0 else 1) := by unfold sentN; split <;> simp
theorem ask_cost (k : Int) (o on : Bool) : (if askS k o on = 0 then (0 : Int) else 1) ≤ askA k o on ∧ 0 ≤ askA k o on ∧ askA k o on ≤ 1 := by
  unfold askS askA
  split <;> repeat' split
  all_goals simp_all

/-- To rest. -/
theorem rests (a b : List UInt8) (N : Nat) (A : Ix → Int) (hN : N ≤ 60) (g1 g2 : Bool) : ∀ (m : Nat) (t : Int) k1 o1 n1 Q1 k2 o2 n2 Q2, enc k1 o1 n1 Q1 k2 o2 n2 Q2 ∈ reach g1 g2 → rank g1 g2 6 (enc k1 o1 n1 Q1 k2 o2 n2 Q2) ≤ m → 0 ≤ t → t + m ≤ 5 →
    RunsTo Tryd.prog 4 (headOf Tryd.f4 1) (envAt Tryd.f4.ntmps (rtE N t)) (Sx.look (X4 a b N A ++ bothE 123 124 k1 o1 n1 Q1 g1 k2 o2 n2 Q2 g2)) 110 YES (Sx.look []) 400 := by
  intro m
  induction m with
  | zero =>
    intro t k1 o1 n1 Q1 k2 o2 n2 Q2 h hr h0 ht
    have ok := OkS.of h
    have hs : stillS (enc k1 o1 n1 Q1 k2 o2 n2 Q2) = true := by
      cases hs : stillS (enc k1 o1 n1 Q1 k2 o2 n2 Q2) with
      | true => rfl
      | false => have := ok.down hs; omega
    obtain ⟨e1, e2⟩ := stillS_iff.1 hs
    have hc := ok.calm
    simp only [calmS, hs, Bool.not_true, Bool.false_or, Bool.and_eq_true, decide_eq_true_eq, Bool.or_eq_true, Bool.not_eq_true'] at hc
    obtain ⟨⟨⟨c1, c2⟩, c3⟩, c4⟩ := hc
    exact calm a b N A t k1 o1 n1 Q1 g1 k2 o2 n2 Q2 g2 e1 e2 c1 c2 c3 c4
  | succ m ih =>
    intro t k1 o1 n1 Q1 k2 o2 n2 Q2 h hr h0 ht
    have ok := OkS.of h
    cases hs : stillS (enc k1 o1 n1 Q1 k2 o2 n2 Q2) with
    | true =>
      obtain ⟨e1, e2⟩ := stillS_iff.1 hs
      have hc := ok.calm
      simp only [calmS, hs, Bool.not_true, Bool.false_or, Bool.and_eq_true, decide_eq_true_eq, Bool.or_eq_true, Bool.not_eq_true'] at hc
      obtain ⟨⟨⟨c1, c2⟩, c3⟩, c4⟩ := hc
      exact calm a b N A t k1 o1 n1 Q1 g1 k2 o2 n2 Q2 g2 e1 e2 c1 c2 c3 c4
    | false =>
      have hd := ok.down hs
      have u1 := good_ok ok.s1
      have u2 := good_ok ok.s2
      have l1 := u1.len
      have l2 := u2.len
      have hns : ¬ (n1 = 0 ∧ n2 = 0) := fun hh => by rw [stillS_iff.2 hh] at hs; cases hs
      by_cases hn2 : 0 < n2
      · have hC := hearC_ok u1 hn2 (right1_ok ok.r1 hn2)
        by_cases hn1 : sentN (hearS k1 o1 (Q2 [0]) g1) n1 = 0
        · have e : turn g1 g2 (enc k1 o1 n1 Q1 k2 o2 n2 Q2) = enc (hearK k1 o1 (Q2 [0]) g1) false (sentN (hearS k1 o1 (Q2 [0]) g1) n1) (sentQ (hearS k1 o1 (Q2 [0]) g1) n1 Q1) k2 o2 (n2 - 1) (shQ Q2) := by
            unfold turn; rw [← enc_hear1 hn2, hear2_none hn1]
          refine resty a b N A t k1 o1 n1 Q1 g1 k2 o2 n2 Q2 g2 hN ⟨h0, by omega⟩ (by omega) (by omega) hn2 hC hn1 (ih (t + 1) _ _ _ _ _ _ _ _ ?_ ?_ (by omega) (by omega))
          · rw [enc_hear1 hn2]; exact ok.h1
          · rw [← e]; omega
        · have hn1 : 0 < sentN (hearS k1 o1 (Q2 [0]) g1) n1 := by omega
          have h' := ok.h1
          rw [← enc_hear1 hn2] at h'
          have ok' := OkS.of h'
          have hD := hearC_ok (good_ok ok'.s2) hn1 (right2_ok ok'.r2 hn1)
          have hle := sentN_le (hearS k1 o1 (Q2 [0]) g1) n1
          refine restyx a b N A t k1 o1 n1 Q1 g1 k2 o2 n2 Q2 g2 hN ⟨h0, by omega⟩ (by omega) (by omega) hn2 hC hn1 (by omega) hD (ih (t + 1) _ _ _ _ _ _ _ _ ?_ ?_ (by omega) (by omega))
          · rw [enc_hear2 hn1]; exact ok'.h2
          · rw [enc_hear2 hn1, enc_hear1 hn2]
            show rank g1 g2 6 (turn g1 g2 _) ≤ m
            omega
      · have hz : n2 = 0 := by omega
        have hn1 : 0 < n1 := by omega
        have hD := hearC_ok u2 hn1 (right2_ok ok.r2 hn1)
        have e : turn g1 g2 (enc k1 o1 n1 Q1 k2 o2 n2 Q2) = sHear2 g2 (enc k1 o1 n1 Q1 k2 o2 n2 Q2) := by
          unfold turn; rw [hear1_none hz]
        refine restx a b N A t k1 o1 n1 Q1 g1 k2 o2 n2 Q2 g2 hN ⟨h0, by omega⟩ (by omega) (by omega) hn1 hz hD (ih (t + 1) _ _ _ _ _ _ _ _ ?_ ?_ (by omega) (by omega))
        · rw [enc_hear2 hn1]; exact ok.h2
        · rw [enc_hear2 hn1, ← e]; omega

/-- The acts. -/
theorem rounds (a b : List UInt8) (N : Nat) (A : Ix → Int) (hN : N ≤ 60) (g1 g2 : Bool) : ∀ (m : Nat) (i ak hd st : Int) k1 o1 n1 Q1 k2 o2 n2 Q2, (N : Int) = i + m → 0 ≤ i → enc k1 o1 n1 Q1 k2 o2 n2 Q2 ∈ reach g1 g2 → 0 ≤ ak → ak ≤ i → 0 ≤ hd → hd ≤ i → st = hd + (n1 + n2 : Nat) → ((n1 + n2 : Nat) : Int) ≤ ak →
    RunsTo Tryd.prog 4 (headOf Tryd.f4 0) (envAt Tryd.f4.ntmps (rsE N i ak hd st)) (Sx.look (X4 a b N A ++ bothE 123 124 k1 o1 n1 Q1 g1 k2 o2 n2 Q2 g2)) 110 YES (Sx.look []) 400 := by
  intro m
  induction m with
  | zero =>
    intro i ak hd st k1 o1 n1 Q1 k2 o2 n2 Q2 hm hi h _ _ _ _ _ _
    exact exit a b N A i ak hd st k1 o1 n1 Q1 g1 k2 o2 n2 Q2 g2 (by omega) (rests a b N A hN g1 g2 4 0 k1 o1 n1 Q1 k2 o2 n2 Q2 h (OkS.of h).low (by omega) (by omega))
  | succ m ih =>
    intro i ak hd st k1 o1 n1 Q1 k2 o2 n2 Q2 hm hi h ha0 ha1 hh0 hh1 hs hq
    have ok := OkS.of h
    have u1 := good_ok ok.s1
    have u2 := good_ok ok.s2
    have l1 := u1.len
    have l2 := u2.len
    have hi' : 0 ≤ i ∧ i < N := ⟨hi, by omega⟩
    have c1 := fun on => ask_cost k1 o1 on
    have c2 := fun on => ask_cost k2 o2 on
    have asks1 : ∀ on, RunsTo Tryd.prog 4 (headOf Tryd.f4 0) (envAt Tryd.f4.ntmps (rsE N (i + 1) (ak + askA k1 o1 on) hd (st + (if askS k1 o1 on = 0 then 0 else 1)))) (Sx.look (X4 a b N A ++ bothE 123 124 (askK k1 o1 on) (askO k1 o1 on) (sentN (askS k1 o1 on) n1) (sentQ (askS k1 o1 on) n1 Q1) g1 k2 o2 n2 Q2 g2)) 110 YES (Sx.look []) 400 := fun on => by
      have := c1 on
      have hn := sentN_eq (askS k1 o1 on) n1
      refine ih (i + 1) _ hd _ _ _ _ _ _ _ _ _ (by omega) (by omega) ?_ (by omega) (by omega) (by omega) (by omega) ?_ ?_
      · rw [enc_ask1]; exact ok.a1 on
      · rw [hs]; push_cast; rw [hn]; omega
      · push_cast; rw [hn]; push_cast at hq; omega
    have asks2 : ∀ on, RunsTo Tryd.prog 4 (headOf Tryd.f4 0) (envAt Tryd.f4.ntmps (rsE N (i + 1) (ak + askA k2 o2 on) hd (st + (if askS k2 o2 on = 0 then 0 else 1)))) (Sx.look (X4 a b N A ++ bothE 123 124 k1 o1 n1 Q1 g1 (askK k2 o2 on) (askO k2 o2 on) (sentN (askS k2 o2 on) n2) (sentQ (askS k2 o2 on) n2 Q2) g2)) 110 YES (Sx.look []) 400 := fun on => by
      have := c2 on
      have hn := sentN_eq (askS k2 o2 on) n2
      refine ih (i + 1) _ hd _ _ _ _ _ _ _ _ _ (by omega) (by omega) ?_ (by omega) (by omega) (by omega) (by omega) ?_ ?_
      · rw [enc_ask2]; exact ok.a2 on
      · rw [hs]; push_cast; rw [hn]; omega
      · push_cast; rw [hn]; push_cast at hq; omega
    have z1 : n1 ≤ 100 := by omega
    have z2 : n2 ≤ 100 := by omega
    by_cases h0 : A [0 + i.toNat] = 0
    · exact ask0 a b N A i ak hd st k1 o1 n1 Q1 g1 k2 o2 n2 Q2 g2 h0 hi' hN ⟨ha0, ha1⟩ ⟨hh0, hh1⟩ hs hq u1.lo u1.hi u1.opp u2.lo u2.hi u2.opp z1 z2 (asks1 false)
    by_cases h1 : A [0 + i.toNat] = 1
    · exact Go.Proofs.YtgbgfekfcjphnaaDoor.ask1 a b N A i ak hd st k1 o1 n1 Q1 g1 k2 o2 n2 Q2 g2 h1 hi' hN ⟨ha0, ha1⟩ ⟨hh0, hh1⟩ hs hq u1.lo u1.hi u1.opp u2.lo u2.hi u2.opp z1 z2 (asks1 true)
    by_cases h2 : A [0 + i.toNat] = 2
    · exact Go.Proofs.YtgbgfekfcjphnaaDoor.ask2 a b N A i ak hd st k1 o1 n1 Q1 g1 k2 o2 n2 Q2 g2 h2 hi' hN ⟨ha0, ha1⟩ ⟨hh0, hh1⟩ hs hq u1.lo u1.hi u1.opp u2.lo u2.hi u2.opp z1 z2 (asks2 false)
    by_cases h3 : A [0 + i.toNat] = 3
    · exact ask3 a b N A i ak hd st k1 o1 n1 Q1 g1 k2 o2 n2 Q2 g2 h3 hi' hN ⟨ha0, ha1⟩ ⟨hh0, hh1⟩ hs hq u1.lo u1.hi u1.opp u2.lo u2.hi u2.opp z1 z2 (asks2 true)
    by_cases h4 : A [0 + i.toNat] = 4 ∧ 0 < n2
    · obtain ⟨h4, hn⟩ := h4
      have hl := sentN_eq (hearS k1 o1 (Q2 [0]) g1) n1
      refine hear4 a b N A i ak hd st k1 o1 n1 Q1 g1 k2 o2 n2 Q2 g2 h4 (right1_ok ok.r1 hn) hn hi' hN ⟨ha0, ha1⟩ ⟨hh0, hh1⟩ hs hq u1.lo u1.hi u1.opp u2.lo u2.hi u2.opp z1 z2 (ih (i + 1) _ _ _ _ _ _ _ _ _ _ _ (by omega) (by omega) ?_ (by omega) (by omega) (by omega) (by omega) ?_ ?_)
      · rw [enc_hear1 hn]; exact ok.h1
      · rw [hs]; push_cast; rw [hl]; omega
      · push_cast; rw [hl]; push_cast at hq
        have : (if hearS k1 o1 (Q2 [0]) g1 = 0 then (0 : Int) else 1) ≤ 1 := by split <;> omega
        omega
    by_cases h5 : A [0 + i.toNat] = 5 ∧ 0 < n1
    · obtain ⟨h5, hn⟩ := h5
      have hl := sentN_eq (hearS k2 o2 (Q1 [0]) g2) n2
      refine hear5 a b N A i ak hd st k1 o1 n1 Q1 g1 k2 o2 n2 Q2 g2 h5 (right2_ok ok.r2 hn) hn hi' hN ⟨ha0, ha1⟩ ⟨hh0, hh1⟩ hs hq u1.lo u1.hi u1.opp u2.lo u2.hi u2.opp z1 z2 (ih (i + 1) _ _ _ _ _ _ _ _ _ _ _ (by omega) (by omega) ?_ (by omega) (by omega) (by omega) (by omega) ?_ ?_)
      · rw [enc_hear2 hn]; exact ok.h2
      · rw [hs]; push_cast; rw [hl]; omega
      · push_cast; rw [hl]; push_cast at hq
        have : (if hearS k2 o2 (Q1 [0]) g2 = 0 then (0 : Int) else 1) ≤ 1 := by split <;> omega
        omega
    exact idle a b N A i ak hd st k1 o1 n1 Q1 g1 k2 o2 n2 Q2 g2 (by omega) (fun h => by omega) (fun h => by omega) hi' hN ⟨ha0, ha1⟩ ⟨hh0, hh1⟩ hs hq u1.lo u1.hi u1.opp u2.lo u2.hi u2.opp z1 z2
      (ih (i + 1) ak hd st k1 o1 n1 Q1 k2 o2 n2 Q2 (by omega) (by omega) h ha0 (by omega) hh0 (by omega) hs hq)

theorem rests_law (a b : List UInt8) (N : Nat) (A : Ix → Int) (G : Ix → Bool) :
    RunsTo Tryd.prog 4 [.code (bodyOf Tryd.f4)] (envOf [actsV N, .agg (.ta 2 (.vb G))] Tryd.f4.ntmps) (Sx.look (X4 a b N A ++ [])) 110 YES (Sx.look []) 400 :=
  start a b N A G fun hN => rounds a b N A hN (G [0]) (G [1]) N 0 0 0 0 0 false 0 (fun _ => false) 0 false 0 (fun _ => false) (by omega) (by omega) (by cases G [0] <;> cases G [1] <;> exact List.mem_of_elem_eq_true (by kernel_rfl)) (by omega) (by omega) (by omega) (by omega) rfl (by simp)

end Go.Proofs.YtgbgfekfcjphnaaDoor
