/- Raw events: what a line says, and what an event's line is; read and told are each other's inverse. -/
import Derived.Lib.ItoaNum
import Derived.Lib.Join
import Derived.Test.YtankmgnjkcgpaaaDoorQaC
import Derived.Test.YtankmgnjkcgpaaaDoorSyKit
import Derived.Test.YtankmgnjkcgpaaaDoorSyPc
import Derived.Test.YtankmgnjkcgpaaaDoorSyPl
set_option linter.unusedSimpArgs false
set_option linter.unusedVariables false
namespace Go.Proofs.YtankmgnjkcgpaaaDoor.RawR

def splitR (c : UInt8) : List UInt8 → List (List UInt8)
  | [] => [[]]
  | x :: r => if x = c then [] :: splitR c r else match splitR c r with | [] => [[x]] | a :: l => (x :: a) :: l

def joinR (c : UInt8) : List (List UInt8) → List UInt8
  | [] => []
  | [a] => a
  | a :: l => a ++ c :: joinR c l

theorem joinR_eq (c : UInt8) : ∀ l, Lib.join l [c] = joinR c l
  | [] => rfl
  | [a] => by simp [Lib.join, joinR, List.intercalate, List.intersperse]
  | a :: b :: l => by
    have := joinR_eq c (b :: l)
    simp only [Lib.join, List.intercalate, List.intersperse, List.flatten_cons, joinR] at this ⊢
    rw [← this]; simp

theorem splitR_ne (c : UInt8) : ∀ s, splitR c s ≠ []
  | [] => by simp [splitR]
  | x :: r => by
    unfold splitR
    split
    · simp
    · split <;> simp

theorem joinR_cons (c : UInt8) (a : List UInt8) {l : List (List UInt8)} (h : l ≠ []) : joinR c (a :: l) = a ++ c :: joinR c l := by
  cases l with
  | nil => exact absurd rfl h
  | cons => rfl

theorem joinR_cons2 (c x : UInt8) (a : List UInt8) (l : List (List UInt8)) : joinR c ((x :: a) :: l) = x :: joinR c (a :: l) := by
  cases l <;> rfl

theorem join_split (c : UInt8) : ∀ s, joinR c (splitR c s) = s
  | [] => rfl
  | x :: r => by
    have := join_split c r
    unfold splitR
    split
    · rename_i h
      rw [joinR_cons c _ (splitR_ne c r), this, h]; rfl
    · split
      · rename_i h; exact absurd h (splitR_ne c r)
      · rename_i a l h
        rw [h] at this
        rw [joinR_cons2, this]

theorem split_one (c : UInt8) : ∀ a : List UInt8, c ∉ a → splitR c a = [a]
  | [], _ => rfl
  | x :: r, h => by
    simp only [List.mem_cons, not_or] at h
    rw [splitR, if_neg (fun e => h.1 e.symm), split_one c r h.2]

theorem split_app (c : UInt8) (s : List UInt8) : ∀ a : List UInt8, c ∉ a → splitR c (a ++ c :: s) = a :: splitR c s
  | [], _ => by simp [splitR]
  | x :: r, h => by
    simp only [List.mem_cons, not_or] at h
    rw [List.cons_append, splitR, if_neg (fun e => h.1 e.symm), split_app c s r h.2]

/-! ### Numbers -/

def puR : Nat → List UInt8 → Nat × Nat
  | a, [] => (a, 0)
  | a, c :: r => if 48 ≤ c.toNat ∧ c.toNat ≤ 57 then (if 65535 < a * 10 + (c.toNat - 48) then (65535, 1) else puR (a * 10 + (c.toNat - 48)) r) else (0, 2)

def puN (s : List UInt8) : Nat × Nat := if s = [] then (0, 2) else puR 0 s
def numV (s : List UInt8) : Int := (puN s).1
def numOK (s : List UInt8) : Bool := decide ((puN s).2 = 0) && (decide (s.length ≤ 4) && (decide (s.length = 1) || decide (s.getD 0 0 ≠ 48)))

/-! ### Bytes -/

def hx (n : Nat) : UInt8 := [48, 49, 50, 51, 52, 53, 54, 55, 56, 57, 97, 98, 99, 100, 101, 102].getD n 0
def hi (c : UInt8) : Option Nat := if 48 ≤ c.toNat ∧ c.toNat ≤ 57 then some (c.toNat - 48) else if 97 ≤ c.toNat ∧ c.toNat ≤ 102 then some (c.toNat - 87) else none

def toldR (b : List UInt8) : List UInt8 := if b = [] then [45] else b.flatMap fun c => [hx (c.toNat / 16), hx (c.toNat % 16)]

def pairR : List UInt8 → Option (List UInt8)
  | [] => some []
  | [_] => none
  | a :: b :: r => match hi a, hi b, pairR r with | some x, some y, some l => some (UInt8.ofNat (16 * x + y) :: l) | _, _, _ => none

def readR (s : List UInt8) : Option (List UInt8) := if s = [45] then some [] else if s = [] ∨ s.length % 2 ≠ 0 then none else pairR s

def numsR : List (List UInt8) → Option (List Int)
  | [] => some []
  | a :: r => if numOK a = true then (match numsR r with | some l => some (numV a :: l) | none => none) else none

/-! ### Events -/

structure Ev where
  K : Int
  N : Int
  B : List UInt8
  M : List Int

def ev0 : Ev := ⟨0, 0, [], []⟩

def upR (l : Int) : Int → List Int → Bool
  | _, [] => true
  | p, m :: r => decide (p < m ∧ m < l) && upR l m r

def rightR (e : Ev) : Bool :=
  if e.K = 1 then decide (e.N = 0 ∧ e.B.length ≤ 1024) && upR e.B.length (-1) e.M
  else if e.K = 2 ∨ e.K = 3 then decide (0 ≤ e.N ∧ e.N ≤ 9999 ∧ e.B = [] ∧ e.M = [])
  else if e.K = 4 then decide (e.N = 0 ∧ e.B = [] ∧ e.M = []) else false

def wBytes : List UInt8 := [98, 121, 116, 101, 115]
def wGrant : List UInt8 := [103, 114, 97, 110, 116]
def wTick : List UInt8 := [116, 105, 99, 107]
def wClose : List UInt8 := [99, 108, 111, 115, 101]
def wMarks : List UInt8 := [109, 97, 114, 107, 115]

def placesR (m : List Int) : List UInt8 := joinR 44 (m.map Lib.itoa)

def lineR (e : Ev) : List UInt8 :=
  if e.K = 2 then wGrant ++ 32 :: Lib.itoa e.N
  else if e.K = 3 then wTick ++ 32 :: Lib.itoa e.N
  else if e.K = 4 then wClose
  else if e.M = [] then wBytes ++ 32 :: toldR e.B
  else wBytes ++ 32 :: (toldR e.B ++ 32 :: (wMarks ++ 32 :: placesR e.M))

def saidR : List (List UInt8) → Option Ev
  | [w] => if w = wClose then some ⟨4, 0, [], []⟩ else none
  | [w, x] =>
    if w = wBytes then (match readR x with | some b => some ⟨1, 0, b, []⟩ | none => none)
    else if w = wGrant then (if numOK x = true then some ⟨2, numV x, [], []⟩ else none)
    else if w = wTick then (if numOK x = true then some ⟨3, numV x, [], []⟩ else none) else none
  | [w, x, y, z] =>
    if w = wBytes ∧ y = wMarks then (match readR x, numsR (splitR 44 z) with | some b, some m => some ⟨1, 0, b, m⟩ | _, _ => none) else none
  | _ => none

def parseR (line : List UInt8) : Option Ev :=
  match saidR (splitR 32 line) with
  | some e => if rightR e = true then some e else none
  | none => none

/-! ### Told and read again -/

def dig (d : Nat) : UInt8 := UInt8.ofNat (48 + d)
def chk1 (a : Nat) : Bool := decide (Lib.itoa a = [dig a])
def chk2 (a b : Nat) : Bool := decide (Lib.itoa ((a * 10 + b : Nat) : Int) = [dig a, dig b])
def chk3 (a b c : Nat) : Bool := decide (Lib.itoa (((a * 10 + b) * 10 + c : Nat) : Int) = [dig a, dig b, dig c])
def chk4 (a b c d : Nat) : Bool := decide (Lib.itoa ((((a * 10 + b) * 10 + c) * 10 + d : Nat) : Int) = [dig a, dig b, dig c, dig d])

theorem chk1_all : ((List.range 10).all chk1) = true := by decide +kernel
theorem chk2_all : ((List.range' 1 9).all fun a => (List.range 10).all (chk2 a)) = true := by decide +kernel
theorem chk3_all : ((List.range' 1 9).all fun a => (List.range 10).all fun b => (List.range 10).all (chk3 a b)) = true := by decide +kernel
theorem chk4_all : ((List.range' 1 9).all fun a => (List.range 10).all fun b => (List.range 10).all fun c => (List.range 10).all (chk4 a b c)) = true := by decide +kernel

theorem all_at {l : List Nat} {p : Nat → Bool} (h : l.all p = true) {x : Nat} (hx : x ∈ l) : p x = true := List.all_eq_true.1 h x hx

theorem pu_cons {a : Nat} {c : UInt8} {r : List UInt8} (h : (puR a (c :: r)).2 = 0) : (48 ≤ c.toNat ∧ c.toNat ≤ 57) ∧ (puR (a * 10 + (c.toNat - 48)) r).2 = 0 ∧ puR a (c :: r) = puR (a * 10 + (c.toNat - 48)) r := by
  unfold puR at h
  split at h
  · rename_i h1
    split at h
    · simp at h
    · rename_i h2
      refine ⟨h1, h, ?_⟩
      rw [puR, if_pos h1, if_neg h2]
  · simp at h

theorem dig_of {c : UInt8} (h : 48 ≤ c.toNat ∧ c.toNat ≤ 57) : dig (c.toNat - 48) = c := by
  unfold dig
  rw [show 48 + (c.toNat - 48) = c.toNat by omega]
  exact UInt8.ofNat_toNat

theorem itoa_num {s : List UInt8} (h : numOK s = true) : Lib.itoa (numV s) = s ∧ 0 ≤ numV s := by
  unfold numOK at h
  simp only [Bool.and_eq_true, decide_eq_true_eq, Bool.or_eq_true] at h
  obtain ⟨h1, h2, h3⟩ := h
  refine ⟨?_, by unfold numV; omega⟩
  have hs : s ≠ [] := by rintro rfl; simp [puN] at h1
  unfold numV
  unfold puN at h1 ⊢
  rw [if_neg hs] at h1 ⊢
  match s, hs, h2, h3, h1 with
  | [a], _, _, _, h1 =>
    obtain ⟨ha, h1, e⟩ := pu_cons h1
    rw [e]
    have := of_decide_eq_true (all_at chk1_all (x := a.toNat - 48) (List.mem_range.2 (by omega)))
    simp only [puR, Nat.zero_mul, Nat.zero_add]
    rw [this, dig_of ha]
  | [a, b], _, _, h3, h1 =>
    obtain ⟨ha, h1, e⟩ := pu_cons h1
    obtain ⟨hb, h1, e2⟩ := pu_cons h1
    rw [e, e2]
    have h0 : a.toNat ≠ 48 := by
      rcases h3 with h3 | h3
      · simp at h3
      · intro e; apply h3; exact UInt8.toNat_inj.1 (by simpa using e)
    have := of_decide_eq_true (all_at (all_at chk2_all (x := a.toNat - 48) (List.mem_range'_1.2 (by omega))) (x := b.toNat - 48) (List.mem_range.2 (by omega)))
    simp only [puR, Nat.zero_mul, Nat.zero_add]
    rw [this, dig_of ha, dig_of hb]
  | [a, b, c], _, _, h3, h1 =>
    obtain ⟨ha, h1, e⟩ := pu_cons h1
    obtain ⟨hb, h1, e2⟩ := pu_cons h1
    obtain ⟨hc, h1, e3⟩ := pu_cons h1
    rw [e, e2, e3]
    have h0 : a.toNat ≠ 48 := by
      rcases h3 with h3 | h3
      · simp at h3
      · intro e; apply h3; exact UInt8.toNat_inj.1 (by simpa using e)
    have := of_decide_eq_true (all_at (all_at (all_at chk3_all (x := a.toNat - 48) (List.mem_range'_1.2 (by omega))) (x := b.toNat - 48) (List.mem_range.2 (by omega))) (x := c.toNat - 48) (List.mem_range.2 (by omega)))
    simp only [puR, Nat.zero_mul, Nat.zero_add]
    rw [this, dig_of ha, dig_of hb, dig_of hc]
  | [a, b, c, d], _, _, h3, h1 =>
    obtain ⟨ha, h1, e⟩ := pu_cons h1
    obtain ⟨hb, h1, e2⟩ := pu_cons h1
    obtain ⟨hc, h1, e3⟩ := pu_cons h1
    obtain ⟨hd, h1, e4⟩ := pu_cons h1
    rw [e, e2, e3, e4]
    have h0 : a.toNat ≠ 48 := by
      rcases h3 with h3 | h3
      · simp at h3
      · intro e; apply h3; exact UInt8.toNat_inj.1 (by simpa using e)
    have := of_decide_eq_true (all_at (all_at (all_at (all_at chk4_all (x := a.toNat - 48) (List.mem_range'_1.2 (by omega))) (x := b.toNat - 48) (List.mem_range.2 (by omega))) (x := c.toNat - 48) (List.mem_range.2 (by omega))) (x := d.toNat - 48) (List.mem_range.2 (by omega)))
    simp only [puR, Nat.zero_mul, Nat.zero_add]
    rw [this, dig_of ha, dig_of hb, dig_of hc, dig_of hd]
  | _ :: _ :: _ :: _ :: _ :: _, _, h2, _, _ => simp at h2

/-! ### The bytes' figures -/

def unhChk (n : Nat) : Bool := match hi (UInt8.ofNat n) with | some x => decide (x < 16) && (hx x == UInt8.ofNat n) | none => true
theorem unhChk_all : (List.range 256).all unhChk = true := by decide +kernel

theorem hx_hi {c : UInt8} {x : Nat} (h : hi c = some x) : x < 16 ∧ hx x = c := by
  have := all_at unhChk_all (x := c.toNat) (List.mem_range.2 c.toNat_lt)
  unfold unhChk at this
  rw [UInt8.ofNat_toNat, h] at this
  simpa using this

def hexT (b : List UInt8) : List UInt8 := b.flatMap fun c => [hx (c.toNat / 16), hx (c.toNat % 16)]

theorem hexT_len (b : List UInt8) : (hexT b).length = 2 * b.length := by
  induction b with
  | nil => rfl
  | cons c r ih => rw [show hexT (c :: r) = hx (c.toNat / 16) :: hx (c.toNat % 16) :: hexT r from rfl, List.length_cons, List.length_cons, ih, List.length_cons]; omega

theorem pair_back : ∀ (s b : List UInt8), pairR s = some b → hexT b = s
  | [], b, h => by simp [pairR] at h; subst h; rfl
  | [_], b, h => by simp [pairR] at h
  | a :: c :: r, b, h => by
    unfold pairR at h
    split at h
    · rename_i x y l hx1 hy1 hl
      have ih := pair_back r l hl
      cases h
      obtain ⟨x1, x2⟩ := hx_hi hx1
      obtain ⟨y1, y2⟩ := hx_hi hy1
      have hn : (UInt8.ofNat (16 * x + y)).toNat = 16 * x + y := by simp [UInt8.toNat_ofNat']; omega
      rw [show hexT (UInt8.ofNat (16 * x + y) :: l) = hx ((UInt8.ofNat (16 * x + y)).toNat / 16) :: hx ((UInt8.ofNat (16 * x + y)).toNat % 16) :: hexT l from rfl, hn, show (16 * x + y) / 16 = x by omega, show (16 * x + y) % 16 = y by omega, x2, y2, ih]
    · cases h

theorem told_read {s b : List UInt8} (h : readR s = some b) : toldR b = s := by
  unfold readR at h
  split at h
  · rename_i e; cases h; rw [e]; rfl
  · split at h
    · cases h
    · rename_i h1 h2
      have := pair_back s b h
      unfold toldR
      rw [if_neg (by rintro rfl; apply h2; left; rw [← this]; rfl)]
      exact this

theorem nums_back : ∀ {l : List (List UInt8)} {m : List Int}, numsR l = some m → m.map Lib.itoa = l ∧ m.length = l.length
  | [], m, h => by simp [numsR] at h; subst h; exact ⟨rfl, rfl⟩
  | a :: r, m, h => by
    unfold numsR at h
    split at h
    · rename_i ha
      split at h
      · rename_i l hl
        cases h
        obtain ⟨i1, i2⟩ := nums_back hl
        exact ⟨by rw [List.map_cons, (itoa_num ha).1, i1], by simp [i2]⟩
      · cases h
    · cases h

theorem up_in {l : Int} : ∀ {m : List Int} {p : Int}, upR l p m = true → ∀ x ∈ m, p < x ∧ x < l
  | [], _, _, x, hx => by simp at hx
  | a :: r, p, h, x, hx => by
    unfold upR at h
    rw [Bool.and_eq_true, decide_eq_true_eq] at h
    rcases List.mem_cons.1 hx with rfl | hx
    · exact h.1
    · have := up_in h.2 x hx; omega

theorem line_parse {s : List UInt8} {e : Ev} (h : parseR s = some e) : lineR e = s ∧ rightR e = true := by
  unfold parseR at h
  split at h
  · rename_i e' hs
    split at h
    · rename_i hr
      cases h
      refine ⟨?_, hr⟩
      rw [← join_split 32 s]
      generalize splitR 32 s = ws at hs
      unfold saidR at hs
      split at hs
      · split at hs
        · rename_i hw; cases hs; rw [hw]; rfl
        · cases hs
      · split at hs
        · rename_i w x hw
          split at hs
          · rename_i b hb
            cases hs
            rw [hw]
            simp [lineR, joinR, told_read hb, wBytes]
          · cases hs
        · split at hs
          · rename_i w x _ hw
            split at hs
            · rename_i hx; cases hs; rw [hw]; simp [lineR, joinR, (itoa_num hx).1]
            · cases hs
          · split at hs
            · rename_i w x _ _ hw
              split at hs
              · rename_i hx; cases hs; rw [hw]; simp [lineR, joinR, (itoa_num hx).1]
              · cases hs
            · cases hs
      · split at hs
        · rename_i w x y z hw
          split at hs
          · rename_i b m hb hm
            cases hs
            obtain ⟨i1, i2⟩ := nums_back hm
            have hne : m ≠ [] := by rintro rfl; exact splitR_ne 44 z (by rw [← i1]; rfl)
            rw [hw.1, hw.2]
            simp [lineR, joinR, told_read hb, hne, placesR, i1, join_split]
          · cases hs
        · cases hs
      · cases hs
    · cases h
  · cases h

end Go.Proofs.YtankmgnjkcgpaaaDoor.RawR

set_option linter.unusedSimpArgs false
set_option linter.unusedVariables false
set_option maxRecDepth 100000
namespace Go.Proofs.YtankmgnjkcgpaaaDoor
open Go.Sx

theorem goodP : PGood Tryd.prog := good_of (by kernel_rfl) (by kernel_rfl)
theorem gtopP : gtop Tryd.prog ≤ 100 := of_decide_eq_true (by kernel_rfl)
theorem gtopG : gtop Tryd.prog = 48 := of_decide_eq_true (by kernel_rfl)
theorem gtL {n : Nat} (h : 48 ≤ n) : gtop Tryd.prog ≤ n := Nat.le_trans (Nat.le_of_eq gtopG) h
theorem baseO : Base0 Tryd.prog [] := Base0.nil goodP
abbrev YES : SV := .v (.vb fun _ => true)
abbrev vN (a : Int) : SV := .v (.vi .i64 fun _ => a)
abbrev vB (a : Bool) : SV := .v (.vb fun _ => a)
abbrev vS (a : List UInt8) : SV := .v (.vs fun _ => a)
abbrev vP (l : Nat) : SV := .v (.vp l (fun _ => 0) [])
abbrev vL (l w n : Nat) : SV := .v (.vl l (fun _ => 0) w [] (fun _ => n))
open RawR
def txE (own : Bool) (l n : Nat) (T : List (List UInt8)) : List Ent := [⟨l, own, none, 1, .ta n (.vs fun is => T.getD (is.headD 0) [])⟩]
theorem splitR_len (c : UInt8) : ∀ s, (splitR c s).length = s.count c + 1
  | [] => rfl
  | x :: r => by
    have ih := splitR_len c r
    unfold splitR
    split
    · rename_i h; subst h; rw [List.length_cons, ih, List.count_cons_self]
    · rename_i h
      rw [List.count_cons_of_ne h]
      split
      · rename_i h; exact absurd h (splitR_ne c r)
      · rename_i a l h; rw [h] at ih; simpa using ih
theorem idx_pre (c : UInt8) (q : List UInt8) : ∀ pre : List UInt8, c ∉ pre → idxB (pre ++ c :: q) (c.toNat : Int) = (pre.length : Int)
  | [], _ => by simp [idxB, Lib.indexByte]
  | x :: r, h => by
    simp only [List.mem_cons, not_or] at h
    have ih := idx_pre c q r h.2
    simp only [idxB, Int.toNat_natCast, UInt8.ofNat_toNat] at ih ⊢
    have hx : (x == c) = false := beq_eq_false_iff_ne.2 (fun e => h.1 e.symm)
    rw [List.cons_append, Lib.indexByte, hx, ih]
    have : ((r.length : Int) == -1) = false := beq_eq_false_iff_ne.2 (by omega)
    rw [this]
    simp
theorem cnt_is (s : List UInt8) (c : UInt8) : cntB s (c.toNat : Int) = ((s.count c : Nat) : Int) := by simp [cntB, Lib.countByte]
theorem cut_at {c : UInt8} {r : List UInt8} (h : 0 < r.count c) : ∃ pre q, r = pre ++ c :: q ∧ c ∉ pre ∧ r.count c = q.count c + 1 := by
  have hm := List.count_pos_iff.1 h
  induction r with
  | nil => cases hm
  | cons x r ih =>
    by_cases hx : x = c
    · subst hx; exact ⟨[], r, rfl, by simp, by rw [List.count_cons_self]⟩
    · rw [List.count_cons_of_ne hx] at h ⊢
      obtain ⟨pre, q, e, h1, h2⟩ := ih h (List.count_pos_iff.1 h)
      exact ⟨x :: pre, q, by rw [e]; rfl, by simp only [List.mem_cons, not_or]; exact ⟨fun e => hx e.symm, h1⟩, h2⟩
theorem row_set (T : List (List UInt8)) (a : List UInt8) (n : Nat) (hn : n = T.length) (b : List UInt8) (hb : b = a) (k : Nat) : (T ++ [a]).getD k [] = upd (fun is => T.getD (is.headD 0) []) [n] b [k] := by
  subst hn; subst hb
  by_cases h : k = T.length
  · subst h
    simp [upd]
  · rw [upd_other _ _ (by simpa using h)]
    rcases Nat.lt_or_ge k T.length with h1 | h1
    · simp [List.getD, List.getElem?_append_left h1]
    · simp [List.getD, List.getElem?_append_right h1, List.getElem?_eq_none h1, show k - T.length ≠ 0 by omega]
theorem sp0_p0 (c : UInt8) (s : List UInt8) :
    isMore (evTill Tryd.prog [] 300 (behind Tryd.f76 0) 900 76 [.code (bodyOf Tryd.f76)] (envOf [vS s, vS [c], vN 0, .v (.vi .i64 fun _ => -1)] Tryd.f76.ntmps) ([] ++ ([])) ⟨[.f, .f, .t, .f, .t, .t, .s true, .s true], 80⟩) (moreP (headOf Tryd.f76 0) ([((101 : Nat), Rn.to (80 : Nat))]) Tryd.f76.ntmps ([(0, vS (s)), (1, vS [c]), (2, vN 0), (3, vN ((s.count c) : Nat)), (9, vL 101 1 ((s.count c) + 1)), (10, vN (([] : List (List UInt8))).length)]) (txE true 101 ((s.count c) + 1) (([] : List (List UInt8)))) 145) =
    (OkL [(decide (((0 : Int) ≤ if IntKind.i64.wrap ((↑s.length : Int) + (1 : Int)) < IntKind.i64.wrap (cntB s (↑([c].getD (0 : Nat) (0 : UInt8)).toNat : Int) + (1 : Int)) then IntKind.i64.wrap ((↑s.length : Int) + (1 : Int)) else IntKind.i64.wrap (cntB s (↑([c].getD (0 : Nat) (0 : UInt8)).toNat : Int) + (1 : Int))) ∧ (if IntKind.i64.wrap ((↑s.length : Int) + (1 : Int)) < IntKind.i64.wrap (cntB s (↑([c].getD (0 : Nat) (0 : UInt8)).toNat : Int) + (1 : Int)) then IntKind.i64.wrap ((↑s.length : Int) + (1 : Int)) else IntKind.i64.wrap (cntB s (↑([c].getD (0 : Nat) (0 : UInt8)).toNat : Int) + (1 : Int))) ≤ if IntKind.i64.wrap ((↑s.length : Int) + (1 : Int)) < IntKind.i64.wrap (cntB s (↑([c].getD (0 : Nat) (0 : UInt8)).toNat : Int) + (1 : Int)) then IntKind.i64.wrap ((↑s.length : Int) + (1 : Int)) else IntKind.i64.wrap (cntB s (↑([c].getD (0 : Nat) (0 : UInt8)).toNat : Int) + (1 : Int))), true), (decide (((↑(16 : Nat) : Int) * if IntKind.i64.wrap ((↑s.length : Int) + (1 : Int)) < IntKind.i64.wrap (cntB s (↑([c].getD (0 : Nat) (0 : UInt8)).toNat : Int) + (1 : Int)) then IntKind.i64.wrap ((↑s.length : Int) + (1 : Int)) else IntKind.i64.wrap (cntB s (↑([c].getD (0 : Nat) (0 : UInt8)).toNat : Int) + (1 : Int))) ≤ (281474976710656 : Int)), true)] ∧ headOf Tryd.f76 (0 : Nat) = headOf Tryd.f76 (0 : Nat) ∧ (s = s ∧ [c] = [c] ∧ (0 : Int) = (0 : Int) ∧ (↑(List.count c s) : Int) = IntKind.i64.wrap ((if IntKind.i64.wrap ((↑s.length : Int) + (1 : Int)) < IntKind.i64.wrap (cntB s (↑([c].getD (0 : Nat) (0 : UInt8)).toNat : Int) + (1 : Int)) then IntKind.i64.wrap ((↑s.length : Int) + (1 : Int)) else IntKind.i64.wrap (cntB s (↑([c].getD (0 : Nat) (0 : UInt8)).toNat : Int) + (1 : Int))) - (1 : Int)) ∧ ((0 : Nat) = (0 : Nat) ∧ List.count c s + (1 : Nat) = (if IntKind.i64.wrap ((↑s.length : Int) + (1 : Int)) < IntKind.i64.wrap (cntB s (↑([c].getD (0 : Nat) (0 : UInt8)).toNat : Int) + (1 : Int)) then IntKind.i64.wrap ((↑s.length : Int) + (1 : Int)) else IntKind.i64.wrap (cntB s (↑([c].getD (0 : Nat) (0 : UInt8)).toNat : Int) + (1 : Int))).toNat) ∧ (↑(0 : Nat) : Int) = (0 : Int)) ∧ List.count c s + (1 : Nat) = (if IntKind.i64.wrap ((↑s.length : Int) + (1 : Int)) < IntKind.i64.wrap (cntB s (↑([c].getD (0 : Nat) (0 : UInt8)).toNat : Int) + (1 : Int)) then IntKind.i64.wrap ((↑s.length : Int) + (1 : Int)) else IntKind.i64.wrap (cntB s (↑([c].getD (0 : Nat) (0 : UInt8)).toNat : Int) + (1 : Int))).toNat ∧ ∀ (i : Nat), i < List.count c s + (1 : Nat) → [].getD i ([] : List UInt8) = []) := by kernel_rfl

set_option maxHeartbeats 4000000 in
theorem sp0 (c : UInt8) (s : List UInt8) (hs : s.length ≤ 1000000)  (v : SV) (L' : HF) (next : RunsTo Tryd.prog 76 (headOf Tryd.f76 0) (envAt Tryd.f76.ntmps ([(0, vS (s)), (1, vS [c]), (2, vN 0), (3, vN ((s.count c) : Nat)), (9, vL 101 1 ((s.count c) + 1)), (10, vN (([] : List (List UInt8))).length)])) (Sx.look ([] ++ (txE true 101 ((s.count c) + 1) (([] : List (List UInt8)))))) 80 (v) (L') 145) :
    RunsTo Tryd.prog 76 [.code (bodyOf Tryd.f76)] (envOf [vS s, vS [c], vN 0, .v (.vi .i64 fun _ => -1)] Tryd.f76.ntmps) (Sx.look ([] ++ ([]))) 80 (v) (L') 145 := by
  have hc := u8nat c
  have hu : IntKind.u8.wrap (c.toNat : Int) = (c.toNat : Int) := u8id (u8nat c)
  have hg : ([c].getD 0 0) = c := rfl
  have hk := cnt_is s c
  have hl : s.count c ≤ s.length := List.count_le_length
  have w1 : IntKind.i64.wrap ((s.length : Int) + 1) = (s.length : Int) + 1 := wr64 (by omega)
  have w2 : IntKind.i64.wrap (((s.count c : Nat) : Int) + 1) = ((s.count c : Nat) : Int) + 1 := wr64 (by omega)
  have e1 : (if IntKind.i64.wrap ((s.length : Int) + 1) < IntKind.i64.wrap (((s.count c : Nat) : Int) + 1) then IntKind.i64.wrap ((s.length : Int) + 1) else IntKind.i64.wrap (((s.count c : Nat) : Int) + 1)) = ((s.count c : Nat) : Int) + 1 := by rw [w1, w2, if_neg (by omega)]
  refine runs_more baseO (More.of (sp0_p0 c s) ⟨?oo, rfl, ?rr⟩) (by kernel_rfl) (by kernel_rfl) rfl (gtL (by decide)) (by decide) next
  case oo =>
    clear next
    refine (okc ?_ (okc ?_ okn))
    all_goals first | rfl | (simp only [SS, hg, hk, hu, e1]; first | done | omega) | (simp (disch := omega) only [SS, hg, hk, hu, e1]; first | done | omega)
  case rr =>
    clear next
    simp only [hg, hk, hu, e1]
    repeat' apply And.intro
    all_goals first | exact True.intro | with_reducible rfl | omega | (rw [wr64 (by omega)]; done) | (rw [wr64 (by omega)]; omega) | (intros; simp_all; done) | (simp_all; done)

theorem sp1_p0 (c : UInt8) (T : List (List UInt8)) (K : Nat) (pre q : List UInt8) :
    isMore (evTill Tryd.prog [] 300 (behind Tryd.f76 0) 900 76 (headOf Tryd.f76 0) (envAt Tryd.f76.ntmps ([(0, vS (pre ++ c :: q)), (1, vS [c]), (2, vN 0), (3, vN (K : Nat)), (9, vL 101 1 (K + 1)), (10, vN (T).length)])) ([] ++ (txE true 101 (K + 1) (T))) ⟨[.s true, .f, .s false, .t, .t, .s false, .s true, .s true, .s true, .s true, .s true], 110⟩) (moreP (headOf Tryd.f76 0) ([]) Tryd.f76.ntmps ([(0, vS (q)), (1, vS [c]), (2, vN 0), (3, vN (K : Nat)), (9, vL 101 1 (K + 1)), (10, vN (T ++ [pre]).length)]) (txE true 101 (K + 1) (T ++ [pre])) 145) =
    (OkL [(decide ((↑T.length : Int) < (↑K : Int)), true), ([c] == pre ++ c :: q, false), (decide (idxB (pre ++ c :: q) (↑([c].getD (0 : Nat) (0 : UInt8)).toNat : Int) < (0 : Int)), false), (decide ((0 : Int) ≤ IntKind.i64.wrap (idxB (pre ++ c :: q) (↑([c].getD (0 : Nat) (0 : UInt8)).toNat : Int) + (0 : Int)) ∧ IntKind.i64.wrap (idxB (pre ++ c :: q) (↑([c].getD (0 : Nat) (0 : UInt8)).toNat : Int) + (0 : Int)) ≤ (↑(pre ++ c :: q).length : Int)), true), (decide ((0 : Int) ≤ (↑T.length : Int) ∧ (↑T.length : Int) < (↑(K + (1 : Nat)) : Int)), true), (((0 : Nat) + (↑T.length : Int).toNat).blt (K + (1 : Nat)), true), (((0 : Nat) + (↑T.length : Int).toNat).blt (K + (1 : Nat)), true), (decide ((0 : Int) ≤ IntKind.i64.wrap (idxB (pre ++ c :: q) (↑([c].getD (0 : Nat) (0 : UInt8)).toNat : Int) + (↑[c].length : Int)) ∧ IntKind.i64.wrap (idxB (pre ++ c :: q) (↑([c].getD (0 : Nat) (0 : UInt8)).toNat : Int) + (↑[c].length : Int)) ≤ (↑(pre ++ c :: q).length : Int)), true)] ∧ headOf Tryd.f76 (0 : Nat) = headOf Tryd.f76 (0 : Nat) ∧ (q = List.drop (IntKind.i64.wrap (idxB (pre ++ c :: q) (↑([c].getD (0 : Nat) (0 : UInt8)).toNat : Int) + (↑[c].length : Int))).toNat (List.take (pre ++ c :: q).length (pre ++ c :: q)) ∧ [c] = [c] ∧ (0 : Int) = (0 : Int) ∧ (↑K : Int) = (↑K : Int) ∧ ((0 : Nat) = (0 : Nat) ∧ K + (1 : Nat) = K + (1 : Nat)) ∧ (↑(T ++ [pre]).length : Int) = IntKind.i64.wrap ((↑T.length : Int) + (1 : Int))) ∧ K + (1 : Nat) = K + (1 : Nat) ∧ ∀ (i : Nat), i < K + (1 : Nat) → (T ++ [pre]).getD i [] = upd (fun is => T.getD (List.headD is (0 : Nat)) []) [(0 : Nat) + (↑T.length : Int).toNat] (List.drop (0 : Nat) (List.take (IntKind.i64.wrap (idxB (pre ++ c :: q) (↑([c].getD (0 : Nat) (0 : UInt8)).toNat : Int) + (0 : Int))).toNat (pre ++ c :: q))) [i]) := by kernel_rfl

set_option maxHeartbeats 4000000 in
theorem sp1 (c : UInt8) (T : List (List UInt8)) (K : Nat) (pre q : List UInt8) (hK : K ≤ 1000000) (hi : T.length < K) (hl : (pre ++ c :: q).length ≤ 1000000) (hx : idxB (pre ++ c :: q) (c.toNat : Int) = (pre.length : Int)) (hne : [c] ≠ pre ++ c :: q)  (v : SV) (L' : HF) (next : RunsTo Tryd.prog 76 (headOf Tryd.f76 0) (envAt Tryd.f76.ntmps ([(0, vS (q)), (1, vS [c]), (2, vN 0), (3, vN (K : Nat)), (9, vL 101 1 (K + 1)), (10, vN (T ++ [pre]).length)])) (Sx.look ([] ++ (txE true 101 (K + 1) (T ++ [pre])))) 80 (v) (L') 145) :
    RunsTo Tryd.prog 76 (headOf Tryd.f76 0) (envAt Tryd.f76.ntmps ([(0, vS (pre ++ c :: q)), (1, vS [c]), (2, vN 0), (3, vN (K : Nat)), (9, vL 101 1 (K + 1)), (10, vN (T).length)])) (Sx.look ([] ++ (txE true 101 (K + 1) (T)))) 80 (v) (L') 145 := by
  have hc := u8nat c
  have hu : IntKind.u8.wrap (c.toNat : Int) = (c.toNat : Int) := u8id (u8nat c)
  have hg : ([c].getD 0 0) = c := rfl
  have h1 : (([c].length : Nat) : Int) = 1 := rfl
  have hl2 : pre.length + q.length + 1 ≤ 1000000 := by simp at hl; omega
  have hl3 : (pre ++ c :: q).length = pre.length + q.length + 1 := by simp; omega
  have h2 : IntKind.i64.wrap ((pre.length : Int) + 1) = (pre.length : Int) + 1 := wr64 (by omega)
  have h3 : IntKind.i64.wrap ((pre.length : Int) + 0) = (pre.length : Int) := by rw [wr64 (by omega)]; omega
  have ht : (pre ++ c :: q).take pre.length = pre := by simp
  have hd : (pre ++ c :: q).drop (pre.length + 1) = q := by rw [← List.drop_drop]; simp
  have hn : ([c] == pre ++ c :: q) = false := beq_eq_false_iff_ne.2 hne
  refine runs_more baseO (More.of (sp1_p0 c T K pre q) ⟨?oo, rfl, ?rr⟩) (by kernel_rfl) (by kernel_rfl) rfl (gtL (by decide)) (by decide) next
  case oo =>
    clear next
    refine (okc ?_ (okc ?_ (okc ?_ (okc ?_ (okc ?_ (okc ?_ (okc ?_ (okc ?_ okn))))))))
    all_goals first | rfl | assumption | ((try simp only [hg, h1, hx, h2, h3, hl3]); first | done | (simp (disch := omega) only [SS]; first | done | omega))
  case rr =>
    clear next
    simp only [hg, h1, hx, h2, h3, hl3]
    repeat' apply And.intro
    all_goals first | exact True.intro | with_reducible rfl | omega | (rw [show ((pre.length : Int) + 1).toNat = pre.length + 1 by omega, List.take_of_length_le (by omega)]; exact hd.symm) | (rw [wr64 (by omega), List.length_append]; rfl) | rfl | (intro k hk; exact row_set T [] _ (by omega) _ rfl k) | (intro k hk; refine row_set T pre _ (by omega) _ ?_ k; rw [List.drop_zero, show ((pre.length : Int)).toNat = pre.length by omega, ht]) | (intros; simp_all; done)

theorem sp2_p0 (c : UInt8) (T : List (List UInt8)) (K : Nat) :
    isMore (evTill Tryd.prog [] 300 (behind Tryd.f76 0) 900 76 (headOf Tryd.f76 0) (envAt Tryd.f76.ntmps ([(0, vS ([c])), (1, vS [c]), (2, vN 0), (3, vN (K : Nat)), (9, vL 101 1 (K + 1)), (10, vN (T).length)])) ([] ++ (txE true 101 (K + 1) (T))) ⟨[.s true, .f, .s true, .f, .t, .s true, .s true, .s true, .t], 110⟩) (moreP (headOf Tryd.f76 0) ([]) Tryd.f76.ntmps ([(0, vS (([] : List UInt8))), (1, vS [c]), (2, vN 0), (3, vN (K : Nat)), (9, vL 101 1 (K + 1)), (10, vN (T ++ [[]]).length)]) (txE true 101 (K + 1) (T ++ [[]])) 145) =
    (OkL [(decide ((↑T.length : Int) < (↑K : Int)), true), ([c] == [c], true), (decide ((0 : Int) ≤ (↑T.length : Int) ∧ (↑T.length : Int) < (↑(K + (1 : Nat)) : Int)), true), (((0 : Nat) + (↑T.length : Int).toNat).blt (K + (1 : Nat)), true), (((0 : Nat) + (↑T.length : Int).toNat).blt (K + (1 : Nat)), true)] ∧ headOf Tryd.f76 (0 : Nat) = headOf Tryd.f76 (0 : Nat) ∧ ([] = List.drop (IntKind.i64.wrap ((0 : Int) + (↑[c].length : Int))).toNat (List.take [c].length [c]) ∧ [c] = [c] ∧ (0 : Int) = (0 : Int) ∧ (↑K : Int) = (↑K : Int) ∧ ((0 : Nat) = (0 : Nat) ∧ K + (1 : Nat) = K + (1 : Nat)) ∧ (↑(T ++ [[]]).length : Int) = IntKind.i64.wrap ((↑T.length : Int) + (1 : Int))) ∧ K + (1 : Nat) = K + (1 : Nat) ∧ ∀ (i : Nat), i < K + (1 : Nat) → (T ++ [[]]).getD i [] = upd (fun is => T.getD (List.headD is (0 : Nat)) []) [(0 : Nat) + (↑T.length : Int).toNat] (List.drop (0 : Nat) (List.take (0 : Nat) [c])) [i]) := by kernel_rfl

set_option maxHeartbeats 4000000 in
theorem sp2 (c : UInt8) (T : List (List UInt8)) (K : Nat) (hK : K ≤ 1000000) (hi : T.length < K)  (v : SV) (L' : HF) (next : RunsTo Tryd.prog 76 (headOf Tryd.f76 0) (envAt Tryd.f76.ntmps ([(0, vS (([] : List UInt8))), (1, vS [c]), (2, vN 0), (3, vN (K : Nat)), (9, vL 101 1 (K + 1)), (10, vN (T ++ [[]]).length)])) (Sx.look ([] ++ (txE true 101 (K + 1) (T ++ [[]])))) 80 (v) (L') 145) :
    RunsTo Tryd.prog 76 (headOf Tryd.f76 0) (envAt Tryd.f76.ntmps ([(0, vS ([c])), (1, vS [c]), (2, vN 0), (3, vN (K : Nat)), (9, vL 101 1 (K + 1)), (10, vN (T).length)])) (Sx.look ([] ++ (txE true 101 (K + 1) (T)))) 80 (v) (L') 145 := by
  have hc := u8nat c
  have hu : IntKind.u8.wrap (c.toNat : Int) = (c.toNat : Int) := u8id (u8nat c)
  have hg : ([c].getD 0 0) = c := rfl
  have h1 : (([c].length : Nat) : Int) = 1 := rfl
  have hn : ([c] == [c]) = true := beq_self_eq_true _
  refine runs_more baseO (More.of (sp2_p0 c T K) ⟨?oo, rfl, ?rr⟩) (by kernel_rfl) (by kernel_rfl) rfl (gtL (by decide)) (by decide) next
  case oo =>
    clear next
    refine (okc ?_ (okc ?_ (okc ?_ (okc ?_ (okc ?_ okn)))))
    all_goals first | rfl | assumption | ((try simp only [hg, h1]); first | done | (simp (disch := omega) only [SS]; first | done | omega))
  case rr =>
    clear next
    repeat' apply And.intro
    all_goals first | exact True.intro | with_reducible rfl | omega | (rw [wr64 (by omega), List.length_append]; rfl) | rfl | (intro k hk; exact row_set T [] _ (by omega) _ rfl k)

theorem sp3_p0 (c : UInt8) (T : List (List UInt8)) (K : Nat) (r : List UInt8) :
    isEnd (evTill Tryd.prog [] 300 (99) 900 76 (headOf Tryd.f76 0) (envAt Tryd.f76.ntmps ([(0, vS (r)), (1, vS [c]), (2, vN 0), (3, vN (K : Nat)), (9, vL 101 1 (K + 1)), (10, vN (T).length)])) ([] ++ (txE true 101 (K + 1) (T))) ⟨[.s false, .s true, .s true, .s true, .s true, .s true], 110⟩) (endP ([((141 : Nat), Rn.to (101 : Nat))]) (vL 141 1 (T ++ [r]).length) (txE true 141 (T ++ [r]).length (T ++ [r])) 145) =
    (OkL [(decide ((↑T.length : Int) < (↑K : Int)), false), (decide ((0 : Int) ≤ (↑T.length : Int) ∧ (↑T.length : Int) < (↑(K + (1 : Nat)) : Int)), true), (((0 : Nat) + (↑T.length : Int).toNat).blt (K + (1 : Nat)), true), (((0 : Nat) + (↑T.length : Int).toNat).blt (K + (1 : Nat)), true), (((0 : Nat) + (K + (1 : Nat))).ble (K + (1 : Nat)), true), (decide ((0 : Int) ≤ IntKind.i64.wrap ((↑T.length : Int) + (1 : Int)) ∧ IntKind.i64.wrap ((↑T.length : Int) + (1 : Int)) + (↑(0 : Nat) : Int) ≤ (↑(K + (1 : Nat)) : Int)), true)] ∧ ((0 : Nat) = (0 : Nat) ∧ (T ++ [r]).length = (IntKind.i64.wrap ((↑T.length : Int) + (1 : Int))).toNat) ∧ (T ++ [r]).length = K + (1 : Nat) ∧ ∀ (i : Nat), i < (T ++ [r]).length → (T ++ [r]).getD i [] = upd (fun is => T.getD (List.headD is (0 : Nat)) []) [(0 : Nat) + (↑T.length : Int).toNat] r [i]) := by kernel_rfl

set_option maxHeartbeats 4000000 in
theorem sp3 (c : UInt8) (T : List (List UInt8)) (K : Nat) (r : List UInt8) (hK : K ≤ 1000000) (hi : T.length = K)  :
    RunsTo Tryd.prog 76 (headOf Tryd.f76 0) (envAt Tryd.f76.ntmps ([(0, vS (r)), (1, vS [c]), (2, vN 0), (3, vN (K : Nat)), (9, vL 101 1 (K + 1)), (10, vN (T).length)])) (Sx.look ([] ++ (txE true 101 (K + 1) (T)))) 80 (vL 141 1 (T ++ [r]).length) (Sx.look (txE true 141 (T ++ [r]).length (T ++ [r]))) 145 := by
  have hc := u8nat c
  have hu : IntKind.u8.wrap (c.toNat : Int) = (c.toNat : Int) := u8id (u8nat c)
  refine runs_last baseO (Sx.Ends.of (sp3_p0 c T K r) ⟨?oo, ?rr⟩) (by kernel_rfl) rfl (gtL (by decide)) (by decide)
  case oo =>
    refine (okc ?_ (okc ?_ (okc ?_ (okc ?_ (okc ?_ (okc ?_ okn))))))
    all_goals ((try simp (disch := omega) only [SS]); first | done | omega | assumption | (simp (disch := omega) only [SS] at *; first | done | omega | assumption) | (simp_all; done))
  case rr =>
    simp (disch := omega) only [SS]
    repeat' apply And.intro
    all_goals first | exact True.intro | with_reducible rfl | omega | (simp; omega) | (intro k hk; exact row_set T r _ (by omega) _ rfl k) | (intros; simp_all; done)

theorem spT (c : UInt8) (s : List UInt8) (hs : s.length ≤ 1000000) : RunsTo Tryd.prog 76 [.code (bodyOf Tryd.f76)] (envOf [vS s, vS [c], vN 0, .v (.vi .i64 fun _ => -1)] Tryd.f76.ntmps) (Sx.look ([] ++ ([]))) 80 (vL 141 1 (splitR c s).length) (Sx.look (txE true 141 (splitR c s).length (splitR c s))) 145 := by
  have hcl : s.count c ≤ s.length := List.count_le_length
  refine sp0 c s hs _ _ ?_
  suffices q : ∀ (k : Nat) (r : List UInt8) (T : List (List UInt8)), r.count c = k → T.length + k = s.count c → r.length ≤ 1000000 → RunsTo Tryd.prog 76 (headOf Tryd.f76 0) (envAt Tryd.f76.ntmps ([(0, vS (r)), (1, vS [c]), (2, vN 0), (3, vN ((s.count c) : Nat)), (9, vL 101 1 ((s.count c) + 1)), (10, vN (T).length)])) (Sx.look ([] ++ (txE true 101 ((s.count c) + 1) (T)))) 80 (vL 141 1 (T ++ splitR c r).length) (Sx.look (txE true 141 (T ++ splitR c r).length (T ++ splitR c r))) 145 from by
    have := q (s.count c) s [] rfl (by simp) hs
    simpa using this
  intro k
  induction k with
  | zero =>
    intro r T h1 h2 h3
    rw [split_one c r (List.count_eq_zero.1 h1)]
    exact sp3 c T (s.count c) r (by omega) (by omega)
  | succ k ih =>
    intro r T h1 h2 h3
    obtain ⟨pre, q, rfl, hn, hq⟩ := cut_at (c := c) (r := r) (by omega)
    have := ih q (T ++ [pre]) (by omega) (by simp; omega) (by simp at h3; omega)
    rw [List.append_assoc] at this
    by_cases hne : [c] = pre ++ c :: q
    · have hl := congrArg List.length hne
      simp only [List.length_append, List.length_cons, List.length_nil] at hl
      obtain rfl : pre = [] := List.length_eq_zero_iff.1 (by omega)
      obtain rfl : q = [] := List.length_eq_zero_iff.1 (by omega)
      refine sp2 c T (s.count c) (by omega) (by omega) _ _ ?_
      rw [show splitR c ([] ++ [c]) = [[], []] by simp [splitR]]
      exact this
    · refine sp1 c T (s.count c) pre q (by omega) (by omega) h3 (idx_pre c q pre hn) hne _ _ ?_
      rw [split_app c q pre hn]
      exact this
end Go.Proofs.YtankmgnjkcgpaaaDoor

set_option linter.unusedSimpArgs false
set_option linter.unusedVariables false
set_option maxRecDepth 100000
namespace Go.Proofs.YtankmgnjkcgpaaaDoor
open Go.Sx

open RawR
def bW (l : Nat) (b : List UInt8) : List Ent := [⟨l, true, none, 1, .ta b.length (.vi .u8 fun is => ((b.getD (is.headD 0) 0).toNat : Int))⟩]
def iW (l : Nat) (m : List Int) : List Ent := [⟨l, true, none, 1, .ta m.length (.vi .i64 fun is => m.getD (is.headD 0) 0)⟩]
abbrev vQ (a : Int) : SV := .v (.vi .u64 fun _ => a)
def puV (n : Int) (e : Tr) : SV := .tup [(false, .vi .u64 fun _ => n), (false, e)]
def puE (k : Int) : Tr := .ve 180 (.vi .i64 fun _ => k)
def puR3 (p : Nat × Nat) : SV := puV (p.1 : Int) (match p.2 with | 0 => .ve0 | 1 => puE 1 | _ => puE 2)
def readV (s : List UInt8) : List UInt8 := (readR s).getD []
def readK (s : List UInt8) : Bool := (readR s).isSome
def marksV (s : List UInt8) : List Int := (numsR (splitR 44 s)).getD []
def marksK (s : List UInt8) : Bool := (numsR (splitR 44 s)).isSome
theorem pu0_p0 (x : Nat) :
    isEnd (evTill Tryd.prog [] 300 (99) 900 114 [.code (bodyOf Tryd.f114)] (envOf [vS [], vN 10, vN 16] Tryd.f114.ntmps) ([] ++ ([])) ⟨[.t], 80⟩) (endP ([]) (puV 0 (puE 2)) ([]) 140) =
    (OkL [] ∧ ((0 : Int) = (0 : Int) ∧ (2 : Int) = (2 : Int) ∧ True) ∧ True) := by kernel_rfl

set_option maxHeartbeats 4000000 in
theorem pu0 (x : Nat)  :
    RunsTo Tryd.prog 114 [.code (bodyOf Tryd.f114)] (envOf [vS [], vN 10, vN 16] Tryd.f114.ntmps) (Sx.look ([] ++ ([]))) 80 (puV 0 (puE 2)) (Sx.look ([])) 140 := by
  refine runs_last baseO (Sx.Ends.of (pu0_p0 x) ⟨?oo, ?rr⟩) (by kernel_rfl) rfl (gtL (by decide)) (by decide)
  case oo =>
    refine okn
    all_goals ((try simp (disch := omega) only [SS]); first | done | omega | assumption | (simp (disch := omega) only [SS] at *; first | done | omega | assumption) | (simp_all; done))
  case rr =>
    first | exact ⟨⟨rfl, rfl⟩, trivial⟩ | (simp; done) | decide

theorem pu1_p0 (s : List UInt8) :
    isMore (evTill Tryd.prog [] 300 (behind Tryd.f114 0) 900 114 [.code (bodyOf Tryd.f114)] (envOf [vS s, vN 10, vN 16] Tryd.f114.ntmps) ([] ++ ([])) ⟨[.s false, .t, .t, .f, .f, .f, .t, .t], 80⟩) (moreP (headOf Tryd.f114 0) ([((101 : Nat), Rn.to (80 : Nat))]) Tryd.f114.ntmps ([(1, vN 10), (8, vB false), (9, vS s), (10, vQ 1844674407370955162), (11, vQ 65535), (12, .lb false), (13, vQ (0 : Nat)), (99, vL 101 1 s.length), (100, vN s.length), (101, vN (0 : Nat))]) (bW 101 s) 140) =
    (OkL [(s == [], false)] ∧ headOf Tryd.f114 (0 : Nat) = headOf Tryd.f114 (0 : Nat) ∧ ((10 : Int) = (10 : Int) ∧ false = false ∧ s = s ∧ (1844674407370955162 : Int) = (1844674407370955162 : Int) ∧ (65535 : Int) = IntKind.u64.wrap (ishl IntKind.u64 (1 : Int) (IntKind.u64.wrap (16 : Int)) - (1 : Int)) ∧ false = false ∧ (↑(0 : Nat) : Int) = (0 : Int) ∧ ((0 : Nat) = (0 : Nat) ∧ s.length = s.length) ∧ (↑s.length : Int) = (↑s.length : Int) ∧ (↑(0 : Nat) : Int) = (0 : Int)) ∧ s.length = s.length ∧ ∀ (i : Nat), i < s.length → (↑(s.getD i (0 : UInt8)).toNat : Int) = (↑(s.getD i (0 : UInt8)).toNat : Int)) := by kernel_rfl

set_option maxHeartbeats 4000000 in
theorem pu1 (s : List UInt8) (hs : s ≠ [])  (v : SV) (L' : HF) (next : RunsTo Tryd.prog 114 (headOf Tryd.f114 0) (envAt Tryd.f114.ntmps ([(1, vN 10), (8, vB false), (9, vS s), (10, vQ 1844674407370955162), (11, vQ 65535), (12, .lb false), (13, vQ (0 : Nat)), (99, vL 101 1 s.length), (100, vN s.length), (101, vN (0 : Nat))])) (Sx.look ([] ++ (bW 101 s))) 80 (v) (L') 140) :
    RunsTo Tryd.prog 114 [.code (bodyOf Tryd.f114)] (envOf [vS s, vN 10, vN 16] Tryd.f114.ntmps) (Sx.look ([] ++ ([]))) 80 (v) (L') 140 := by
  have hz : (s == []) = false := beq_eq_false_iff_ne.2 hs
  refine runs_more baseO (More.of (pu1_p0 s) ⟨?oo, rfl, ?rr⟩) (by kernel_rfl) (by kernel_rfl) rfl (gtL (by decide)) (by decide) next
  case oo =>
    clear next
    refine (okc ?_ okn)
    all_goals ((try simp (disch := omega) only [SS, hz]); first | done | omega | assumption | (simp (disch := omega) only [SS, hz] at *; first | done | omega | assumption) | (simp_all; done))
  case rr =>
    clear next
    try simp (disch := omega) only [SS, hz]
    repeat' apply And.intro
    all_goals first | exact True.intro | with_reducible rfl | omega | (intros; first | exact True.intro | with_reducible rfl | omega | (simp_all; done)) | (simp_all; done) | rfl

theorem drop_at (bs : List UInt8) {i : Nat} (h : i < bs.length) : bs.drop i = bs.getD i 0 :: bs.drop (i + 1) := by
  rw [List.drop_eq_getElem_cons h]; simp [List.getD_eq_getElem?_getD, List.getElem?_eq_getElem h]
theorem low_c (c : UInt8) : (c.toNat < 48 → ¬ 97 ≤ ior .u8 (c.toNat : Int) 32) ∧ (97 ≤ ior .u8 (c.toNat : Int) 32 ∧ ior .u8 (c.toNat : Int) 32 ≤ 122 → 10 ≤ IntKind.u8.wrap (IntKind.u8.wrap (ior .u8 (c.toNat : Int) 32 - 97) + 10)) := by
  have : ((List.range 256).all fun n => decide ((n < 48 → ¬ 97 ≤ ior .u8 (n : Int) 32) ∧ (97 ≤ ior .u8 (n : Int) 32 ∧ ior .u8 (n : Int) 32 ≤ 122 → 10 ≤ IntKind.u8.wrap (IntKind.u8.wrap (ior .u8 (n : Int) 32 - 97) + 10)))) = true := by kernel_rfl
  exact of_decide_eq_true (List.all_eq_true.1 this c.toNat (List.mem_range.2 c.toNat_lt))
theorem u64id {x : Int} (h : 0 ≤ x ∧ x < 18446744073709551616) : IntKind.u64.wrap x = x := by
  simp only [IntKind.wrap, IntKind.bits, IntKind.signed]
  simp
  omega
theorem pu2_p0 (s : List UInt8) (a i : Nat) (c : UInt8) :
    isMore (evTill Tryd.prog [] 300 (behind Tryd.f114 0) 900 114 (headOf Tryd.f114 0) (envAt Tryd.f114.ntmps ([(1, vN 10), (8, vB false), (9, vS s), (10, vQ 1844674407370955162), (11, vQ 65535), (12, .lb false), (13, vQ (a : Nat)), (99, vL 101 1 s.length), (100, vN s.length), (101, vN (i : Nat))])) ([] ++ (bW 101 s)) ⟨[.s true, .s true, .s true, .s true, .s false, .s true, .s true, .s false, .s false, .s false, .s false], 110⟩) (moreP (headOf Tryd.f114 0) ([]) Tryd.f114.ntmps ([(1, vN 10), (8, vB false), (9, vS s), (10, vQ 1844674407370955162), (11, vQ 65535), (12, .lb false), (13, vQ (a * 10 + (c.toNat - 48) : Nat)), (99, vL 101 1 s.length), (100, vN s.length), (101, vN (i + 1 : Nat))]) (bW 101 s) 140) =
    (OkL [(decide ((↑i : Int) < (↑s.length : Int)), true), (decide ((0 : Int) ≤ (↑i : Int) ∧ (↑i : Int) < (↑s.length : Int)), true), (((0 : Nat) + (↑i : Int).toNat).blt s.length, true), (((0 : Nat) + (↑i : Int).toNat).blt s.length, true), ((↑(s.getD ((0 : Nat) + (↑i : Int).toNat) (0 : UInt8)).toNat : Int) == (95 : Int), false), (decide ((48 : Int) ≤ (↑(s.getD ((0 : Nat) + (↑i : Int).toNat) (0 : UInt8)).toNat : Int)), true), (decide ((↑(s.getD ((0 : Nat) + (↑i : Int).toNat) (0 : UInt8)).toNat : Int) ≤ (57 : Int)), true), (decide (IntKind.u8.wrap ((↑(s.getD ((0 : Nat) + (↑i : Int).toNat) (0 : UInt8)).toNat : Int) - (48 : Int)) ≥ IntKind.u8.wrap (10 : Int)), false), (decide ((↑a : Int) ≥ (1844674407370955162 : Int)), false), (decide (IntKind.u64.wrap (IntKind.u64.wrap ((↑a : Int) * IntKind.u64.wrap (10 : Int)) + IntKind.u64.wrap (IntKind.u8.wrap ((↑(s.getD ((0 : Nat) + (↑i : Int).toNat) (0 : UInt8)).toNat : Int) - (48 : Int)))) < IntKind.u64.wrap ((↑a : Int) * IntKind.u64.wrap (10 : Int))), false), (decide (IntKind.u64.wrap (IntKind.u64.wrap ((↑a : Int) * IntKind.u64.wrap (10 : Int)) + IntKind.u64.wrap (IntKind.u8.wrap ((↑(s.getD ((0 : Nat) + (↑i : Int).toNat) (0 : UInt8)).toNat : Int) - (48 : Int)))) > (65535 : Int)), false)] ∧ headOf Tryd.f114 (0 : Nat) = headOf Tryd.f114 (0 : Nat) ∧ ((10 : Int) = (10 : Int) ∧ false = false ∧ s = s ∧ (1844674407370955162 : Int) = (1844674407370955162 : Int) ∧ (65535 : Int) = (65535 : Int) ∧ false = false ∧ (↑(a * (10 : Nat) + (c.toNat - (48 : Nat))) : Int) = IntKind.u64.wrap (IntKind.u64.wrap ((↑a : Int) * IntKind.u64.wrap (10 : Int)) + IntKind.u64.wrap (IntKind.u8.wrap ((↑(s.getD ((0 : Nat) + (↑i : Int).toNat) (0 : UInt8)).toNat : Int) - (48 : Int)))) ∧ ((0 : Nat) = (0 : Nat) ∧ s.length = s.length) ∧ (↑s.length : Int) = (↑s.length : Int) ∧ (↑(i + (1 : Nat)) : Int) = IntKind.i64.wrap ((↑i : Int) + (1 : Int))) ∧ s.length = s.length ∧ ∀ (i : Nat), i < s.length → (↑(s.getD i (0 : UInt8)).toNat : Int) = (↑(s.getD i (0 : UInt8)).toNat : Int)) := by kernel_rfl

set_option maxHeartbeats 4000000 in
theorem pu2 (s : List UInt8) (a i : Nat) (c : UInt8) (hi : i < s.length) (hl : s.length ≤ 1000000) (hc : s.getD i 0 = c) (ha : a ≤ 65535) (hd : 48 ≤ c.toNat ∧ c.toNat ≤ 57) (hn : ¬ 65535 < a * 10 + (c.toNat - 48))  (v : SV) (L' : HF) (next : RunsTo Tryd.prog 114 (headOf Tryd.f114 0) (envAt Tryd.f114.ntmps ([(1, vN 10), (8, vB false), (9, vS s), (10, vQ 1844674407370955162), (11, vQ 65535), (12, .lb false), (13, vQ (a * 10 + (c.toNat - 48) : Nat)), (99, vL 101 1 s.length), (100, vN s.length), (101, vN (i + 1 : Nat))])) (Sx.look ([] ++ (bW 101 s))) 80 (v) (L') 140) :
    RunsTo Tryd.prog 114 (headOf Tryd.f114 0) (envAt Tryd.f114.ntmps ([(1, vN 10), (8, vB false), (9, vS s), (10, vQ 1844674407370955162), (11, vQ 65535), (12, .lb false), (13, vQ (a : Nat)), (99, vL 101 1 s.length), (100, vN s.length), (101, vN (i : Nat))])) (Sx.look ([] ++ (bW 101 s))) 80 (v) (L') 140 := by
  have k1 : IntKind.u8.wrap 10 = 10 := by decide
  have k2 : IntKind.u64.wrap 10 = 10 := by decide
  have hi0 : 0 + ((i : Nat) : Int).toNat = i := by simp
  have hw : IntKind.i64.wrap ((i : Int) + 1) = ((i + 1 : Nat) : Int) := by rw [wr64 (by omega)]; rfl
  have hb := u8nat c
  have hu : IntKind.u8.wrap (c.toNat : Int) = (c.toNat : Int) := u8id (u8nat c)
  have hd1 : IntKind.u8.wrap ((c.toNat : Int) - 48) = (c.toNat : Int) - 48 := u8id (by omega)
  have hd2 : IntKind.u64.wrap ((c.toNat : Int) - 48) = (c.toNat : Int) - 48 := u64id (by omega)
  have hm1 : IntKind.u64.wrap ((a : Int) * 10) = (a : Int) * 10 := u64id (by omega)
  have hm2 : IntKind.u64.wrap ((a : Int) * 10 + ((c.toNat : Int) - 48)) = (a : Int) * 10 + ((c.toNat : Int) - 48) := u64id (by omega)
  refine runs_more baseO (More.of (pu2_p0 s a i c) ⟨?oo, rfl, ?rr⟩) (by kernel_rfl) (by kernel_rfl) rfl (gtL (by decide)) (by decide) next
  case oo =>
    clear next
    refine (okc ?_ (okc ?_ (okc ?_ (okc ?_ (okc ?_ (okc ?_ (okc ?_ (okc ?_ (okc ?_ (okc ?_ (okc ?_ okn)))))))))))
    all_goals ((try simp only [hi0, k1, k2, hc, hw, hu, hd1, hd2, hm1, hm2]); first | done | rfl | omega | (simp (disch := omega) only [SS]; first | done | omega) | (subst hc; simp only [hi0, hu, k1, k2, hd1, hd2, hm1, hm2, dT, dF] at *; first | omega | (simp_all; done) | (simp_all; omega)))
  case rr =>
    clear next
    simp only [hi0, k1, k2, hc, hw, hu, hd1, hd2, hm1, hm2]
    repeat' apply And.intro
    all_goals first | exact True.intro | with_reducible rfl | omega | (push_cast; omega) | (intros; simp_all; done) | rfl

theorem pu3_p0 (s : List UInt8) (a i : Nat) (c : UInt8) :
    isEnd (evTill Tryd.prog [] 300 (99) 900 114 (headOf Tryd.f114 0) (envAt Tryd.f114.ntmps ([(1, vN 10), (8, vB false), (9, vS s), (10, vQ 1844674407370955162), (11, vQ 65535), (12, .lb false), (13, vQ (a : Nat)), (99, vL 101 1 s.length), (100, vN s.length), (101, vN (i : Nat))])) ([] ++ (bW 101 s)) ⟨[.s true, .s true, .s true, .s true, .s false, .s true, .s true, .s false, .s false, .s false, .s true], 110⟩) (endP ([]) (puV 65535 (puE 1)) ([]) 140) =
    (OkL [(decide ((↑i : Int) < (↑s.length : Int)), true), (decide ((0 : Int) ≤ (↑i : Int) ∧ (↑i : Int) < (↑s.length : Int)), true), (((0 : Nat) + (↑i : Int).toNat).blt s.length, true), (((0 : Nat) + (↑i : Int).toNat).blt s.length, true), ((↑(s.getD ((0 : Nat) + (↑i : Int).toNat) (0 : UInt8)).toNat : Int) == (95 : Int), false), (decide ((48 : Int) ≤ (↑(s.getD ((0 : Nat) + (↑i : Int).toNat) (0 : UInt8)).toNat : Int)), true), (decide ((↑(s.getD ((0 : Nat) + (↑i : Int).toNat) (0 : UInt8)).toNat : Int) ≤ (57 : Int)), true), (decide (IntKind.u8.wrap ((↑(s.getD ((0 : Nat) + (↑i : Int).toNat) (0 : UInt8)).toNat : Int) - (48 : Int)) ≥ IntKind.u8.wrap (10 : Int)), false), (decide ((↑a : Int) ≥ (1844674407370955162 : Int)), false), (decide (IntKind.u64.wrap (IntKind.u64.wrap ((↑a : Int) * IntKind.u64.wrap (10 : Int)) + IntKind.u64.wrap (IntKind.u8.wrap ((↑(s.getD ((0 : Nat) + (↑i : Int).toNat) (0 : UInt8)).toNat : Int) - (48 : Int)))) < IntKind.u64.wrap ((↑a : Int) * IntKind.u64.wrap (10 : Int))), false), (decide (IntKind.u64.wrap (IntKind.u64.wrap ((↑a : Int) * IntKind.u64.wrap (10 : Int)) + IntKind.u64.wrap (IntKind.u8.wrap ((↑(s.getD ((0 : Nat) + (↑i : Int).toNat) (0 : UInt8)).toNat : Int) - (48 : Int)))) > (65535 : Int)), true)] ∧ ((65535 : Int) = (65535 : Int) ∧ (1 : Int) = (1 : Int) ∧ True) ∧ True) := by kernel_rfl

set_option maxHeartbeats 4000000 in
theorem pu3 (s : List UInt8) (a i : Nat) (c : UInt8) (hi : i < s.length) (hl : s.length ≤ 1000000) (hc : s.getD i 0 = c) (ha : a ≤ 65535) (hd : 48 ≤ c.toNat ∧ c.toNat ≤ 57) (hn : 65535 < a * 10 + (c.toNat - 48))  :
    RunsTo Tryd.prog 114 (headOf Tryd.f114 0) (envAt Tryd.f114.ntmps ([(1, vN 10), (8, vB false), (9, vS s), (10, vQ 1844674407370955162), (11, vQ 65535), (12, .lb false), (13, vQ (a : Nat)), (99, vL 101 1 s.length), (100, vN s.length), (101, vN (i : Nat))])) (Sx.look ([] ++ (bW 101 s))) 80 (puV 65535 (puE 1)) (Sx.look ([])) 140 := by
  have k1 : IntKind.u8.wrap 10 = 10 := by decide
  have k2 : IntKind.u64.wrap 10 = 10 := by decide
  have hi0 : 0 + ((i : Nat) : Int).toNat = i := by simp
  have hw : IntKind.i64.wrap ((i : Int) + 1) = ((i + 1 : Nat) : Int) := by rw [wr64 (by omega)]; rfl
  have hb := u8nat c
  have hu : IntKind.u8.wrap (c.toNat : Int) = (c.toNat : Int) := u8id (u8nat c)
  have hd1 : IntKind.u8.wrap ((c.toNat : Int) - 48) = (c.toNat : Int) - 48 := u8id (by omega)
  have hd2 : IntKind.u64.wrap ((c.toNat : Int) - 48) = (c.toNat : Int) - 48 := u64id (by omega)
  have hm1 : IntKind.u64.wrap ((a : Int) * 10) = (a : Int) * 10 := u64id (by omega)
  have hm2 : IntKind.u64.wrap ((a : Int) * 10 + ((c.toNat : Int) - 48)) = (a : Int) * 10 + ((c.toNat : Int) - 48) := u64id (by omega)
  refine runs_last baseO (Sx.Ends.of (pu3_p0 s a i c) ⟨?oo, ?rr⟩) (by kernel_rfl) rfl (gtL (by decide)) (by decide)
  case oo =>
    refine (okc ?_ (okc ?_ (okc ?_ (okc ?_ (okc ?_ (okc ?_ (okc ?_ (okc ?_ (okc ?_ (okc ?_ (okc ?_ okn)))))))))))
    all_goals ((try simp only [hi0, k1, k2, hc, hw, hu, hd1, hd2, hm1, hm2]); first | done | rfl | omega | (simp (disch := omega) only [SS]; first | done | omega) | (subst hc; simp only [hi0, hu, k1, k2, hd1, hd2, hm1, hm2, dT, dF] at *; first | omega | (simp_all; done) | (simp_all; omega)))
  case rr =>
    first | exact ⟨⟨rfl, rfl⟩, trivial⟩ | (simp; done) | (refine ⟨?_, trivial⟩; first | rfl | (simp_all; done)) | decide

theorem pu4_p0 (s : List UInt8) (a i : Nat) (c : UInt8) :
    isEnd (evTill Tryd.prog [] 300 (99) 900 114 (headOf Tryd.f114 0) (envAt Tryd.f114.ntmps ([(1, vN 10), (8, vB false), (9, vS s), (10, vQ 1844674407370955162), (11, vQ 65535), (12, .lb false), (13, vQ (a : Nat)), (99, vL 101 1 s.length), (100, vN s.length), (101, vN (i : Nat))])) ([] ++ (bW 101 s)) ⟨[.s true, .s true, .s true, .s true, .s false, .s false, .s false], 110⟩) (endP ([]) (puV 0 (puE 2)) ([]) 140) =
    (OkL [(decide ((↑i : Int) < (↑s.length : Int)), true), (decide ((0 : Int) ≤ (↑i : Int) ∧ (↑i : Int) < (↑s.length : Int)), true), (((0 : Nat) + (↑i : Int).toNat).blt s.length, true), (((0 : Nat) + (↑i : Int).toNat).blt s.length, true), ((↑(s.getD ((0 : Nat) + (↑i : Int).toNat) (0 : UInt8)).toNat : Int) == (95 : Int), false), (decide ((48 : Int) ≤ (↑(s.getD ((0 : Nat) + (↑i : Int).toNat) (0 : UInt8)).toNat : Int)), false), (decide ((97 : Int) ≤ ior IntKind.u8 (↑(s.getD ((0 : Nat) + (↑i : Int).toNat) (0 : UInt8)).toNat : Int) (32 : Int)), false)] ∧ ((0 : Int) = (0 : Int) ∧ (2 : Int) = (2 : Int) ∧ True) ∧ True) := by kernel_rfl
theorem pu4_p1 (s : List UInt8) (a i : Nat) (c : UInt8) :
    isEnd (evTill Tryd.prog [] 300 (99) 900 114 (headOf Tryd.f114 0) (envAt Tryd.f114.ntmps ([(1, vN 10), (8, vB false), (9, vS s), (10, vQ 1844674407370955162), (11, vQ 65535), (12, .lb false), (13, vQ (a : Nat)), (99, vL 101 1 s.length), (100, vN s.length), (101, vN (i : Nat))])) ([] ++ (bW 101 s)) ⟨[.s true, .s true, .s true, .s true, .s false, .s true, .s false, .s false], 110⟩) (endP ([]) (puV 0 (puE 2)) ([]) 140) =
    (OkL [(decide ((↑i : Int) < (↑s.length : Int)), true), (decide ((0 : Int) ≤ (↑i : Int) ∧ (↑i : Int) < (↑s.length : Int)), true), (((0 : Nat) + (↑i : Int).toNat).blt s.length, true), (((0 : Nat) + (↑i : Int).toNat).blt s.length, true), ((↑(s.getD ((0 : Nat) + (↑i : Int).toNat) (0 : UInt8)).toNat : Int) == (95 : Int), false), (decide ((48 : Int) ≤ (↑(s.getD ((0 : Nat) + (↑i : Int).toNat) (0 : UInt8)).toNat : Int)), true), (decide ((↑(s.getD ((0 : Nat) + (↑i : Int).toNat) (0 : UInt8)).toNat : Int) ≤ (57 : Int)), false), (decide ((97 : Int) ≤ ior IntKind.u8 (↑(s.getD ((0 : Nat) + (↑i : Int).toNat) (0 : UInt8)).toNat : Int) (32 : Int)), false)] ∧ ((0 : Int) = (0 : Int) ∧ (2 : Int) = (2 : Int) ∧ True) ∧ True) := by kernel_rfl
theorem pu4_p2 (s : List UInt8) (a i : Nat) (c : UInt8) :
    isEnd (evTill Tryd.prog [] 300 (99) 900 114 (headOf Tryd.f114 0) (envAt Tryd.f114.ntmps ([(1, vN 10), (8, vB false), (9, vS s), (10, vQ 1844674407370955162), (11, vQ 65535), (12, .lb false), (13, vQ (a : Nat)), (99, vL 101 1 s.length), (100, vN s.length), (101, vN (i : Nat))])) ([] ++ (bW 101 s)) ⟨[.s true, .s true, .s true, .s true, .s false, .s true, .s false, .s true, .s false], 110⟩) (endP ([]) (puV 0 (puE 2)) ([]) 140) =
    (OkL [(decide ((↑i : Int) < (↑s.length : Int)), true), (decide ((0 : Int) ≤ (↑i : Int) ∧ (↑i : Int) < (↑s.length : Int)), true), (((0 : Nat) + (↑i : Int).toNat).blt s.length, true), (((0 : Nat) + (↑i : Int).toNat).blt s.length, true), ((↑(s.getD ((0 : Nat) + (↑i : Int).toNat) (0 : UInt8)).toNat : Int) == (95 : Int), false), (decide ((48 : Int) ≤ (↑(s.getD ((0 : Nat) + (↑i : Int).toNat) (0 : UInt8)).toNat : Int)), true), (decide ((↑(s.getD ((0 : Nat) + (↑i : Int).toNat) (0 : UInt8)).toNat : Int) ≤ (57 : Int)), false), (decide ((97 : Int) ≤ ior IntKind.u8 (↑(s.getD ((0 : Nat) + (↑i : Int).toNat) (0 : UInt8)).toNat : Int) (32 : Int)), true), (decide (ior IntKind.u8 (↑(s.getD ((0 : Nat) + (↑i : Int).toNat) (0 : UInt8)).toNat : Int) (32 : Int) ≤ (122 : Int)), false)] ∧ ((0 : Int) = (0 : Int) ∧ (2 : Int) = (2 : Int) ∧ True) ∧ True) := by kernel_rfl
theorem pu4_p3 (s : List UInt8) (a i : Nat) (c : UInt8) :
    isEnd (evTill Tryd.prog [] 300 (99) 900 114 (headOf Tryd.f114 0) (envAt Tryd.f114.ntmps ([(1, vN 10), (8, vB false), (9, vS s), (10, vQ 1844674407370955162), (11, vQ 65535), (12, .lb false), (13, vQ (a : Nat)), (99, vL 101 1 s.length), (100, vN s.length), (101, vN (i : Nat))])) ([] ++ (bW 101 s)) ⟨[.s true, .s true, .s true, .s true, .s false, .s true, .s false, .s true, .s true, .s true], 110⟩) (endP ([]) (puV 0 (puE 2)) ([]) 140) =
    (OkL [(decide ((↑i : Int) < (↑s.length : Int)), true), (decide ((0 : Int) ≤ (↑i : Int) ∧ (↑i : Int) < (↑s.length : Int)), true), (((0 : Nat) + (↑i : Int).toNat).blt s.length, true), (((0 : Nat) + (↑i : Int).toNat).blt s.length, true), ((↑(s.getD ((0 : Nat) + (↑i : Int).toNat) (0 : UInt8)).toNat : Int) == (95 : Int), false), (decide ((48 : Int) ≤ (↑(s.getD ((0 : Nat) + (↑i : Int).toNat) (0 : UInt8)).toNat : Int)), true), (decide ((↑(s.getD ((0 : Nat) + (↑i : Int).toNat) (0 : UInt8)).toNat : Int) ≤ (57 : Int)), false), (decide ((97 : Int) ≤ ior IntKind.u8 (↑(s.getD ((0 : Nat) + (↑i : Int).toNat) (0 : UInt8)).toNat : Int) (32 : Int)), true), (decide (ior IntKind.u8 (↑(s.getD ((0 : Nat) + (↑i : Int).toNat) (0 : UInt8)).toNat : Int) (32 : Int) ≤ (122 : Int)), true), (decide (IntKind.u8.wrap (IntKind.u8.wrap (ior IntKind.u8 (↑(s.getD ((0 : Nat) + (↑i : Int).toNat) (0 : UInt8)).toNat : Int) (32 : Int) - (97 : Int)) + (10 : Int)) ≥ IntKind.u8.wrap (10 : Int)), true)] ∧ ((0 : Int) = (0 : Int) ∧ (2 : Int) = (2 : Int) ∧ True) ∧ True) := by kernel_rfl
theorem pu4_p4 (s : List UInt8) (a i : Nat) (c : UInt8) :
    isEnd (evTill Tryd.prog [] 300 (99) 900 114 (headOf Tryd.f114 0) (envAt Tryd.f114.ntmps ([(1, vN 10), (8, vB false), (9, vS s), (10, vQ 1844674407370955162), (11, vQ 65535), (12, .lb false), (13, vQ (a : Nat)), (99, vL 101 1 s.length), (100, vN s.length), (101, vN (i : Nat))])) ([] ++ (bW 101 s)) ⟨[.s true, .s true, .s true, .s true, .s true, .f, .s true, .s false, .s true, .s false], 110⟩) (endP ([]) (puV 0 (puE 2)) ([]) 140) =
    (OkL [(decide ((↑i : Int) < (↑s.length : Int)), true), (decide ((0 : Int) ≤ (↑i : Int) ∧ (↑i : Int) < (↑s.length : Int)), true), (((0 : Nat) + (↑i : Int).toNat).blt s.length, true), (((0 : Nat) + (↑i : Int).toNat).blt s.length, true), ((↑(s.getD ((0 : Nat) + (↑i : Int).toNat) (0 : UInt8)).toNat : Int) == (95 : Int), true), (decide ((48 : Int) ≤ (↑(s.getD ((0 : Nat) + (↑i : Int).toNat) (0 : UInt8)).toNat : Int)), true), (decide ((↑(s.getD ((0 : Nat) + (↑i : Int).toNat) (0 : UInt8)).toNat : Int) ≤ (57 : Int)), false), (decide ((97 : Int) ≤ ior IntKind.u8 (↑(s.getD ((0 : Nat) + (↑i : Int).toNat) (0 : UInt8)).toNat : Int) (32 : Int)), true), (decide (ior IntKind.u8 (↑(s.getD ((0 : Nat) + (↑i : Int).toNat) (0 : UInt8)).toNat : Int) (32 : Int) ≤ (122 : Int)), false)] ∧ ((0 : Int) = (0 : Int) ∧ (2 : Int) = (2 : Int) ∧ True) ∧ True) := by kernel_rfl

set_option maxHeartbeats 4000000 in
theorem pu4 (s : List UInt8) (a i : Nat) (c : UInt8) (hi : i < s.length) (hl : s.length ≤ 1000000) (hc : s.getD i 0 = c) (ha : a ≤ 65535) (hd : ¬ (48 ≤ c.toNat ∧ c.toNat ≤ 57))  :
    RunsTo Tryd.prog 114 (headOf Tryd.f114 0) (envAt Tryd.f114.ntmps ([(1, vN 10), (8, vB false), (9, vS s), (10, vQ 1844674407370955162), (11, vQ 65535), (12, .lb false), (13, vQ (a : Nat)), (99, vL 101 1 s.length), (100, vN s.length), (101, vN (i : Nat))])) (Sx.look ([] ++ (bW 101 s))) 80 (puV 0 (puE 2)) (Sx.look ([])) 140 := by
  have k1 : IntKind.u8.wrap 10 = 10 := by decide
  have k2 : IntKind.u64.wrap 10 = 10 := by decide
  have hi0 : 0 + ((i : Nat) : Int).toNat = i := by simp
  have hw : IntKind.i64.wrap ((i : Int) + 1) = ((i + 1 : Nat) : Int) := by rw [wr64 (by omega)]; rfl
  have hb := u8nat c
  have hu : IntKind.u8.wrap (c.toNat : Int) = (c.toNat : Int) := u8id (u8nat c)
  have hx := low_c c
  have hx1 := hx.1
  have hx2 := hx.2
  have k3 : IntKind.u8.wrap 32 = 32 := by decide
  have k4 : ior .u8 95 32 = 127 := by kernel_rfl
  refine bcase (c := ((↑(s.getD ((0 : Nat) + (↑i : Int).toNat) (0 : UInt8)).toNat : Int) == (95 : Int))) (fun gg0 => ?_) (fun gg0 => ?_)
  · refine bcase (c := (decide ((48 : Int) ≤ (↑(s.getD ((0 : Nat) + (↑i : Int).toNat) (0 : UInt8)).toNat : Int)))) (fun gg1 => ?_) (fun gg1 => ?_)
    · refine runs_last baseO (Sx.Ends.of (pu4_p0 s a i c) ⟨?oo, ?rr⟩) (by kernel_rfl) rfl (gtL (by decide)) (by decide)
      case oo =>
        refine (okc ?_ (okc ?_ (okc ?_ (okc ?_ (okc gg0 (okc gg1 (okc ?_ okn)))))))
        all_goals ((try simp only [hi0, k1, k2, hc, hw, hu, k3]); first | done | rfl | omega | (simp (disch := omega) only [SS]; first | done | omega) | (subst hc; simp only [hi0, hu, k1, k2, k3, dT, dF] at *; first | omega | (simp_all; done) | (simp_all; omega)))
      case rr =>
        first | exact ⟨⟨rfl, rfl⟩, trivial⟩ | (simp; done) | (refine ⟨?_, trivial⟩; first | rfl | (simp_all; done)) | decide
    · refine bcase (c := (decide ((97 : Int) ≤ ior IntKind.u8 (↑(s.getD ((0 : Nat) + (↑i : Int).toNat) (0 : UInt8)).toNat : Int) (32 : Int)))) (fun gg2 => ?_) (fun gg2 => ?_)
      · refine runs_last baseO (Sx.Ends.of (pu4_p1 s a i c) ⟨?oo, ?rr⟩) (by kernel_rfl) rfl (gtL (by decide)) (by decide)
        case oo =>
          refine (okc ?_ (okc ?_ (okc ?_ (okc ?_ (okc gg0 (okc gg1 (okc ?_ (okc gg2 okn))))))))
          all_goals ((try simp only [hi0, k1, k2, hc, hw, hu, k3]); first | done | rfl | omega | (simp (disch := omega) only [SS]; first | done | omega) | (subst hc; simp only [hi0, hu, k1, k2, k3, dT, dF] at *; first | omega | (simp_all; done) | (simp_all; omega)))
        case rr =>
          first | exact ⟨⟨rfl, rfl⟩, trivial⟩ | (simp; done) | (refine ⟨?_, trivial⟩; first | rfl | (simp_all; done)) | decide
      · refine bcase (c := (decide (ior IntKind.u8 (↑(s.getD ((0 : Nat) + (↑i : Int).toNat) (0 : UInt8)).toNat : Int) (32 : Int) ≤ (122 : Int)))) (fun gg3 => ?_) (fun gg3 => ?_)
        · refine runs_last baseO (Sx.Ends.of (pu4_p2 s a i c) ⟨?oo, ?rr⟩) (by kernel_rfl) rfl (gtL (by decide)) (by decide)
          case oo =>
            refine (okc ?_ (okc ?_ (okc ?_ (okc ?_ (okc gg0 (okc gg1 (okc ?_ (okc gg2 (okc gg3 okn)))))))))
            all_goals ((try simp only [hi0, k1, k2, hc, hw, hu, k3]); first | done | rfl | omega | (simp (disch := omega) only [SS]; first | done | omega) | (subst hc; simp only [hi0, hu, k1, k2, k3, dT, dF] at *; first | omega | (simp_all; done) | (simp_all; omega)))
          case rr =>
            first | exact ⟨⟨rfl, rfl⟩, trivial⟩ | (simp; done) | (refine ⟨?_, trivial⟩; first | rfl | (simp_all; done)) | decide
        · refine runs_last baseO (Sx.Ends.of (pu4_p3 s a i c) ⟨?oo, ?rr⟩) (by kernel_rfl) rfl (gtL (by decide)) (by decide)
          case oo =>
            refine (okc ?_ (okc ?_ (okc ?_ (okc ?_ (okc gg0 (okc gg1 (okc ?_ (okc gg2 (okc gg3 (okc ?_ okn))))))))))
            all_goals ((try simp only [hi0, k1, k2, hc, hw, hu, k3]); first | done | rfl | omega | (simp (disch := omega) only [SS]; first | done | omega) | (subst hc; simp only [hi0, hu, k1, k2, k3, dT, dF] at *; first | omega | (simp_all; done) | (simp_all; omega)))
          case rr =>
            first | exact ⟨⟨rfl, rfl⟩, trivial⟩ | (simp; done) | (refine ⟨?_, trivial⟩; first | rfl | (simp_all; done)) | decide
  · refine runs_last baseO (Sx.Ends.of (pu4_p4 s a i c) ⟨?oo, ?rr⟩) (by kernel_rfl) rfl (gtL (by decide)) (by decide)
    case oo =>
      refine (okc ?_ (okc ?_ (okc ?_ (okc ?_ (okc gg0 (okc ?_ (okc ?_ (okc ?_ (okc ?_ okn)))))))))
      all_goals ((try simp only [hi0, k1, k2, hc, hw, hu, k3]); first | done | rfl | omega | (simp (disch := omega) only [SS]; first | done | omega) | (subst hc; simp only [hi0, hu, k1, k2, k3, dT, dF] at *; first | omega | (simp_all; done) | (simp_all; omega)))
    case rr =>
      first | exact ⟨⟨rfl, rfl⟩, trivial⟩ | (simp; done) | (refine ⟨?_, trivial⟩; first | rfl | (simp_all; done)) | decide

theorem pu5_p0 (s : List UInt8) (a i : Nat) :
    isEnd (evTill Tryd.prog [] 300 (99) 900 114 (headOf Tryd.f114 0) (envAt Tryd.f114.ntmps ([(1, vN 10), (8, vB false), (9, vS s), (10, vQ 1844674407370955162), (11, vQ 65535), (12, .lb false), (13, vQ (a : Nat)), (99, vL 101 1 s.length), (100, vN s.length), (101, vN (i : Nat))])) ([] ++ (bW 101 s)) ⟨[.s false], 110⟩) (endP ([]) (puV (a : Nat) .ve0) ([]) 140) =
    (OkL [(decide ((↑i : Int) < (↑s.length : Int)), false)] ∧ ((↑a : Int) = (↑a : Int) ∧ True ∧ True) ∧ True) := by kernel_rfl

set_option maxHeartbeats 4000000 in
theorem pu5 (s : List UInt8) (a i : Nat) (hi : i = s.length)  :
    RunsTo Tryd.prog 114 (headOf Tryd.f114 0) (envAt Tryd.f114.ntmps ([(1, vN 10), (8, vB false), (9, vS s), (10, vQ 1844674407370955162), (11, vQ 65535), (12, .lb false), (13, vQ (a : Nat)), (99, vL 101 1 s.length), (100, vN s.length), (101, vN (i : Nat))])) (Sx.look ([] ++ (bW 101 s))) 80 (puV (a : Nat) .ve0) (Sx.look ([])) 140 := by
  refine runs_last baseO (Sx.Ends.of (pu5_p0 s a i) ⟨?oo, ?rr⟩) (by kernel_rfl) rfl (gtL (by decide)) (by decide)
  case oo =>
    refine (okc ?_ okn)
    all_goals ((try simp (disch := omega) only [SS]); first | done | omega | assumption | (simp (disch := omega) only [SS] at *; first | done | omega | assumption) | (simp_all; done))
  case rr =>
    try simp (disch := omega) only [SS]
    repeat' apply And.intro
    all_goals first | exact True.intro | with_reducible rfl | omega | (intros; first | exact True.intro | with_reducible rfl | omega | (simp_all; done)) | (simp_all; done) | rfl

theorem puT (s : List UInt8) (hl : s.length ≤ 1000000) : RunsTo Tryd.prog 114 [.code (bodyOf Tryd.f114)] (envOf [vS s, vN 10, vN 16] Tryd.f114.ntmps) (Sx.look ([] ++ ([]))) 80 (puR3 (puN s)) (Sx.look []) 140 := by
  unfold puN
  by_cases hs : s = []
  · subst hs
    rw [if_pos rfl]
    exact pu0 0
  rw [if_neg hs]
  refine pu1 s hs _ _ ?_
  suffices q : ∀ (k i a : Nat), i + k = s.length → a ≤ 65535 → RunsTo Tryd.prog 114 (headOf Tryd.f114 0) (envAt Tryd.f114.ntmps ([(1, vN 10), (8, vB false), (9, vS s), (10, vQ 1844674407370955162), (11, vQ 65535), (12, .lb false), (13, vQ (a : Nat)), (99, vL 101 1 s.length), (100, vN s.length), (101, vN (i : Nat))])) (Sx.look ([] ++ (bW 101 s))) 80 (puR3 (puR a (s.drop i))) (Sx.look []) 140 from q s.length 0 0 (by omega) (by omega)
  intro k
  induction k with
  | zero =>
    intro i a hi ha
    rw [List.drop_eq_nil_of_le (by omega)]
    exact pu5 s a i (by omega)
  | succ k ih =>
    intro i a hi ha
    rw [drop_at s (show i < s.length by omega)]
    generalize hc : s.getD i 0 = c
    rw [puR]
    by_cases hd : 48 ≤ c.toNat ∧ c.toNat ≤ 57
    · rw [if_pos hd]
      by_cases hn : 65535 < a * 10 + (c.toNat - 48)
      · rw [if_pos hn]; exact pu3 s a i c (by omega) hl hc ha hd hn
      · rw [if_neg hn]; exact pu2 s a i c (by omega) hl hc ha hd hn _ _ (ih (i + 1) _ (by omega) (by omega))
    · rw [if_neg hd]; exact pu4 s a i c (by omega) hl hc ha hd
theorem puT0 (s : List UInt8) (b q : Int) (hb : b = 10) (hq : q = 16) (hl : s.length ≤ 1000000) (h : (puN s).2 = 0) : RunsTo Tryd.prog 114 [.code (bodyOf Tryd.f114)] (envOf [vS s, vN b, vN q] Tryd.f114.ntmps) (Sx.look ([] ++ ([]))) 80 (puV (numV s) (.ve0)) (Sx.look []) 140 := by
  subst hb; subst hq
  have := puT s hl
  unfold puR3 at this
  rw [h] at this
  exact this
def puP0 : PC := { args := [.v (.vs 0), .v (.vi .i64 1), .v (.vi .i64 2)], heap := [], gs := [], G := 24, tp := 194, n := 80, n' := 140, cond := fun e => decide (eI e 1 [] = 10) && (decide (eI e 2 [] = 16) && (decide ((eS e 0 []).length ≤ 1000000) && decide ((puN (eS e 0 [])).2 = 0))), v := fun e => puV (numV (eS e 0 [])) (.ve0), post := fun e => [] }
theorem puP0_pc : PC.Runs Tryd.prog 114 Tryd.f114 (bodyOf Tryd.f114) puP0 := ⟨Tryd.func114, by kernel_rfl, (fun g hg => by first | (cases hg; done) | (revert g; show ∀ g ∈ ([] : List Nat), g < 24; decide)), fun e H hc => by
  have hc : (decide (eI e 1 [] = 10) && (decide (eI e 2 [] = 16) && (decide ((eS e 0 []).length ≤ 1000000) && decide ((puN (eS e 0 [])).2 = 0)))) = true := hc
  try simp only [Bool.and_eq_true, decide_eq_true_eq, Nat.beq_eq] at hc
  exact puT0 (eS e 0 []) (eI e 1 []) (eI e 2 []) hc.1 hc.2.1 hc.2.2.1 hc.2.2.2⟩
def sumsU0 : List (FuncId × Summ) := [(114, puP0.summ 48), (115, tErrSumm)]
theorem baseU0 : Base0 Tryd.prog sumsU0 := ((baseO.cons Tryd.func115 (by kernel_rfl) tErr_ok).cons Tryd.func114 (by kernel_rfl) (PC.summ_ok puP0_pc gtopG))
theorem puT1 (s : List UInt8) (b q : Int) (hb : b = 10) (hq : q = 16) (hl : s.length ≤ 1000000) (h : (puN s).2 = 1) : RunsTo Tryd.prog 114 [.code (bodyOf Tryd.f114)] (envOf [vS s, vN b, vN q] Tryd.f114.ntmps) (Sx.look ([] ++ ([]))) 80 (puV (numV s) (puE 1)) (Sx.look []) 140 := by
  subst hb; subst hq
  have := puT s hl
  unfold puR3 at this
  rw [h] at this
  exact this
def puP1 : PC := { args := [.v (.vs 0), .v (.vi .i64 1), .v (.vi .i64 2)], heap := [], gs := [], G := 24, tp := 194, n := 80, n' := 140, cond := fun e => decide (eI e 1 [] = 10) && (decide (eI e 2 [] = 16) && (decide ((eS e 0 []).length ≤ 1000000) && decide ((puN (eS e 0 [])).2 = 1))), v := fun e => puV (numV (eS e 0 [])) (puE 1), post := fun e => [] }
theorem puP1_pc : PC.Runs Tryd.prog 114 Tryd.f114 (bodyOf Tryd.f114) puP1 := ⟨Tryd.func114, by kernel_rfl, (fun g hg => by first | (cases hg; done) | (revert g; show ∀ g ∈ ([] : List Nat), g < 24; decide)), fun e H hc => by
  have hc : (decide (eI e 1 [] = 10) && (decide (eI e 2 [] = 16) && (decide ((eS e 0 []).length ≤ 1000000) && decide ((puN (eS e 0 [])).2 = 1)))) = true := hc
  try simp only [Bool.and_eq_true, decide_eq_true_eq, Nat.beq_eq] at hc
  exact puT1 (eS e 0 []) (eI e 1 []) (eI e 2 []) hc.1 hc.2.1 hc.2.2.1 hc.2.2.2⟩
def sumsU1 : List (FuncId × Summ) := [(114, puP1.summ 48), (115, tErrSumm)]
theorem baseU1 : Base0 Tryd.prog sumsU1 := ((baseO.cons Tryd.func115 (by kernel_rfl) tErr_ok).cons Tryd.func114 (by kernel_rfl) (PC.summ_ok puP1_pc gtopG))
theorem puT2 (s : List UInt8) (b q : Int) (hb : b = 10) (hq : q = 16) (hl : s.length ≤ 1000000) (h : (puN s).2 = 2) : RunsTo Tryd.prog 114 [.code (bodyOf Tryd.f114)] (envOf [vS s, vN b, vN q] Tryd.f114.ntmps) (Sx.look ([] ++ ([]))) 80 (puV (numV s) (puE 2)) (Sx.look []) 140 := by
  subst hb; subst hq
  have := puT s hl
  unfold puR3 at this
  rw [h] at this
  exact this
def puP2 : PC := { args := [.v (.vs 0), .v (.vi .i64 1), .v (.vi .i64 2)], heap := [], gs := [], G := 24, tp := 194, n := 80, n' := 140, cond := fun e => decide (eI e 1 [] = 10) && (decide (eI e 2 [] = 16) && (decide ((eS e 0 []).length ≤ 1000000) && decide ((puN (eS e 0 [])).2 = 2))), v := fun e => puV (numV (eS e 0 [])) (puE 2), post := fun e => [] }
theorem puP2_pc : PC.Runs Tryd.prog 114 Tryd.f114 (bodyOf Tryd.f114) puP2 := ⟨Tryd.func114, by kernel_rfl, (fun g hg => by first | (cases hg; done) | (revert g; show ∀ g ∈ ([] : List Nat), g < 24; decide)), fun e H hc => by
  have hc : (decide (eI e 1 [] = 10) && (decide (eI e 2 [] = 16) && (decide ((eS e 0 []).length ≤ 1000000) && decide ((puN (eS e 0 [])).2 = 2)))) = true := hc
  try simp only [Bool.and_eq_true, decide_eq_true_eq, Nat.beq_eq] at hc
  exact puT2 (eS e 0 []) (eI e 1 []) (eI e 2 []) hc.1 hc.2.1 hc.2.2.1 hc.2.2.2⟩
def sumsU2 : List (FuncId × Summ) := [(114, puP2.summ 48), (115, tErrSumm)]
theorem baseU2 : Base0 Tryd.prog sumsU2 := ((baseO.cons Tryd.func115 (by kernel_rfl) tErr_ok).cons Tryd.func114 (by kernel_rfl) (PC.summ_ok puP2_pc gtopG))
end Go.Proofs.YtankmgnjkcgpaaaDoor

