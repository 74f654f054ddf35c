/- Tables, act by act: the document's parts. -/
import Derived.Test.YtealbjkhjpmilaaDoorRaC
set_option linter.unusedSimpArgs false
set_option linter.unusedVariables false
set_option maxRecDepth 100000
namespace Go.Proofs.YtealbjkhjpmilaaDoor
open Go.Sx

abbrev Rw := Int × Int × Int × Bool
def rS (l : List Rw) : Ix → Int := fun is => match is with | [i] => (l.getD i (0, 0, 0, false)).1 | _ => 0
def rO (l : List Rw) : Ix → Int := fun is => match is with | [i] => (l.getD i (0, 0, 0, false)).2.1 | _ => 0
def rK (l : List Rw) : Ix → Int := fun is => match is with | [i] => (l.getD i (0, 0, 0, false)).2.2.1 | _ => 0
def rB (l : List Rw) : Ix → Bool := fun is => match is with | [i] => (l.getD i (0, 0, 0, false)).2.2.2 | _ => false
def rowT4 (RS RO RK : Ix → Int) (RB : Ix → Bool) : Tr := .tc (.vi .i64 RS) (.tc (.vi .i64 RO) (.tc (.tc (.vi .i64 RK) (.tc (.vb RB) .t0)) .t0))
def mdT (u N M l R : Nat) (h a s : Int) : Tr := .tc (.vl u (fun _ => 0) 1 [] (fun _ => N)) (.tc (.vl (u + 1) (fun _ => 0) 1 [] (fun _ => M)) (.tc (.vl l (fun _ => 0) 4 [] (fun _ => R)) (.tc (.vi .i64 fun _ => h) (.tc (.vi .i64 fun _ => a) (.tc (.vi .i64 fun _ => s) .t0)))))
def mdE (p u N M l R : Nat) (h a s : Int) (RS RO RK : Ix → Int) (RB : Ix → Bool) : List Ent := [⟨p, true, none, 6, mdT u N M l R h a s⟩, ⟨l, true, none, 4, .ta R (rowT4 RS RO RK RB)⟩]
def mtB (RS RO : Ix → Int) (sd op : Int) (i : Nat) : Bool := decide (RS [i] = sd) && decide (RO [i] = op)
def fnd (RS RO : Ix → Int) (sd op : Int) : Nat → Nat → Option Nat
  | 0, _ => none
  | k + 1, i => if mtB RS RO sd op i = true then some i else fnd RS RO sd op k (i + 1)
def kOf (RK : Ix → Int) : Option Nat → Int
  | none => 0
  | some i => RK [i]
def bOf (RB : Ix → Bool) : Option Nat → Bool
  | none => false
  | some i => RB [i]
def keepL (RS RO RK : Ix → Int) (RB : Ix → Bool) (sd op : Int) : Nat → List Rw
  | 0 => []
  | i + 1 => if mtB RS RO sd op i = true then keepL RS RO RK RB sd op i else keepL RS RO RK RB sd op i ++ [(RS [i], RO [i], RK [i], RB [i])]
theorem keep_yes {RS RO RK : Ix → Int} {RB : Ix → Bool} {sd op : Int} {i : Nat} (h : mtB RS RO sd op i = true) : keepL RS RO RK RB sd op (i + 1) = keepL RS RO RK RB sd op i := by simp only [keepL, h, if_true]
theorem keep_no {RS RO RK : Ix → Int} {RB : Ix → Bool} {sd op : Int} {i : Nat} (h : mtB RS RO sd op i = false) : keepL RS RO RK RB sd op (i + 1) = keepL RS RO RK RB sd op i ++ [(RS [i], RO [i], RK [i], RB [i])] := by simp only [keepL, h]; rfl
theorem keep_len {RS RO RK : Ix → Int} {RB : Ix → Bool} {sd op : Int} : ∀ i, (keepL RS RO RK RB sd op i).length ≤ i
  | 0 => by simp [keepL]
  | i + 1 => by
    have := keep_len (RS := RS) (RO := RO) (RK := RK) (RB := RB) (sd := sd) (op := op) i
    simp only [keepL]
    split
    · omega
    · simp only [List.length_append, List.length_cons, List.length_nil]; omega
theorem getD_snoc {α : Type} (l : List α) (x d : α) (i : Nat) (h : i < l.length + 1) : (l ++ [x]).getD i d = if i < l.length then l.getD i d else x := by
  simp only [List.getD_eq_getElem?_getD]
  split
  · rename_i h2; rw [List.getElem?_append_left h2]
  · rename_i h2
    obtain rfl : i = l.length := (by omega)
    simp
theorem rS_snoc (l : List Rw) (x : Rw) (i : Nat) (h : i < l.length + 1) : rS (l ++ [x]) [i] = if i < l.length then rS l [i] else x.1 := by
  simp only [rS, getD_snoc l x _ i h]; split <;> rfl
theorem rO_snoc (l : List Rw) (x : Rw) (i : Nat) (h : i < l.length + 1) : rO (l ++ [x]) [i] = if i < l.length then rO l [i] else x.2.1 := by
  simp only [rO, getD_snoc l x _ i h]; split <;> rfl
theorem rK_snoc (l : List Rw) (x : Rw) (i : Nat) (h : i < l.length + 1) : rK (l ++ [x]) [i] = if i < l.length then rK l [i] else x.2.2.1 := by
  simp only [rK, getD_snoc l x _ i h]; split <;> rfl
theorem rB_snoc (l : List Rw) (x : Rw) (i : Nat) (h : i < l.length + 1) : rB (l ++ [x]) [i] = if i < l.length then rB l [i] else x.2.2.2 := by
  simp only [rB, getD_snoc l x _ i h]; split <;> rfl
def lowB (RK : Ix → Int) : Nat → Nat → Bool
  | 0, _ => true
  | k + 1, i => decide (RK [i] ≤ 1) && lowB RK k (i + 1)
/-- The numbers of what is on. -/
def onL (K : Ix → Int) (O : Ix → Bool) (sd : Int) : Nat → List Int
  | 0 => []
  | n + 1 => if K [sd.toNat, n] = 1 ∧ O [sd.toNat, n] = false then onL K O sd n ++ [(n : Int)] else onL K O sd n
def liI (l : List Int) : Ix → Int := fun is => match is with | [i] => l.getD i 0 | _ => 0
theorem li_snoc (l : List Int) (x : Int) (i : Nat) (h : i < l.length + 1) : liI (l ++ [x]) [i] = if i < l.length then liI l [i] else x := by
  simp only [liI, getD_snoc l x _ i h]
theorem on_len {K : Ix → Int} {O : Ix → Bool} {sd : Int} : ∀ i, (onL K O sd i).length ≤ i
  | 0 => by simp [onL]
  | i + 1 => by
    have := on_len (K := K) (O := O) (sd := sd) i
    simp only [onL]
    split
    · simp only [List.length_append, List.length_cons, List.length_nil]; omega
    · omega
def onR (RS RO RK : Ix → Int) (R : Nat) (sd : Int) : Nat → List Int
  | 0 => []
  | n + 1 => if kOf RK (fnd RS RO sd n R 0) = 1 then onR RS RO RK R sd n ++ [(n : Int)] else onR RS RO RK R sd n
theorem onR_len {RS RO RK : Ix → Int} {R : Nat} {sd : Int} : ∀ i, (onR RS RO RK R sd i).length ≤ i
  | 0 => by simp [onR]
  | i + 1 => by
    have := onR_len (RS := RS) (RO := RO) (RK := RK) (R := R) (sd := sd) i
    simp only [onR]
    split
    · simp only [List.length_append, List.length_cons, List.length_nil]; omega
    · omega
def moveT (k : Int) (o : Bool) (z : Int) (w : Bool) : Tr := .tc (stT k o) (.tc (.vi .i64 fun _ => z) (.tc (.vb fun _ => w) .t0))

def rowI (l N : Nat) (U : Ix → Int) : List Ent := [⟨l, false, none, 1, .ta N (.vi .i64 U)⟩]
def mdP (p u l i : Nat) : List PE := [⟨p, true, 6, .tc (.vl u 1 i) (.tc (.vl (u + 1) 1 (i + 1)) (.tc (.vl l 4 (i + 2)) (.tc (.vi .i64 (i + 3)) (.tc (.vi .i64 (i + 4)) (.tc (.vi .i64 (i + 5)) .t0)))))⟩, ⟨l, true, 4, .ta (i + 2) (.tc (.vi .i64 (i + 6)) (.tc (.vi .i64 (i + 7)) (.tc (.tc (.vi .i64 (i + 8)) (.tc (.vb (i + 9)) .t0)) .t0)))⟩]
def resE (p : Nat) (k : Int) (o : Bool) : List Ent := [⟨p, true, none, 2, stT k o⟩]
def hsE (N i : Nat) (n : Int) : List (Nat × SV) := [(1, vN n), (7, vL 60 1 N), (8, vN N), (9, vN i)]
def sfE (R i : Nat) (sd op : Int) : List (Nat × SV) := [(1, vN sd), (2, vN op), (6, vP 86), (12, vL 63 4 R), (13, vN R), (14, vN i)]
def seE (R i c : Nat) (sd op : Int) : List (Nat × SV) := [(0, vP 60), (1, vN sd), (2, vN op), (7, vP 86), (8, vL 85 4 c), (15, vL 63 4 R), (16, vN R), (17, vN i)]
def caE (R i : Nat) : List (Nat × SV) := [(8, vL 63 4 R), (9, vN R), (10, vN i)]
def outE (l : Nat) (q : List Rw) : List Ent := [⟨l, true, none, 4, .ta q.length (rowT4 (rS q) (rO q) (rK q) (rB q))⟩]

theorem hs0_p0 (N : Nat) (U : Ix → Int) (n : Int) :
    isMore (evTill Tryd.prog [] 200 (behind Tryd.f86 0) 900 86 [.code (bodyOf Tryd.f86)] (envOf [vL 60 1 N, vN n] Tryd.f86.ntmps) (rowI 60 N U ++ []) ⟨[], 80⟩) (moreP (headOf Tryd.f86 0) ([]) Tryd.f86.ntmps (hsE N 0 n) ([]) 120) =
    (OkL [] ∧ headOf Tryd.f86 (0 : Nat) = headOf Tryd.f86 (0 : Nat) ∧ (n = n ∧ ((0 : Nat) = (0 : Nat) ∧ N = N) ∧ (↑N : Int) = (↑N : Int) ∧ (↑(0 : Nat) : Int) = (0 : Int)) ∧ True) := by kernel_rfl

set_option maxHeartbeats 4000000 in
theorem hs0 (N : Nat) (U : Ix → Int) (n : Int) (v : SV) (L' : HF) (next : RunsTo Tryd.prog 86 (headOf Tryd.f86 0) (envAt Tryd.f86.ntmps (hsE N 0 n)) (Sx.look (rowI 60 N U ++ [])) 80 v L' 120) :
    RunsTo Tryd.prog 86 [.code (bodyOf Tryd.f86)] (envOf [vL 60 1 N, vN n] Tryd.f86.ntmps) (Sx.look (rowI 60 N U ++ [])) 80 v L' 120 := by
  refine runs_more baseO (More.of (hs0_p0 N U n) ⟨okn, rfl, ?_⟩) (by kernel_rfl) (by kernel_rfl) rfl (gtL (by decide)) (by decide) next
  clear next
  simp

theorem hsN_p0 (N : Nat) (U : Ix → Int) (n : Int) (i : Nat) :
    isMore (evTill Tryd.prog [] 200 (behind Tryd.f86 0) 900 86 (headOf Tryd.f86 0) (envAt Tryd.f86.ntmps (hsE N i n)) (rowI 60 N U ++ []) ⟨[.s true, .s true, .s true, .s true, .s false], 90⟩) (moreP (headOf Tryd.f86 0) ([]) Tryd.f86.ntmps (hsE N (i + 1) n) ([]) 120) =
    (OkL [(decide ((↑i : Int) < (↑N : Int)), true), (decide ((0 : Int) ≤ (↑i : Int) ∧ (↑i : Int) < (↑N : Int)), true), (((0 : Nat) + (↑i : Int).toNat).blt N, true), (((0 : Nat) + (↑i : Int).toNat).blt N, true), (U [(0 : Nat) + (↑i : Int).toNat] == n, false)] ∧ headOf Tryd.f86 (0 : Nat) = headOf Tryd.f86 (0 : Nat) ∧ (n = n ∧ ((0 : Nat) = (0 : Nat) ∧ N = N) ∧ (↑N : Int) = (↑N : Int) ∧ (↑(i + (1 : Nat)) : Int) = IntKind.i64.wrap ((↑i : Int) + (1 : Int))) ∧ True) := by kernel_rfl

set_option maxHeartbeats 4000000 in
theorem hsN (N : Nat) (U : Ix → Int) (n : Int) (i : Nat) (hi : i < N) (hN : N ≤ 100) (hc : U [i] ≠ n) (v : SV) (L' : HF) (next : RunsTo Tryd.prog 86 (headOf Tryd.f86 0) (envAt Tryd.f86.ntmps (hsE N (i + 1) n)) (Sx.look (rowI 60 N U ++ [])) 80 v L' 120) :
    RunsTo Tryd.prog 86 (headOf Tryd.f86 0) (envAt Tryd.f86.ntmps (hsE N i n)) (Sx.look (rowI 60 N U ++ [])) 80 v L' 120 := by
  have gg0 : (decide ((↑i : Int) < (↑N : Int))) = true := by clear next; first | (simp (disch := omega) only [SS, List.nil_append, List.cons_append, Go.Sx.sum] at *; omega) | (simp (disch := omega) only [SS, List.nil_append, List.cons_append, Go.Sx.sum] at *; done) | (simp (disch := omega) only [SS, List.nil_append, List.cons_append, Go.Sx.sum] at *; grind [mtB])
  have gg1 : (decide ((0 : Int) ≤ (↑i : Int) ∧ (↑i : Int) < (↑N : Int))) = true := by clear next; first | (simp (disch := omega) only [SS, List.nil_append, List.cons_append, Go.Sx.sum] at *; omega) | (simp (disch := omega) only [SS, List.nil_append, List.cons_append, Go.Sx.sum] at *; done) | (simp (disch := omega) only [SS, List.nil_append, List.cons_append, Go.Sx.sum] at *; grind [mtB])
  have gg2 : (((0 : Nat) + (↑i : Int).toNat).blt N) = true := by clear next; first | (simp (disch := omega) only [SS, List.nil_append, List.cons_append, Go.Sx.sum] at *; omega) | (simp (disch := omega) only [SS, List.nil_append, List.cons_append, Go.Sx.sum] at *; done) | (simp (disch := omega) only [SS, List.nil_append, List.cons_append, Go.Sx.sum] at *; grind [mtB])
  have gg3 : (U [(0 : Nat) + (↑i : Int).toNat] == n) = false := by clear next; first | (simp (disch := omega) only [SS, List.nil_append, List.cons_append, Go.Sx.sum] at *; omega) | (simp (disch := omega) only [SS, List.nil_append, List.cons_append, Go.Sx.sum] at *; done) | (simp (disch := omega) only [SS, List.nil_append, List.cons_append, Go.Sx.sum] at *; grind [mtB])
  refine runs_more baseO (More.of (hsN_p0 N U n i) ⟨(okc gg0 (okc gg1 (okc gg2 (okc gg2 (okc gg3 okn))))), rfl, ?_⟩) (by kernel_rfl) (by kernel_rfl) rfl (gtL (by decide)) (by decide) next
  clear next
  have hw : IntKind.i64.wrap ((i : Int) + 1) = ((i + 1 : Nat) : Int) := by rw [wr64 (by omega)]; rfl
  simp [hw]

theorem hsY_p0 (N : Nat) (U : Ix → Int) (n : Int) (i : Nat) :
    isEnd (evTill Tryd.prog [] 200 (behind Tryd.f86 0) 900 86 (headOf Tryd.f86 0) (envAt Tryd.f86.ntmps (hsE N i n)) (rowI 60 N U ++ []) ⟨[.s true, .s true, .s true, .s true, .s true], 90⟩) (endP ([]) YES [] 120) =
    (OkL [(decide ((↑i : Int) < (↑N : Int)), true), (decide ((0 : Int) ≤ (↑i : Int) ∧ (↑i : Int) < (↑N : Int)), true), (((0 : Nat) + (↑i : Int).toNat).blt N, true), (((0 : Nat) + (↑i : Int).toNat).blt N, true), (U [(0 : Nat) + (↑i : Int).toNat] == n, true)] ∧ true = true ∧ True) := by kernel_rfl

set_option maxHeartbeats 4000000 in
theorem hsY (N : Nat) (U : Ix → Int) (n : Int) (i : Nat) (hi : i < N) (hN : N ≤ 100) (hc : U [i] = n) :
    RunsTo Tryd.prog 86 (headOf Tryd.f86 0) (envAt Tryd.f86.ntmps (hsE N i n)) (Sx.look (rowI 60 N U ++ [])) 80 YES (Sx.look ([])) 120 := by
  have gg0 : (decide ((↑i : Int) < (↑N : Int))) = true := by first | (simp (disch := omega) only [SS, List.nil_append, List.cons_append, Go.Sx.sum] at *; omega) | (simp (disch := omega) only [SS, List.nil_append, List.cons_append, Go.Sx.sum] at *; done) | (simp (disch := omega) only [SS, List.nil_append, List.cons_append, Go.Sx.sum] at *; grind [mtB])
  have gg1 : (decide ((0 : Int) ≤ (↑i : Int) ∧ (↑i : Int) < (↑N : Int))) = true := by first | (simp (disch := omega) only [SS, List.nil_append, List.cons_append, Go.Sx.sum] at *; omega) | (simp (disch := omega) only [SS, List.nil_append, List.cons_append, Go.Sx.sum] at *; done) | (simp (disch := omega) only [SS, List.nil_append, List.cons_append, Go.Sx.sum] at *; grind [mtB])
  have gg2 : (((0 : Nat) + (↑i : Int).toNat).blt N) = true := by first | (simp (disch := omega) only [SS, List.nil_append, List.cons_append, Go.Sx.sum] at *; omega) | (simp (disch := omega) only [SS, List.nil_append, List.cons_append, Go.Sx.sum] at *; done) | (simp (disch := omega) only [SS, List.nil_append, List.cons_append, Go.Sx.sum] at *; grind [mtB])
  have gg3 : (U [(0 : Nat) + (↑i : Int).toNat] == n) = true := by first | (simp (disch := omega) only [SS, List.nil_append, List.cons_append, Go.Sx.sum] at *; omega) | (simp (disch := omega) only [SS, List.nil_append, List.cons_append, Go.Sx.sum] at *; done) | (simp (disch := omega) only [SS, List.nil_append, List.cons_append, Go.Sx.sum] at *; grind [mtB])
  refine runs_last baseO (Sx.Ends.of (hsY_p0 N U n i) ⟨(okc gg0 (okc gg1 (okc gg2 (okc gg2 (okc gg3 okn))))), ?_⟩) (by kernel_rfl) rfl (gtL (by decide)) (by decide)
  simp

theorem hsZ_p0 (N : Nat) (U : Ix → Int) (n : Int) (i : Nat) :
    isEnd (evTill Tryd.prog [] 200 (behind Tryd.f86 0) 900 86 (headOf Tryd.f86 0) (envAt Tryd.f86.ntmps (hsE N i n)) (rowI 60 N U ++ []) ⟨[.s false], 90⟩) (endP ([]) (.v (.vb fun _ => false)) [] 120) =
    (OkL [(decide ((↑i : Int) < (↑N : Int)), false)] ∧ false = false ∧ True) := by kernel_rfl

set_option maxHeartbeats 4000000 in
theorem hsZ (N : Nat) (U : Ix → Int) (n : Int) (i : Nat) (hi : i = N) :
    RunsTo Tryd.prog 86 (headOf Tryd.f86 0) (envAt Tryd.f86.ntmps (hsE N i n)) (Sx.look (rowI 60 N U ++ [])) 80 (.v (.vb fun _ => false)) (Sx.look ([])) 120 := by
  have gg0 : (decide ((↑i : Int) < (↑N : Int))) = false := by first | (simp (disch := omega) only [SS, List.nil_append, List.cons_append, Go.Sx.sum] at *; omega) | (simp (disch := omega) only [SS, List.nil_append, List.cons_append, Go.Sx.sum] at *; done) | (simp (disch := omega) only [SS, List.nil_append, List.cons_append, Go.Sx.sum] at *; grind [mtB])
  refine runs_last baseO (Sx.Ends.of (hsZ_p0 N U n i) ⟨(okc gg0 okn), ?_⟩) (by kernel_rfl) rfl (gtL (by decide)) (by decide)
  simp

def hasF (U : Ix → Int) (n : Int) : Nat → Nat → Bool
  | 0, _ => false
  | k + 1, i => decide (U [i] = n) || hasF U n k (i + 1)
theorem hsL (N : Nat) (U : Ix → Int) (n : Int) (hN : N ≤ 100) : ∀ k i, i + k = N → RunsTo Tryd.prog 86 (headOf Tryd.f86 0) (envAt Tryd.f86.ntmps (hsE N i n)) (Sx.look (rowI 60 N U ++ [])) 80 (.v (.vb fun _ => hasF U n k i)) (Sx.look ([])) 120 := by
  intro k
  induction k with
  | zero => intro i hi; exact hsZ N U n i (by omega)
  | succ k ih =>
    intro i hi
    by_cases hc : U [i] = n
    · have e : hasF U n (k + 1) i = true := by simp only [hasF, hc, decide_true, Bool.true_or]
      rw [e]; exact hsY N U n i (by omega) hN hc
    · have e : hasF U n (k + 1) i = hasF U n k (i + 1) := by simp only [hasF, hc, decide_false, Bool.false_or]
      rw [e]; exact hsN N U n i (by omega) hN hc _ _ (ih (i + 1) (by omega))
def hasPC : PC := { args := [.v (.vl 60 1 0), .v (.vi .i64 2)], heap := [⟨60, false, 1, .ta 0 (.vi .i64 1)⟩], gs := [], G := 25, tp := 223, n := 80, n' := 120, cond := fun e => decide (eN e 0 ≤ 100), v := fun e => .v (.vb fun _ => hasF (eI e 1) (eI e 2 []) (eN e 0) 0), post := fun e => [] }
theorem has_pc : PC.Runs Tryd.prog 86 Tryd.f86 (bodyOf Tryd.f86) hasPC := ⟨Tryd.func86, by kernel_rfl, (fun g hg => by cases hg), fun e H hc => hs0 (eN e 0) (eI e 1) (eI e 2 []) _ _ (hsL (eN e 0) (eI e 1) (eI e 2 []) (of_decide_eq_true hc) (eN e 0) 0 (by omega))⟩

theorem sf0_p0 (N M R : Nat) (h a s sd op : Int) (RS RO RK : Ix → Int) (RB : Ix → Bool) :
    isMore (evTill Tryd.prog [] 200 (behind Tryd.f87 0) 900 87 [.code (bodyOf Tryd.f87)] (envOf [vP 60, vN sd, vN op] Tryd.f87.ntmps) ([] ++ mdE 60 61 N M 63 R h a s RS RO RK RB) ⟨[], 80⟩) (moreP (headOf Tryd.f87 0) ([((86 : Nat), Rn.to (80 : Nat))]) Tryd.f87.ntmps (sfE R 0 sd op) (resE 86 0 false ++ mdE 60 61 N M 63 R h a s RS RO RK RB) 120) =
    (OkL [] ∧ headOf Tryd.f87 (0 : Nat) = headOf Tryd.f87 (0 : Nat) ∧ (sd = sd ∧ op = op ∧ (0 : Nat) = (0 : Nat) ∧ ((0 : Nat) = (0 : Nat) ∧ R = R) ∧ (↑R : Int) = (↑R : Int) ∧ (↑(0 : Nat) : Int) = (0 : Int)) ∧ ((0 : Int) = (0 : Int) ∧ false = false) ∧ (((0 : Nat) = (0 : Nat) ∧ N = N) ∧ ((0 : Nat) = (0 : Nat) ∧ M = M) ∧ ((0 : Nat) = (0 : Nat) ∧ R = R) ∧ h = h ∧ a = a ∧ s = s) ∧ R = R ∧ (∀ (i : Nat), i < R → RS [i] = RS [i]) ∧ (∀ (i : Nat), i < R → RO [i] = RO [i]) ∧ (∀ (i : Nat), i < R → RK [i] = RK [i]) ∧ ∀ (i : Nat), i < R → RB [i] = RB [i]) := by kernel_rfl

set_option maxHeartbeats 4000000 in
theorem sf0 (N M R : Nat) (h a s sd op : Int) (RS RO RK : Ix → Int) (RB : Ix → Bool) (v : SV) (L' : HF) (next : RunsTo Tryd.prog 87 (headOf Tryd.f87 0) (envAt Tryd.f87.ntmps (sfE R 0 sd op)) (Sx.look ([] ++ (resE 86 0 false ++ mdE 60 61 N M 63 R h a s RS RO RK RB))) 80 v L' 120) :
    RunsTo Tryd.prog 87 [.code (bodyOf Tryd.f87)] (envOf [vP 60, vN sd, vN op] Tryd.f87.ntmps) (Sx.look ([] ++ mdE 60 61 N M 63 R h a s RS RO RK RB)) 80 v L' 120 := by
  refine runs_more baseO (More.of (sf0_p0 N M R h a s sd op RS RO RK RB) ⟨okn, rfl, ?_⟩) (by kernel_rfl) (by kernel_rfl) rfl (gtL (by decide)) (by decide) next
  clear next
  simp

theorem sfN_p0 (N M R : Nat) (h a s sd op : Int) (RS RO RK : Ix → Int) (RB : Ix → Bool) (i : Nat) :
    isMore (evTill Tryd.prog [] 200 (behind Tryd.f87 0) 900 87 (headOf Tryd.f87 0) (envAt Tryd.f87.ntmps (sfE R i sd op)) ([] ++ (resE 86 0 false ++ mdE 60 61 N M 63 R h a s RS RO RK RB)) ⟨[.s true, .s true, .s true, .s true, .s false], 90⟩) (moreP (headOf Tryd.f87 0) ([]) Tryd.f87.ntmps (sfE R (i + 1) sd op) (resE 86 0 false ++ mdE 60 61 N M 63 R h a s RS RO RK RB) 120) =
    (OkL [(decide ((↑i : Int) < (↑R : Int)), true), (decide ((0 : Int) ≤ (↑i : Int) ∧ (↑i : Int) < (↑R : Int)), true), (((0 : Nat) + (↑i : Int).toNat).blt R, true), (((0 : Nat) + (↑i : Int).toNat).blt R, true), (RS [(0 : Nat) + (↑i : Int).toNat] == sd, false)] ∧ headOf Tryd.f87 (0 : Nat) = headOf Tryd.f87 (0 : Nat) ∧ (sd = sd ∧ op = op ∧ (0 : Nat) = (0 : Nat) ∧ ((0 : Nat) = (0 : Nat) ∧ R = R) ∧ (↑R : Int) = (↑R : Int) ∧ (↑(i + (1 : Nat)) : Int) = IntKind.i64.wrap ((↑i : Int) + (1 : Int))) ∧ ((0 : Int) = (0 : Int) ∧ false = false) ∧ (((0 : Nat) = (0 : Nat) ∧ N = N) ∧ ((0 : Nat) = (0 : Nat) ∧ M = M) ∧ ((0 : Nat) = (0 : Nat) ∧ R = R) ∧ h = h ∧ a = a ∧ s = s) ∧ R = R ∧ (∀ (i : Nat), i < R → RS [i] = RS [i]) ∧ (∀ (i : Nat), i < R → RO [i] = RO [i]) ∧ (∀ (i : Nat), i < R → RK [i] = RK [i]) ∧ ∀ (i : Nat), i < R → RB [i] = RB [i]) := by kernel_rfl
theorem sfN_p1 (N M R : Nat) (h a s sd op : Int) (RS RO RK : Ix → Int) (RB : Ix → Bool) (i : Nat) :
    isMore (evTill Tryd.prog [] 200 (behind Tryd.f87 0) 900 87 (headOf Tryd.f87 0) (envAt Tryd.f87.ntmps (sfE R i sd op)) ([] ++ (resE 86 0 false ++ mdE 60 61 N M 63 R h a s RS RO RK RB)) ⟨[.s true, .s true, .s true, .s true, .s true, .s false], 90⟩) (moreP (headOf Tryd.f87 0) ([]) Tryd.f87.ntmps (sfE R (i + 1) sd op) (resE 86 0 false ++ mdE 60 61 N M 63 R h a s RS RO RK RB) 120) =
    (OkL [(decide ((↑i : Int) < (↑R : Int)), true), (decide ((0 : Int) ≤ (↑i : Int) ∧ (↑i : Int) < (↑R : Int)), true), (((0 : Nat) + (↑i : Int).toNat).blt R, true), (((0 : Nat) + (↑i : Int).toNat).blt R, true), (RS [(0 : Nat) + (↑i : Int).toNat] == sd, true), (RO [(0 : Nat) + (↑i : Int).toNat] == op, false)] ∧ headOf Tryd.f87 (0 : Nat) = headOf Tryd.f87 (0 : Nat) ∧ (sd = sd ∧ op = op ∧ (0 : Nat) = (0 : Nat) ∧ ((0 : Nat) = (0 : Nat) ∧ R = R) ∧ (↑R : Int) = (↑R : Int) ∧ (↑(i + (1 : Nat)) : Int) = IntKind.i64.wrap ((↑i : Int) + (1 : Int))) ∧ ((0 : Int) = (0 : Int) ∧ false = false) ∧ (((0 : Nat) = (0 : Nat) ∧ N = N) ∧ ((0 : Nat) = (0 : Nat) ∧ M = M) ∧ ((0 : Nat) = (0 : Nat) ∧ R = R) ∧ h = h ∧ a = a ∧ s = s) ∧ R = R ∧ (∀ (i : Nat), i < R → RS [i] = RS [i]) ∧ (∀ (i : Nat), i < R → RO [i] = RO [i]) ∧ (∀ (i : Nat), i < R → RK [i] = RK [i]) ∧ ∀ (i : Nat), i < R → RB [i] = RB [i]) := by kernel_rfl

set_option maxHeartbeats 4000000 in
theorem sfN (N M R : Nat) (h a s sd op : Int) (RS RO RK : Ix → Int) (RB : Ix → Bool) (i : Nat) (hi : i < R) (hR : R ≤ 100) (hc : mtB RS RO sd op i = false) (v : SV) (L' : HF) (next : RunsTo Tryd.prog 87 (headOf Tryd.f87 0) (envAt Tryd.f87.ntmps (sfE R (i + 1) sd op)) (Sx.look ([] ++ (resE 86 0 false ++ mdE 60 61 N M 63 R h a s RS RO RK RB))) 80 v L' 120) :
    RunsTo Tryd.prog 87 (headOf Tryd.f87 0) (envAt Tryd.f87.ntmps (sfE R i sd op)) (Sx.look ([] ++ (resE 86 0 false ++ mdE 60 61 N M 63 R h a s RS RO RK RB))) 80 v L' 120 := by
  have gg0 : (decide ((↑i : Int) < (↑R : Int))) = true := by clear next; first | (simp (disch := omega) only [SS, List.nil_append, List.cons_append, Go.Sx.sum] at *; omega) | (simp (disch := omega) only [SS, List.nil_append, List.cons_append, Go.Sx.sum] at *; done) | (simp (disch := omega) only [SS, List.nil_append, List.cons_append, Go.Sx.sum] at *; grind [mtB])
  have gg1 : (decide ((0 : Int) ≤ (↑i : Int) ∧ (↑i : Int) < (↑R : Int))) = true := by clear next; first | (simp (disch := omega) only [SS, List.nil_append, List.cons_append, Go.Sx.sum] at *; omega) | (simp (disch := omega) only [SS, List.nil_append, List.cons_append, Go.Sx.sum] at *; done) | (simp (disch := omega) only [SS, List.nil_append, List.cons_append, Go.Sx.sum] at *; grind [mtB])
  have gg2 : (((0 : Nat) + (↑i : Int).toNat).blt R) = true := by clear next; first | (simp (disch := omega) only [SS, List.nil_append, List.cons_append, Go.Sx.sum] at *; omega) | (simp (disch := omega) only [SS, List.nil_append, List.cons_append, Go.Sx.sum] at *; done) | (simp (disch := omega) only [SS, List.nil_append, List.cons_append, Go.Sx.sum] at *; grind [mtB])
  refine bcase (c := (RS [(0 : Nat) + (↑i : Int).toNat] == sd)) (fun gg3 => ?_) (fun gg3 => ?_)
  · refine runs_more baseO (More.of (sfN_p0 N M R h a s sd op RS RO RK RB i) ⟨(okc gg0 (okc gg1 (okc gg2 (okc gg2 (okc gg3 okn))))), rfl, ?_⟩) (by kernel_rfl) (by kernel_rfl) rfl (gtL (by decide)) (by decide) next
    clear next
    have hw : IntKind.i64.wrap ((i : Int) + 1) = ((i + 1 : Nat) : Int) := by rw [wr64 (by omega)]; rfl
    simp [hw]
  · have gg4 : (RO [(0 : Nat) + (↑i : Int).toNat] == op) = false := by clear next; first | (simp (disch := omega) only [SS, List.nil_append, List.cons_append, Go.Sx.sum] at *; omega) | (simp (disch := omega) only [SS, List.nil_append, List.cons_append, Go.Sx.sum] at *; done) | (simp (disch := omega) only [SS, List.nil_append, List.cons_append, Go.Sx.sum] at *; grind [mtB])
    refine runs_more baseO (More.of (sfN_p1 N M R h a s sd op RS RO RK RB i) ⟨(okc gg0 (okc gg1 (okc gg2 (okc gg2 (okc gg3 (okc gg4 okn)))))), rfl, ?_⟩) (by kernel_rfl) (by kernel_rfl) rfl (gtL (by decide)) (by decide) next
    clear next
    have hw : IntKind.i64.wrap ((i : Int) + 1) = ((i + 1 : Nat) : Int) := by rw [wr64 (by omega)]; rfl
    simp [hw]

theorem sfY_p0 (N M R : Nat) (h a s sd op : Int) (RS RO RK : Ix → Int) (RB : Ix → Bool) (i : Nat) :
    isEnd (evTill Tryd.prog [] 200 (behind Tryd.f87 0) 900 87 (headOf Tryd.f87 0) (envAt Tryd.f87.ntmps (sfE R i sd op)) ([] ++ (resE 86 0 false ++ mdE 60 61 N M 63 R h a s RS RO RK RB)) ⟨[.s true, .s true, .s true, .s true, .s true, .s true], 90⟩) (endP ([]) (.agg (stT (RK [i]) (RB [i]))) (mdE 60 61 N M 63 R h a s RS RO RK RB) 120) =
    (OkL [(decide ((↑i : Int) < (↑R : Int)), true), (decide ((0 : Int) ≤ (↑i : Int) ∧ (↑i : Int) < (↑R : Int)), true), (((0 : Nat) + (↑i : Int).toNat).blt R, true), (((0 : Nat) + (↑i : Int).toNat).blt R, true), (RS [(0 : Nat) + (↑i : Int).toNat] == sd, true), (RO [(0 : Nat) + (↑i : Int).toNat] == op, true)] ∧ (RK [i] = RK [(0 : Nat) + (↑i : Int).toNat] ∧ RB [i] = RB [(0 : Nat) + (↑i : Int).toNat]) ∧ (((0 : Nat) = (0 : Nat) ∧ N = N) ∧ ((0 : Nat) = (0 : Nat) ∧ M = M) ∧ ((0 : Nat) = (0 : Nat) ∧ R = R) ∧ h = h ∧ a = a ∧ s = s) ∧ R = R ∧ (∀ (i : Nat), i < R → RS [i] = RS [i]) ∧ (∀ (i : Nat), i < R → RO [i] = RO [i]) ∧ (∀ (i : Nat), i < R → RK [i] = RK [i]) ∧ ∀ (i : Nat), i < R → RB [i] = RB [i]) := by kernel_rfl

set_option maxHeartbeats 4000000 in
theorem sfY (N M R : Nat) (h a s sd op : Int) (RS RO RK : Ix → Int) (RB : Ix → Bool) (i : Nat) (hi : i < R) (hR : R ≤ 100) (hc : mtB RS RO sd op i = true) :
    RunsTo Tryd.prog 87 (headOf Tryd.f87 0) (envAt Tryd.f87.ntmps (sfE R i sd op)) (Sx.look ([] ++ (resE 86 0 false ++ mdE 60 61 N M 63 R h a s RS RO RK RB))) 80 (.agg (stT (RK [i]) (RB [i]))) (Sx.look (mdE 60 61 N M 63 R h a s RS RO RK RB)) 120 := by
  have gg0 : (decide ((↑i : Int) < (↑R : Int))) = true := by first | (simp (disch := omega) only [SS, List.nil_append, List.cons_append, Go.Sx.sum] at *; omega) | (simp (disch := omega) only [SS, List.nil_append, List.cons_append, Go.Sx.sum] at *; done) | (simp (disch := omega) only [SS, List.nil_append, List.cons_append, Go.Sx.sum] at *; grind [mtB])
  have gg1 : (decide ((0 : Int) ≤ (↑i : Int) ∧ (↑i : Int) < (↑R : Int))) = true := by first | (simp (disch := omega) only [SS, List.nil_append, List.cons_append, Go.Sx.sum] at *; omega) | (simp (disch := omega) only [SS, List.nil_append, List.cons_append, Go.Sx.sum] at *; done) | (simp (disch := omega) only [SS, List.nil_append, List.cons_append, Go.Sx.sum] at *; grind [mtB])
  have gg2 : (((0 : Nat) + (↑i : Int).toNat).blt R) = true := by first | (simp (disch := omega) only [SS, List.nil_append, List.cons_append, Go.Sx.sum] at *; omega) | (simp (disch := omega) only [SS, List.nil_append, List.cons_append, Go.Sx.sum] at *; done) | (simp (disch := omega) only [SS, List.nil_append, List.cons_append, Go.Sx.sum] at *; grind [mtB])
  have gg3 : (RS [(0 : Nat) + (↑i : Int).toNat] == sd) = true := by first | (simp (disch := omega) only [SS, List.nil_append, List.cons_append, Go.Sx.sum] at *; omega) | (simp (disch := omega) only [SS, List.nil_append, List.cons_append, Go.Sx.sum] at *; done) | (simp (disch := omega) only [SS, List.nil_append, List.cons_append, Go.Sx.sum] at *; grind [mtB])
  have gg4 : (RO [(0 : Nat) + (↑i : Int).toNat] == op) = true := by first | (simp (disch := omega) only [SS, List.nil_append, List.cons_append, Go.Sx.sum] at *; omega) | (simp (disch := omega) only [SS, List.nil_append, List.cons_append, Go.Sx.sum] at *; done) | (simp (disch := omega) only [SS, List.nil_append, List.cons_append, Go.Sx.sum] at *; grind [mtB])
  refine runs_last baseO (Sx.Ends.of (sfY_p0 N M R h a s sd op RS RO RK RB i) ⟨(okc gg0 (okc gg1 (okc gg2 (okc gg2 (okc gg3 (okc gg4 okn)))))), ?_⟩) (by kernel_rfl) rfl (gtL (by decide)) (by decide)
  simp (disch := omega) only [SS, List.nil_append, List.cons_append, Go.Sx.sum] at *
  simp

theorem sfZ_p0 (N M R : Nat) (h a s sd op : Int) (RS RO RK : Ix → Int) (RB : Ix → Bool) (i : Nat) :
    isEnd (evTill Tryd.prog [] 200 (behind Tryd.f87 0) 900 87 (headOf Tryd.f87 0) (envAt Tryd.f87.ntmps (sfE R i sd op)) ([] ++ (resE 86 0 false ++ mdE 60 61 N M 63 R h a s RS RO RK RB)) ⟨[.s false], 90⟩) (endP ([]) (.agg (stT (0) (false))) (mdE 60 61 N M 63 R h a s RS RO RK RB) 120) =
    (OkL [(decide ((↑i : Int) < (↑R : Int)), false)] ∧ ((0 : Int) = (0 : Int) ∧ false = false) ∧ (((0 : Nat) = (0 : Nat) ∧ N = N) ∧ ((0 : Nat) = (0 : Nat) ∧ M = M) ∧ ((0 : Nat) = (0 : Nat) ∧ R = R) ∧ h = h ∧ a = a ∧ s = s) ∧ R = R ∧ (∀ (i : Nat), i < R → RS [i] = RS [i]) ∧ (∀ (i : Nat), i < R → RO [i] = RO [i]) ∧ (∀ (i : Nat), i < R → RK [i] = RK [i]) ∧ ∀ (i : Nat), i < R → RB [i] = RB [i]) := by kernel_rfl

set_option maxHeartbeats 4000000 in
theorem sfZ (N M R : Nat) (h a s sd op : Int) (RS RO RK : Ix → Int) (RB : Ix → Bool) (i : Nat) (hi : i = R) :
    RunsTo Tryd.prog 87 (headOf Tryd.f87 0) (envAt Tryd.f87.ntmps (sfE R i sd op)) (Sx.look ([] ++ (resE 86 0 false ++ mdE 60 61 N M 63 R h a s RS RO RK RB))) 80 (.agg (stT (0) (false))) (Sx.look (mdE 60 61 N M 63 R h a s RS RO RK RB)) 120 := by
  have gg0 : (decide ((↑i : Int) < (↑R : Int))) = false := by first | (simp (disch := omega) only [SS, List.nil_append, List.cons_append, Go.Sx.sum] at *; omega) | (simp (disch := omega) only [SS, List.nil_append, List.cons_append, Go.Sx.sum] at *; done) | (simp (disch := omega) only [SS, List.nil_append, List.cons_append, Go.Sx.sum] at *; grind [mtB])
  refine runs_last baseO (Sx.Ends.of (sfZ_p0 N M R h a s sd op RS RO RK RB i) ⟨(okc gg0 okn), ?_⟩) (by kernel_rfl) rfl (gtL (by decide)) (by decide)
  simp

theorem sfL (N M R : Nat) (h a s sd op : Int) (RS RO RK : Ix → Int) (RB : Ix → Bool) (hR : R ≤ 100) : ∀ k i, i + k = R → RunsTo Tryd.prog 87 (headOf Tryd.f87 0) (envAt Tryd.f87.ntmps (sfE R i sd op)) (Sx.look ([] ++ (resE 86 0 false ++ mdE 60 61 N M 63 R h a s RS RO RK RB))) 80 (.agg (stT (kOf RK (fnd RS RO sd op k i)) (bOf RB (fnd RS RO sd op k i)))) (Sx.look (mdE 60 61 N M 63 R h a s RS RO RK RB)) 120 := by
  intro k
  induction k with
  | zero => intro i hi; exact sfZ N M R h a s sd op RS RO RK RB i (by omega)
  | succ k ih =>
    intro i hi
    cases hc : mtB RS RO sd op i with
    | true =>
      have e : fnd RS RO sd op (k + 1) i = some i := by simp only [fnd, hc, if_true]
      rw [e]; exact sfY N M R h a s sd op RS RO RK RB i (by omega) hR hc
    | false =>
      have e : fnd RS RO sd op (k + 1) i = fnd RS RO sd op k (i + 1) := by simp only [fnd, hc]; rfl
      rw [e]; exact sfN N M R h a s sd op RS RO RK RB i (by omega) hR hc _ _ (ih (i + 1) (by omega))
def stfPC : PC := { args := [.v (.vp 60), .v (.vi .i64 10), .v (.vi .i64 11)], heap := mdP 60 61 63 0, gs := [], G := 25, tp := 223, n := 80, n' := 120, cond := fun e => decide (eN e 2 ≤ 100), v := fun e => .agg (stT (kOf (eI e 8) (fnd (eI e 6) (eI e 7) (eI e 10 []) (eI e 11 []) (eN e 2) 0)) (bOf (eB e 9) (fnd (eI e 6) (eI e 7) (eI e 10 []) (eI e 11 []) (eN e 2) 0))), post := fun e => mdE 60 61 (eN e 0) (eN e 1) 63 (eN e 2) (eI e 3 []) (eI e 4 []) (eI e 5 []) (eI e 6) (eI e 7) (eI e 8) (eB e 9) }
theorem stf_pc : PC.Runs Tryd.prog 87 Tryd.f87 (bodyOf Tryd.f87) stfPC := ⟨Tryd.func87, by kernel_rfl, (fun g hg => by cases hg), fun e H hc => sf0 (eN e 0) (eN e 1) (eN e 2) (eI e 3 []) (eI e 4 []) (eI e 5 []) (eI e 10 []) (eI e 11 []) (eI e 6) (eI e 7) (eI e 8) (eB e 9) _ _ (sfL (eN e 0) (eN e 1) (eN e 2) (eI e 3 []) (eI e 4 []) (eI e 5 []) (eI e 10 []) (eI e 11 []) (eI e 6) (eI e 7) (eI e 8) (eB e 9) (of_decide_eq_true hc) (eN e 2) 0 (by omega))⟩

theorem se0_p0 (N M R : Nat) (h a s sd op k : Int) (o : Bool) (RS RO RK : Ix → Int) (RB : Ix → Bool) :
    isMore (evTill Tryd.prog [] 200 (behind Tryd.f89 0) 900 89 [.code (bodyOf Tryd.f89)] (envOf [vP 60, vN sd, vN op, .agg (stT k o)] Tryd.f89.ntmps) ([] ++ mdE 60 61 N M 63 R h a s RS RO RK RB) ⟨[], 80⟩) (moreP (headOf Tryd.f89 0) ([((86 : Nat), Rn.to (80 : Nat)), ((85 : Nat), Rn.to (81 : Nat))]) Tryd.f89.ntmps (seE R 0 (keepL RS RO RK RB sd op 0).length sd op) (resE 86 k o ++ (outE 85 (keepL RS RO RK RB sd op 0) ++ mdE 60 61 N M 63 R h a s RS RO RK RB)) 120) =
    (OkL [] ∧ headOf Tryd.f89 (0 : Nat) = headOf Tryd.f89 (0 : Nat) ∧ ((0 : Nat) = (0 : Nat) ∧ sd = sd ∧ op = op ∧ (0 : Nat) = (0 : Nat) ∧ ((0 : Nat) = (0 : Nat) ∧ (keepL RS RO RK RB sd op (0 : Nat)).length = (0 : Nat)) ∧ ((0 : Nat) = (0 : Nat) ∧ R = R) ∧ (↑R : Int) = (↑R : Int) ∧ (↑(0 : Nat) : Int) = (0 : Int)) ∧ (k = k ∧ o = o) ∧ ((keepL RS RO RK RB sd op (0 : Nat)).length = (0 : Nat) ∧ (∀ (i : Nat), i < (keepL RS RO RK RB sd op (0 : Nat)).length → rS (keepL RS RO RK RB sd op (0 : Nat)) [i] = (0 : Int)) ∧ (∀ (i : Nat), i < (keepL RS RO RK RB sd op (0 : Nat)).length → rO (keepL RS RO RK RB sd op (0 : Nat)) [i] = (0 : Int)) ∧ (∀ (i : Nat), i < (keepL RS RO RK RB sd op (0 : Nat)).length → rK (keepL RS RO RK RB sd op (0 : Nat)) [i] = (0 : Int)) ∧ ∀ (i : Nat), i < (keepL RS RO RK RB sd op (0 : Nat)).length → rB (keepL RS RO RK RB sd op (0 : Nat)) [i] = false) ∧ (((0 : Nat) = (0 : Nat) ∧ N = N) ∧ ((0 : Nat) = (0 : Nat) ∧ M = M) ∧ ((0 : Nat) = (0 : Nat) ∧ R = R) ∧ h = h ∧ a = a ∧ s = s) ∧ R = R ∧ (∀ (i : Nat), i < R → RS [i] = RS [i]) ∧ (∀ (i : Nat), i < R → RO [i] = RO [i]) ∧ (∀ (i : Nat), i < R → RK [i] = RK [i]) ∧ ∀ (i : Nat), i < R → RB [i] = RB [i]) := by kernel_rfl

set_option maxHeartbeats 4000000 in
theorem se0 (N M R : Nat) (h a s sd op k : Int) (o : Bool) (RS RO RK : Ix → Int) (RB : Ix → Bool) (v : SV) (L' : HF) (next : RunsTo Tryd.prog 89 (headOf Tryd.f89 0) (envAt Tryd.f89.ntmps (seE R 0 (keepL RS RO RK RB sd op 0).length sd op)) (Sx.look ([] ++ (resE 86 k o ++ (outE 85 (keepL RS RO RK RB sd op 0) ++ mdE 60 61 N M 63 R h a s RS RO RK RB)))) 80 v L' 120) :
    RunsTo Tryd.prog 89 [.code (bodyOf Tryd.f89)] (envOf [vP 60, vN sd, vN op, .agg (stT k o)] Tryd.f89.ntmps) (Sx.look ([] ++ mdE 60 61 N M 63 R h a s RS RO RK RB)) 80 v L' 120 := by
  refine runs_more baseO (More.of (se0_p0 N M R h a s sd op k o RS RO RK RB) ⟨okn, rfl, ?_⟩) (by kernel_rfl) (by kernel_rfl) rfl (gtL (by decide)) (by decide) next
  clear next
  simp [keepL]

theorem seN_p0 (N M R : Nat) (h a s sd op k : Int) (o : Bool) (RS RO RK : Ix → Int) (RB : Ix → Bool) (i : Nat) :
    isMore (evTill Tryd.prog [] 200 (behind Tryd.f89 0) 900 89 (headOf Tryd.f89 0) (envAt Tryd.f89.ntmps (seE R i (keepL RS RO RK RB sd op i).length sd op)) ([] ++ (resE 86 k o ++ (outE 85 (keepL RS RO RK RB sd op i) ++ mdE 60 61 N M 63 R h a s RS RO RK RB))) ⟨[.s true, .s true, .s true, .s true, .s false, .s true, .t, .s true, .s true], 90⟩) (moreP (headOf Tryd.f89 0) ([((85 : Nat), Rn.to (92 : Nat))]) Tryd.f89.ntmps (seE R (i + 1) (keepL RS RO RK RB sd op (i + 1)).length sd op) (resE 86 k o ++ (outE 85 (keepL RS RO RK RB sd op (i + 1)) ++ mdE 60 61 N M 63 R h a s RS RO RK RB)) 120) =
    (OkL [(decide ((↑i : Int) < (↑R : Int)), true), (decide ((0 : Int) ≤ (↑i : Int) ∧ (↑i : Int) < (↑R : Int)), true), (((0 : Nat) + (↑i : Int).toNat).blt R, true), (((0 : Nat) + (↑i : Int).toNat).blt R, true), (RS [(0 : Nat) + (↑i : Int).toNat] != sd, false), (RO [(0 : Nat) + (↑i : Int).toNat] != op, true), (((0 : Nat) + (keepL RS RO RK RB sd op i).length).ble (keepL RS RO RK RB sd op i).length, true), (decide (((2 : Nat) * ((keepL RS RO RK RB sd op i).length + (1 : Nat)) + (192 : Nat)) * (32 : Nat) ≤ (281474976710656 : Nat)), true)] ∧
  headOf Tryd.f89 (0 : Nat) = headOf Tryd.f89 (0 : Nat) ∧
    ((0 : Nat) = (0 : Nat) ∧ sd = sd ∧ op = op ∧ (0 : Nat) = (0 : Nat) ∧ ((0 : Nat) = (0 : Nat) ∧ (keepL RS RO RK RB sd op (i + (1 : Nat))).length = (keepL RS RO RK RB sd op i).length + (1 : Nat)) ∧ ((0 : Nat) = (0 : Nat) ∧ R = R) ∧ (↑R : Int) = (↑R : Int) ∧ (↑(i + (1 : Nat)) : Int) = IntKind.i64.wrap ((↑i : Int) + (1 : Int))) ∧
      (k = k ∧ o = o) ∧
        ((keepL RS RO RK RB sd op (i + (1 : Nat))).length = (keepL RS RO RK RB sd op i).length + (1 : Nat) ∧
            (∀ (i_1 : Nat),
                i_1 < (keepL RS RO RK RB sd op (i + (1 : Nat))).length →
                  rS (keepL RS RO RK RB sd op (i + (1 : Nat))) [i_1] =
                    appF (keepL RS RO RK RB sd op i).length (0 : Nat) (rS (keepL RS RO RK RB sd op i))
                      (fun js =>
                        RS
                          (((0 : Nat) + (↑i : Int).toNat) ::
                            List.tail
                              (match js with
                              | j :: r => (sum [] + j) :: r
                              | [] => [])))
                      [i_1]) ∧
              (∀ (i_1 : Nat),
                  i_1 < (keepL RS RO RK RB sd op (i + (1 : Nat))).length →
                    rO (keepL RS RO RK RB sd op (i + (1 : Nat))) [i_1] =
                      appF (keepL RS RO RK RB sd op i).length (0 : Nat) (rO (keepL RS RO RK RB sd op i))
                        (fun js =>
                          RO
                            (((0 : Nat) + (↑i : Int).toNat) ::
                              List.tail
                                (match js with
                                | j :: r => (sum [] + j) :: r
                                | [] => [])))
                        [i_1]) ∧
                (∀ (i_1 : Nat),
                    i_1 < (keepL RS RO RK RB sd op (i + (1 : Nat))).length →
                      rK (keepL RS RO RK RB sd op (i + (1 : Nat))) [i_1] =
                        appF (keepL RS RO RK RB sd op i).length (0 : Nat) (rK (keepL RS RO RK RB sd op i))
                          (fun js =>
                            RK
                              (((0 : Nat) + (↑i : Int).toNat) ::
                                List.tail
                                  (match js with
                                  | j :: r => (sum [] + j) :: r
                                  | [] => [])))
                          [i_1]) ∧
                  ∀ (i_1 : Nat),
                    i_1 < (keepL RS RO RK RB sd op (i + (1 : Nat))).length →
                      rB (keepL RS RO RK RB sd op (i + (1 : Nat))) [i_1] =
                        appF (keepL RS RO RK RB sd op i).length (0 : Nat) (rB (keepL RS RO RK RB sd op i))
                          (fun js =>
                            RB
                              (((0 : Nat) + (↑i : Int).toNat) ::
                                List.tail
                                  (match js with
                                  | j :: r => (sum [] + j) :: r
                                  | [] => [])))
                          [i_1]) ∧
          (((0 : Nat) = (0 : Nat) ∧ N = N) ∧ ((0 : Nat) = (0 : Nat) ∧ M = M) ∧ ((0 : Nat) = (0 : Nat) ∧ R = R) ∧ h = h ∧ a = a ∧ s = s) ∧ R = R ∧ (∀ (i : Nat), i < R → RS [i] = RS [i]) ∧ (∀ (i : Nat), i < R → RO [i] = RO [i]) ∧ (∀ (i : Nat), i < R → RK [i] = RK [i]) ∧ ∀ (i : Nat), i < R → RB [i] = RB [i]) := by kernel_rfl
theorem seN_p1 (N M R : Nat) (h a s sd op k : Int) (o : Bool) (RS RO RK : Ix → Int) (RB : Ix → Bool) (i : Nat) :
    isMore (evTill Tryd.prog [] 200 (behind Tryd.f89 0) 900 89 (headOf Tryd.f89 0) (envAt Tryd.f89.ntmps (seE R i (keepL RS RO RK RB sd op i).length sd op)) ([] ++ (resE 86 k o ++ (outE 85 (keepL RS RO RK RB sd op i) ++ mdE 60 61 N M 63 R h a s RS RO RK RB))) ⟨[.s true, .s true, .s true, .s true, .s true, .t, .s true, .s true], 90⟩) (moreP (headOf Tryd.f89 0) ([((85 : Nat), Rn.to (92 : Nat))]) Tryd.f89.ntmps (seE R (i + 1) (keepL RS RO RK RB sd op (i + 1)).length sd op) (resE 86 k o ++ (outE 85 (keepL RS RO RK RB sd op (i + 1)) ++ mdE 60 61 N M 63 R h a s RS RO RK RB)) 120) =
    (OkL [(decide ((↑i : Int) < (↑R : Int)), true), (decide ((0 : Int) ≤ (↑i : Int) ∧ (↑i : Int) < (↑R : Int)), true), (((0 : Nat) + (↑i : Int).toNat).blt R, true), (((0 : Nat) + (↑i : Int).toNat).blt R, true), (RS [(0 : Nat) + (↑i : Int).toNat] != sd, true), (((0 : Nat) + (keepL RS RO RK RB sd op i).length).ble (keepL RS RO RK RB sd op i).length, true), (decide (((2 : Nat) * ((keepL RS RO RK RB sd op i).length + (1 : Nat)) + (192 : Nat)) * (32 : Nat) ≤ (281474976710656 : Nat)), true)] ∧
  headOf Tryd.f89 (0 : Nat) = headOf Tryd.f89 (0 : Nat) ∧
    ((0 : Nat) = (0 : Nat) ∧ sd = sd ∧ op = op ∧ (0 : Nat) = (0 : Nat) ∧ ((0 : Nat) = (0 : Nat) ∧ (keepL RS RO RK RB sd op (i + (1 : Nat))).length = (keepL RS RO RK RB sd op i).length + (1 : Nat)) ∧ ((0 : Nat) = (0 : Nat) ∧ R = R) ∧ (↑R : Int) = (↑R : Int) ∧ (↑(i + (1 : Nat)) : Int) = IntKind.i64.wrap ((↑i : Int) + (1 : Int))) ∧
      (k = k ∧ o = o) ∧
        ((keepL RS RO RK RB sd op (i + (1 : Nat))).length = (keepL RS RO RK RB sd op i).length + (1 : Nat) ∧
            (∀ (i_1 : Nat),
                i_1 < (keepL RS RO RK RB sd op (i + (1 : Nat))).length →
                  rS (keepL RS RO RK RB sd op (i + (1 : Nat))) [i_1] =
                    appF (keepL RS RO RK RB sd op i).length (0 : Nat) (rS (keepL RS RO RK RB sd op i))
                      (fun js =>
                        RS
                          (((0 : Nat) + (↑i : Int).toNat) ::
                            List.tail
                              (match js with
                              | j :: r => (sum [] + j) :: r
                              | [] => [])))
                      [i_1]) ∧
              (∀ (i_1 : Nat),
                  i_1 < (keepL RS RO RK RB sd op (i + (1 : Nat))).length →
                    rO (keepL RS RO RK RB sd op (i + (1 : Nat))) [i_1] =
                      appF (keepL RS RO RK RB sd op i).length (0 : Nat) (rO (keepL RS RO RK RB sd op i))
                        (fun js =>
                          RO
                            (((0 : Nat) + (↑i : Int).toNat) ::
                              List.tail
                                (match js with
                                | j :: r => (sum [] + j) :: r
                                | [] => [])))
                        [i_1]) ∧
                (∀ (i_1 : Nat),
                    i_1 < (keepL RS RO RK RB sd op (i + (1 : Nat))).length →
                      rK (keepL RS RO RK RB sd op (i + (1 : Nat))) [i_1] =
                        appF (keepL RS RO RK RB sd op i).length (0 : Nat) (rK (keepL RS RO RK RB sd op i))
                          (fun js =>
                            RK
                              (((0 : Nat) + (↑i : Int).toNat) ::
                                List.tail
                                  (match js with
                                  | j :: r => (sum [] + j) :: r
                                  | [] => [])))
                          [i_1]) ∧
                  ∀ (i_1 : Nat),
                    i_1 < (keepL RS RO RK RB sd op (i + (1 : Nat))).length →
                      rB (keepL RS RO RK RB sd op (i + (1 : Nat))) [i_1] =
                        appF (keepL RS RO RK RB sd op i).length (0 : Nat) (rB (keepL RS RO RK RB sd op i))
                          (fun js =>
                            RB
                              (((0 : Nat) + (↑i : Int).toNat) ::
                                List.tail
                                  (match js with
                                  | j :: r => (sum [] + j) :: r
                                  | [] => [])))
                          [i_1]) ∧
          (((0 : Nat) = (0 : Nat) ∧ N = N) ∧ ((0 : Nat) = (0 : Nat) ∧ M = M) ∧ ((0 : Nat) = (0 : Nat) ∧ R = R) ∧ h = h ∧ a = a ∧ s = s) ∧ R = R ∧ (∀ (i : Nat), i < R → RS [i] = RS [i]) ∧ (∀ (i : Nat), i < R → RO [i] = RO [i]) ∧ (∀ (i : Nat), i < R → RK [i] = RK [i]) ∧ ∀ (i : Nat), i < R → RB [i] = RB [i]) := by kernel_rfl

set_option maxHeartbeats 4000000 in
theorem seN (N M R : Nat) (h a s sd op k : Int) (o : Bool) (RS RO RK : Ix → Int) (RB : Ix → Bool) (i : Nat) (hi : i < R) (hR : R ≤ 100) (hc : mtB RS RO sd op i = false) (v : SV) (L' : HF) (next : RunsTo Tryd.prog 89 (headOf Tryd.f89 0) (envAt Tryd.f89.ntmps (seE R (i + 1) (keepL RS RO RK RB sd op (i + 1)).length sd op)) (Sx.look ([] ++ (resE 86 k o ++ (outE 85 (keepL RS RO RK RB sd op (i + 1)) ++ mdE 60 61 N M 63 R h a s RS RO RK RB)))) 80 v L' 120) :
    RunsTo Tryd.prog 89 (headOf Tryd.f89 0) (envAt Tryd.f89.ntmps (seE R i (keepL RS RO RK RB sd op i).length sd op)) (Sx.look ([] ++ (resE 86 k o ++ (outE 85 (keepL RS RO RK RB sd op i) ++ mdE 60 61 N M 63 R h a s RS RO RK RB)))) 80 v L' 120 := by
  have hl := keep_len (RS := RS) (RO := RO) (RK := RK) (RB := RB) (sd := sd) (op := op) i
  have gg0 : (decide ((↑i : Int) < (↑R : Int))) = true := by clear next; first | (simp (disch := omega) only [SS, List.nil_append, List.cons_append, Go.Sx.sum] at *; omega) | (simp (disch := omega) only [SS, List.nil_append, List.cons_append, Go.Sx.sum] at *; done) | (simp (disch := omega) only [SS, List.nil_append, List.cons_append, Go.Sx.sum] at *; grind [mtB])
  have gg1 : (decide ((0 : Int) ≤ (↑i : Int) ∧ (↑i : Int) < (↑R : Int))) = true := by clear next; first | (simp (disch := omega) only [SS, List.nil_append, List.cons_append, Go.Sx.sum] at *; omega) | (simp (disch := omega) only [SS, List.nil_append, List.cons_append, Go.Sx.sum] at *; done) | (simp (disch := omega) only [SS, List.nil_append, List.cons_append, Go.Sx.sum] at *; grind [mtB])
  have gg2 : (((0 : Nat) + (↑i : Int).toNat).blt R) = true := by clear next; first | (simp (disch := omega) only [SS, List.nil_append, List.cons_append, Go.Sx.sum] at *; omega) | (simp (disch := omega) only [SS, List.nil_append, List.cons_append, Go.Sx.sum] at *; done) | (simp (disch := omega) only [SS, List.nil_append, List.cons_append, Go.Sx.sum] at *; grind [mtB])
  refine bcase (c := (RS [(0 : Nat) + (↑i : Int).toNat] != sd)) (fun gg3 => ?_) (fun gg3 => ?_)
  · have gg4 : (RO [(0 : Nat) + (↑i : Int).toNat] != op) = true := by clear next; first | (simp (disch := omega) only [SS, List.nil_append, List.cons_append, Go.Sx.sum] at *; omega) | (simp (disch := omega) only [SS, List.nil_append, List.cons_append, Go.Sx.sum] at *; done) | (simp (disch := omega) only [SS, List.nil_append, List.cons_append, Go.Sx.sum] at *; grind [mtB])
    have gg5 : (((0 : Nat) + (keepL RS RO RK RB sd op i).length).ble (keepL RS RO RK RB sd op i).length) = true := by clear next; first | (simp (disch := omega) only [SS, List.nil_append, List.cons_append, Go.Sx.sum] at *; omega) | (simp (disch := omega) only [SS, List.nil_append, List.cons_append, Go.Sx.sum] at *; done) | (simp (disch := omega) only [SS, List.nil_append, List.cons_append, Go.Sx.sum] at *; grind [mtB])
    have gg6 : (decide (((2 : Nat) * ((keepL RS RO RK RB sd op i).length + (1 : Nat)) + (192 : Nat)) * (32 : Nat) ≤ (281474976710656 : Nat))) = true := by clear next; first | (simp (disch := omega) only [SS, List.nil_append, List.cons_append, Go.Sx.sum] at *; omega) | (simp (disch := omega) only [SS, List.nil_append, List.cons_append, Go.Sx.sum] at *; done) | (simp (disch := omega) only [SS, List.nil_append, List.cons_append, Go.Sx.sum] at *; grind [mtB])
    refine runs_more baseO (More.of (seN_p0 N M R h a s sd op k o RS RO RK RB i) ⟨(okc gg0 (okc gg1 (okc gg2 (okc gg2 (okc gg3 (okc gg4 (okc gg5 (okc gg6 okn)))))))), rfl, ?_⟩) (by kernel_rfl) (by kernel_rfl) rfl (gtL (by decide)) (by decide) next
    clear next
    have hw : IntKind.i64.wrap ((i : Int) + 1) = ((i + 1 : Nat) : Int) := by rw [wr64 (by omega)]; rfl
    simp (disch := omega) only [SS, List.nil_append, List.cons_append, Go.Sx.sum, hw, List.length_append, List.length_cons, List.length_nil, keep_no hc] at *
    have hs1 : ∀ (l : List Rw) (x : Rw) (p : Nat), p < l.length + 1 → rS (l ++ [x]) [p] = appF l.length 0 (rS l) (fun _ => x.1) [p] := fun l x p hp => by rw [rS_snoc l x p hp]; simp [appF]
    have hs2 : ∀ (l : List Rw) (x : Rw) (p : Nat), p < l.length + 1 → rO (l ++ [x]) [p] = appF l.length 0 (rO l) (fun _ => x.2.1) [p] := fun l x p hp => by rw [rO_snoc l x p hp]; simp [appF]
    have hs3 : ∀ (l : List Rw) (x : Rw) (p : Nat), p < l.length + 1 → rK (l ++ [x]) [p] = appF l.length 0 (rK l) (fun _ => x.2.2.1) [p] := fun l x p hp => by rw [rK_snoc l x p hp]; simp [appF]
    have hs4 : ∀ (l : List Rw) (x : Rw) (p : Nat), p < l.length + 1 → rB (l ++ [x]) [p] = appF l.length 0 (rB l) (fun _ => x.2.2.2) [p] := fun l x p hp => by rw [rB_snoc l x p hp]; simp [appF]
    repeat' apply And.intro
    all_goals first | trivial | rfl | omega | exact hw.symm | (intro p hp; first | trivial | rfl | exact hs1 _ _ p hp | exact hs2 _ _ p hp | exact hs3 _ _ p hp | exact hs4 _ _ p hp)
  · have gg4 : (((0 : Nat) + (keepL RS RO RK RB sd op i).length).ble (keepL RS RO RK RB sd op i).length) = true := by clear next; first | (simp (disch := omega) only [SS, List.nil_append, List.cons_append, Go.Sx.sum] at *; omega) | (simp (disch := omega) only [SS, List.nil_append, List.cons_append, Go.Sx.sum] at *; done) | (simp (disch := omega) only [SS, List.nil_append, List.cons_append, Go.Sx.sum] at *; grind [mtB])
    have gg5 : (decide (((2 : Nat) * ((keepL RS RO RK RB sd op i).length + (1 : Nat)) + (192 : Nat)) * (32 : Nat) ≤ (281474976710656 : Nat))) = true := by clear next; first | (simp (disch := omega) only [SS, List.nil_append, List.cons_append, Go.Sx.sum] at *; omega) | (simp (disch := omega) only [SS, List.nil_append, List.cons_append, Go.Sx.sum] at *; done) | (simp (disch := omega) only [SS, List.nil_append, List.cons_append, Go.Sx.sum] at *; grind [mtB])
    refine runs_more baseO (More.of (seN_p1 N M R h a s sd op k o RS RO RK RB i) ⟨(okc gg0 (okc gg1 (okc gg2 (okc gg2 (okc gg3 (okc gg4 (okc gg5 okn))))))), rfl, ?_⟩) (by kernel_rfl) (by kernel_rfl) rfl (gtL (by decide)) (by decide) next
    clear next
    have hw : IntKind.i64.wrap ((i : Int) + 1) = ((i + 1 : Nat) : Int) := by rw [wr64 (by omega)]; rfl
    simp (disch := omega) only [SS, List.nil_append, List.cons_append, Go.Sx.sum, hw, List.length_append, List.length_cons, List.length_nil, keep_no hc] at *
    have hs1 : ∀ (l : List Rw) (x : Rw) (p : Nat), p < l.length + 1 → rS (l ++ [x]) [p] = appF l.length 0 (rS l) (fun _ => x.1) [p] := fun l x p hp => by rw [rS_snoc l x p hp]; simp [appF]
    have hs2 : ∀ (l : List Rw) (x : Rw) (p : Nat), p < l.length + 1 → rO (l ++ [x]) [p] = appF l.length 0 (rO l) (fun _ => x.2.1) [p] := fun l x p hp => by rw [rO_snoc l x p hp]; simp [appF]
    have hs3 : ∀ (l : List Rw) (x : Rw) (p : Nat), p < l.length + 1 → rK (l ++ [x]) [p] = appF l.length 0 (rK l) (fun _ => x.2.2.1) [p] := fun l x p hp => by rw [rK_snoc l x p hp]; simp [appF]
    have hs4 : ∀ (l : List Rw) (x : Rw) (p : Nat), p < l.length + 1 → rB (l ++ [x]) [p] = appF l.length 0 (rB l) (fun _ => x.2.2.2) [p] := fun l x p hp => by rw [rB_snoc l x p hp]; simp [appF]
    repeat' apply And.intro
    all_goals first | trivial | rfl | omega | exact hw.symm | (intro p hp; first | trivial | rfl | exact hs1 _ _ p hp | exact hs2 _ _ p hp | exact hs3 _ _ p hp | exact hs4 _ _ p hp)

theorem seY_p0 (N M R : Nat) (h a s sd op k : Int) (o : Bool) (RS RO RK : Ix → Int) (RB : Ix → Bool) (i : Nat) :
    isMore (evTill Tryd.prog [] 200 (behind Tryd.f89 0) 900 89 (headOf Tryd.f89 0) (envAt Tryd.f89.ntmps (seE R i (keepL RS RO RK RB sd op i).length sd op)) ([] ++ (resE 86 k o ++ (outE 85 (keepL RS RO RK RB sd op i) ++ mdE 60 61 N M 63 R h a s RS RO RK RB))) ⟨[.s true, .s true, .s true, .s true, .s false, .s false], 90⟩) (moreP (headOf Tryd.f89 0) ([]) Tryd.f89.ntmps (seE R (i + 1) (keepL RS RO RK RB sd op (i + 1)).length sd op) (resE 86 k o ++ (outE 85 (keepL RS RO RK RB sd op (i + 1)) ++ mdE 60 61 N M 63 R h a s RS RO RK RB)) 120) =
    (OkL [(decide ((↑i : Int) < (↑R : Int)), true), (decide ((0 : Int) ≤ (↑i : Int) ∧ (↑i : Int) < (↑R : Int)), true), (((0 : Nat) + (↑i : Int).toNat).blt R, true), (((0 : Nat) + (↑i : Int).toNat).blt R, true), (RS [(0 : Nat) + (↑i : Int).toNat] != sd, false), (RO [(0 : Nat) + (↑i : Int).toNat] != op, false)] ∧ headOf Tryd.f89 (0 : Nat) = headOf Tryd.f89 (0 : Nat) ∧ ((0 : Nat) = (0 : Nat) ∧ sd = sd ∧ op = op ∧ (0 : Nat) = (0 : Nat) ∧ ((0 : Nat) = (0 : Nat) ∧ (keepL RS RO RK RB sd op (i + (1 : Nat))).length = (keepL RS RO RK RB sd op i).length) ∧ ((0 : Nat) = (0 : Nat) ∧ R = R) ∧ (↑R : Int) = (↑R : Int) ∧ (↑(i + (1 : Nat)) : Int) = IntKind.i64.wrap ((↑i : Int) + (1 : Int))) ∧ (k = k ∧ o = o) ∧ ((keepL RS RO RK RB sd op (i + (1 : Nat))).length = (keepL RS RO RK RB sd op i).length ∧ (∀ (i_1 : Nat), i_1 < (keepL RS RO RK RB sd op (i + (1 : Nat))).length → rS (keepL RS RO RK RB sd op (i + (1 : Nat))) [i_1] = rS (keepL RS RO RK RB sd op i) [i_1]) ∧ (∀ (i_1 : Nat), i_1 < (keepL RS RO RK RB sd op (i + (1 : Nat))).length → rO (keepL RS RO RK RB sd op (i + (1 : Nat))) [i_1] = rO (keepL RS RO RK RB sd op i) [i_1]) ∧ (∀ (i_1 : Nat), i_1 < (keepL RS RO RK RB sd op (i + (1 : Nat))).length → rK (keepL RS RO RK RB sd op (i + (1 : Nat))) [i_1] = rK (keepL RS RO RK RB sd op i) [i_1]) ∧ ∀ (i_1 : Nat), i_1 < (keepL RS RO RK RB sd op (i + (1 : Nat))).length → rB (keepL RS RO RK RB sd op (i + (1 : Nat))) [i_1] = rB (keepL RS RO RK RB sd op i) [i_1]) ∧ (((0 : Nat) = (0 : Nat) ∧ N = N) ∧ ((0 : Nat) = (0 : Nat) ∧ M = M) ∧ ((0 : Nat) = (0 : Nat) ∧ R = R) ∧ h = h ∧ a = a ∧ s = s) ∧ R = R ∧ (∀ (i : Nat), i < R → RS [i] = RS [i]) ∧ (∀ (i : Nat), i < R → RO [i] = RO [i]) ∧ (∀ (i : Nat), i < R → RK [i] = RK [i]) ∧ ∀ (i : Nat), i < R → RB [i] = RB [i]) := by kernel_rfl

set_option maxHeartbeats 4000000 in
theorem seY (N M R : Nat) (h a s sd op k : Int) (o : Bool) (RS RO RK : Ix → Int) (RB : Ix → Bool) (i : Nat) (hi : i < R) (hR : R ≤ 100) (hc : mtB RS RO sd op i = true) (v : SV) (L' : HF) (next : RunsTo Tryd.prog 89 (headOf Tryd.f89 0) (envAt Tryd.f89.ntmps (seE R (i + 1) (keepL RS RO RK RB sd op (i + 1)).length sd op)) (Sx.look ([] ++ (resE 86 k o ++ (outE 85 (keepL RS RO RK RB sd op (i + 1)) ++ mdE 60 61 N M 63 R h a s RS RO RK RB)))) 80 v L' 120) :
    RunsTo Tryd.prog 89 (headOf Tryd.f89 0) (envAt Tryd.f89.ntmps (seE R i (keepL RS RO RK RB sd op i).length sd op)) (Sx.look ([] ++ (resE 86 k o ++ (outE 85 (keepL RS RO RK RB sd op i) ++ mdE 60 61 N M 63 R h a s RS RO RK RB)))) 80 v L' 120 := by
  have gg0 : (decide ((↑i : Int) < (↑R : Int))) = true := by clear next; first | (simp (disch := omega) only [SS, List.nil_append, List.cons_append, Go.Sx.sum] at *; omega) | (simp (disch := omega) only [SS, List.nil_append, List.cons_append, Go.Sx.sum] at *; done) | (simp (disch := omega) only [SS, List.nil_append, List.cons_append, Go.Sx.sum] at *; grind [mtB])
  have gg1 : (decide ((0 : Int) ≤ (↑i : Int) ∧ (↑i : Int) < (↑R : Int))) = true := by clear next; first | (simp (disch := omega) only [SS, List.nil_append, List.cons_append, Go.Sx.sum] at *; omega) | (simp (disch := omega) only [SS, List.nil_append, List.cons_append, Go.Sx.sum] at *; done) | (simp (disch := omega) only [SS, List.nil_append, List.cons_append, Go.Sx.sum] at *; grind [mtB])
  have gg2 : (((0 : Nat) + (↑i : Int).toNat).blt R) = true := by clear next; first | (simp (disch := omega) only [SS, List.nil_append, List.cons_append, Go.Sx.sum] at *; omega) | (simp (disch := omega) only [SS, List.nil_append, List.cons_append, Go.Sx.sum] at *; done) | (simp (disch := omega) only [SS, List.nil_append, List.cons_append, Go.Sx.sum] at *; grind [mtB])
  have gg3 : (RS [(0 : Nat) + (↑i : Int).toNat] != sd) = false := by clear next; first | (simp (disch := omega) only [SS, List.nil_append, List.cons_append, Go.Sx.sum] at *; omega) | (simp (disch := omega) only [SS, List.nil_append, List.cons_append, Go.Sx.sum] at *; done) | (simp (disch := omega) only [SS, List.nil_append, List.cons_append, Go.Sx.sum] at *; grind [mtB])
  have gg4 : (RO [(0 : Nat) + (↑i : Int).toNat] != op) = false := by clear next; first | (simp (disch := omega) only [SS, List.nil_append, List.cons_append, Go.Sx.sum] at *; omega) | (simp (disch := omega) only [SS, List.nil_append, List.cons_append, Go.Sx.sum] at *; done) | (simp (disch := omega) only [SS, List.nil_append, List.cons_append, Go.Sx.sum] at *; grind [mtB])
  refine runs_more baseO (More.of (seY_p0 N M R h a s sd op k o RS RO RK RB i) ⟨(okc gg0 (okc gg1 (okc gg2 (okc gg2 (okc gg3 (okc gg4 okn)))))), rfl, ?_⟩) (by kernel_rfl) (by kernel_rfl) rfl (gtL (by decide)) (by decide) next
  clear next
  have hw : IntKind.i64.wrap ((i : Int) + 1) = ((i + 1 : Nat) : Int) := by rw [wr64 (by omega)]; rfl
  simp [hw, keep_yes hc]

theorem seZ_p0 (N M R : Nat) (h a s sd op k : Int) (o : Bool) (RS RO RK : Ix → Int) (RB : Ix → Bool) (i : Nat) :
    isEnd (evTill Tryd.prog [] 200 (behind Tryd.f89 0) 900 89 (headOf Tryd.f89 0) (envAt Tryd.f89.ntmps (seE R i (keepL RS RO RK RB sd op i).length sd op)) ([] ++ (resE 86 k o ++ (outE 85 (keepL RS RO RK RB sd op i) ++ mdE 60 61 N M 63 R h a s RS RO RK RB))) ⟨[.s false, .t, .s true, .s true], 90⟩) (endP ([((101 : Nat), Rn.to (91 : Nat))]) (.tup []) (mdE 60 61 N M 101 ((keepL RS RO RK RB sd op R ++ [(sd, op, k, o)])).length h a s (rS (keepL RS RO RK RB sd op R ++ [(sd, op, k, o)])) (rO (keepL RS RO RK RB sd op R ++ [(sd, op, k, o)])) (rK (keepL RS RO RK RB sd op R ++ [(sd, op, k, o)])) (rB (keepL RS RO RK RB sd op R ++ [(sd, op, k, o)]))) 120) =
    (OkL [(decide ((↑i : Int) < (↑R : Int)), false), (((0 : Nat) + (keepL RS RO RK RB sd op i).length).ble (keepL RS RO RK RB sd op i).length, true), (decide (((2 : Nat) * ((keepL RS RO RK RB sd op i).length + (1 : Nat)) + (192 : Nat)) * (32 : Nat) ≤ (281474976710656 : Nat)), true)] ∧ True ∧ (((0 : Nat) = (0 : Nat) ∧ N = N) ∧ ((0 : Nat) = (0 : Nat) ∧ M = M) ∧ ((0 : Nat) = (0 : Nat) ∧ (keepL RS RO RK RB sd op R ++ [(sd, op, k, o)]).length = (keepL RS RO RK RB sd op i).length + (1 : Nat)) ∧ h = h ∧ a = a ∧ s = s) ∧ (keepL RS RO RK RB sd op R ++ [(sd, op, k, o)]).length = (keepL RS RO RK RB sd op i).length + (1 : Nat) ∧ (∀ (i_1 : Nat), i_1 < (keepL RS RO RK RB sd op R ++ [(sd, op, k, o)]).length → rS (keepL RS RO RK RB sd op R ++ [(sd, op, k, o)]) [i_1] = appF (keepL RS RO RK RB sd op i).length (0 : Nat) (rS (keepL RS RO RK RB sd op i)) (fun js => sd) [i_1]) ∧ (∀ (i_1 : Nat), i_1 < (keepL RS RO RK RB sd op R ++ [(sd, op, k, o)]).length → rO (keepL RS RO RK RB sd op R ++ [(sd, op, k, o)]) [i_1] = appF (keepL RS RO RK RB sd op i).length (0 : Nat) (rO (keepL RS RO RK RB sd op i)) (fun js => op) [i_1]) ∧ (∀ (i_1 : Nat), i_1 < (keepL RS RO RK RB sd op R ++ [(sd, op, k, o)]).length → rK (keepL RS RO RK RB sd op R ++ [(sd, op, k, o)]) [i_1] = appF (keepL RS RO RK RB sd op i).length (0 : Nat) (rK (keepL RS RO RK RB sd op i)) (fun js => k) [i_1]) ∧ ∀ (i_1 : Nat), i_1 < (keepL RS RO RK RB sd op R ++ [(sd, op, k, o)]).length → rB (keepL RS RO RK RB sd op R ++ [(sd, op, k, o)]) [i_1] = appF (keepL RS RO RK RB sd op i).length (0 : Nat) (rB (keepL RS RO RK RB sd op i)) (fun js => o) [i_1]) := by kernel_rfl

set_option maxHeartbeats 4000000 in
theorem seZ (N M R : Nat) (h a s sd op k : Int) (o : Bool) (RS RO RK : Ix → Int) (RB : Ix → Bool) (i : Nat) (hi : i = R) (hR : R ≤ 100) :
    RunsTo Tryd.prog 89 (headOf Tryd.f89 0) (envAt Tryd.f89.ntmps (seE R i (keepL RS RO RK RB sd op i).length sd op)) (Sx.look ([] ++ (resE 86 k o ++ (outE 85 (keepL RS RO RK RB sd op i) ++ mdE 60 61 N M 63 R h a s RS RO RK RB)))) 80 (.tup []) (Sx.look (mdE 60 61 N M 101 ((keepL RS RO RK RB sd op R ++ [(sd, op, k, o)])).length h a s (rS (keepL RS RO RK RB sd op R ++ [(sd, op, k, o)])) (rO (keepL RS RO RK RB sd op R ++ [(sd, op, k, o)])) (rK (keepL RS RO RK RB sd op R ++ [(sd, op, k, o)])) (rB (keepL RS RO RK RB sd op R ++ [(sd, op, k, o)])))) 120 := by
  have hl := keep_len (RS := RS) (RO := RO) (RK := RK) (RB := RB) (sd := sd) (op := op) i
  have gg0 : (decide ((↑i : Int) < (↑R : Int))) = false := by first | (simp (disch := omega) only [SS, List.nil_append, List.cons_append, Go.Sx.sum] at *; omega) | (simp (disch := omega) only [SS, List.nil_append, List.cons_append, Go.Sx.sum] at *; done) | (simp (disch := omega) only [SS, List.nil_append, List.cons_append, Go.Sx.sum] at *; grind [mtB])
  have gg1 : (((0 : Nat) + (keepL RS RO RK RB sd op i).length).ble (keepL RS RO RK RB sd op i).length) = true := by first | (simp (disch := omega) only [SS, List.nil_append, List.cons_append, Go.Sx.sum] at *; omega) | (simp (disch := omega) only [SS, List.nil_append, List.cons_append, Go.Sx.sum] at *; done) | (simp (disch := omega) only [SS, List.nil_append, List.cons_append, Go.Sx.sum] at *; grind [mtB])
  have gg2 : (decide (((2 : Nat) * ((keepL RS RO RK RB sd op i).length + (1 : Nat)) + (192 : Nat)) * (32 : Nat) ≤ (281474976710656 : Nat))) = true := by first | (simp (disch := omega) only [SS, List.nil_append, List.cons_append, Go.Sx.sum] at *; omega) | (simp (disch := omega) only [SS, List.nil_append, List.cons_append, Go.Sx.sum] at *; done) | (simp (disch := omega) only [SS, List.nil_append, List.cons_append, Go.Sx.sum] at *; grind [mtB])
  refine runs_last baseO (Sx.Ends.of (seZ_p0 N M R h a s sd op k o RS RO RK RB i) ⟨(okc gg0 (okc gg1 (okc gg2 okn))), ?_⟩) (by kernel_rfl) rfl (gtL (by decide)) (by decide)
  subst hi
  simp (disch := omega) only [SS, List.nil_append, List.cons_append, Go.Sx.sum, List.length_append, List.length_cons, List.length_nil] at *
  have hs1 : ∀ (l : List Rw) (x : Rw) (p : Nat), p < l.length + 1 → rS (l ++ [x]) [p] = appF l.length 0 (rS l) (fun _ => x.1) [p] := fun l x p hp => by rw [rS_snoc l x p hp]; simp [appF]
  have hs2 : ∀ (l : List Rw) (x : Rw) (p : Nat), p < l.length + 1 → rO (l ++ [x]) [p] = appF l.length 0 (rO l) (fun _ => x.2.1) [p] := fun l x p hp => by rw [rO_snoc l x p hp]; simp [appF]
  have hs3 : ∀ (l : List Rw) (x : Rw) (p : Nat), p < l.length + 1 → rK (l ++ [x]) [p] = appF l.length 0 (rK l) (fun _ => x.2.2.1) [p] := fun l x p hp => by rw [rK_snoc l x p hp]; simp [appF]
  have hs4 : ∀ (l : List Rw) (x : Rw) (p : Nat), p < l.length + 1 → rB (l ++ [x]) [p] = appF l.length 0 (rB l) (fun _ => x.2.2.2) [p] := fun l x p hp => by rw [rB_snoc l x p hp]; simp [appF]
  repeat' apply And.intro
  all_goals first | trivial | rfl | omega | (intro p hp; first | trivial | rfl | exact hs1 _ _ p hp | exact hs2 _ _ p hp | exact hs3 _ _ p hp | exact hs4 _ _ p hp)

theorem seL (N M R : Nat) (h a s sd op k : Int) (o : Bool) (RS RO RK : Ix → Int) (RB : Ix → Bool) (hR : R ≤ 100) : ∀ k' i, i + k' = R → RunsTo Tryd.prog 89 (headOf Tryd.f89 0) (envAt Tryd.f89.ntmps (seE R i (keepL RS RO RK RB sd op i).length sd op)) (Sx.look ([] ++ (resE 86 k o ++ (outE 85 (keepL RS RO RK RB sd op i) ++ mdE 60 61 N M 63 R h a s RS RO RK RB)))) 80 (.tup []) (Sx.look (mdE 60 61 N M 101 ((keepL RS RO RK RB sd op R ++ [(sd, op, k, o)])).length h a s (rS (keepL RS RO RK RB sd op R ++ [(sd, op, k, o)])) (rO (keepL RS RO RK RB sd op R ++ [(sd, op, k, o)])) (rK (keepL RS RO RK RB sd op R ++ [(sd, op, k, o)])) (rB (keepL RS RO RK RB sd op R ++ [(sd, op, k, o)])))) 120 := by
  intro k'
  induction k' with
  | zero => intro i hi; exact seZ N M R h a s sd op k o RS RO RK RB i (by omega) hR
  | succ k' ih =>
    intro i hi
    cases hc : mtB RS RO sd op i with
    | true => exact seY N M R h a s sd op k o RS RO RK RB i (by omega) hR hc _ _ (ih (i + 1) (by omega))
    | false => exact seN N M R h a s sd op k o RS RO RK RB i (by omega) hR hc _ _ (ih (i + 1) (by omega))
def setPC : PC := { args := [.v (.vp 60), .v (.vi .i64 10), .v (.vi .i64 11), .agg (.tc (.vi .i64 12) (.tc (.vb 13) .t0))], heap := mdP 60 61 63 0, gs := [], G := 25, tp := 223, n := 80, n' := 120, cond := fun e => decide (eN e 2 ≤ 100), v := fun e => .tup [], post := fun e => mdE 60 61 (eN e 0) (eN e 1) 101 ((keepL (eI e 6) (eI e 7) (eI e 8) (eB e 9) (eI e 10 []) (eI e 11 []) (eN e 2) ++ [(eI e 10 [], eI e 11 [], eI e 12 [], eB e 13 [])])).length (eI e 3 []) (eI e 4 []) (eI e 5 []) (rS (keepL (eI e 6) (eI e 7) (eI e 8) (eB e 9) (eI e 10 []) (eI e 11 []) (eN e 2) ++ [(eI e 10 [], eI e 11 [], eI e 12 [], eB e 13 [])])) (rO (keepL (eI e 6) (eI e 7) (eI e 8) (eB e 9) (eI e 10 []) (eI e 11 []) (eN e 2) ++ [(eI e 10 [], eI e 11 [], eI e 12 [], eB e 13 [])])) (rK (keepL (eI e 6) (eI e 7) (eI e 8) (eB e 9) (eI e 10 []) (eI e 11 []) (eN e 2) ++ [(eI e 10 [], eI e 11 [], eI e 12 [], eB e 13 [])])) (rB (keepL (eI e 6) (eI e 7) (eI e 8) (eB e 9) (eI e 10 []) (eI e 11 []) (eN e 2) ++ [(eI e 10 [], eI e 11 [], eI e 12 [], eB e 13 [])])) }
theorem set_pc : PC.Runs Tryd.prog 89 Tryd.f89 (bodyOf Tryd.f89) setPC := ⟨Tryd.func89, by kernel_rfl, (fun g hg => by cases hg), fun e H hc => se0 (eN e 0) (eN e 1) (eN e 2) (eI e 3 []) (eI e 4 []) (eI e 5 []) (eI e 10 []) (eI e 11 []) (eI e 12 []) (eB e 13 []) (eI e 6) (eI e 7) (eI e 8) (eB e 9) _ _ (seL (eN e 0) (eN e 1) (eN e 2) (eI e 3 []) (eI e 4 []) (eI e 5 []) (eI e 10 []) (eI e 11 []) (eI e 12 []) (eB e 13 []) (eI e 6) (eI e 7) (eI e 8) (eB e 9) (of_decide_eq_true hc) (eN e 2) 0 (by omega))⟩

end Go.Proofs.YtealbjkhjpmilaaDoor

