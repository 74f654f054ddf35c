/- Trace: rows of entries; errors of numbers; texts compared. -/
import Derived.Test.YtaleenklamognaaDoorZbC
import Derived.Test.YtaleenklamognaaDoorZaC
set_option linter.unusedSimpArgs false
set_option linter.unusedVariables false
set_option maxRecDepth 100000
namespace Go.Proofs.YtaleenklamognaaDoor
open Go.Sx

open WordR
structure RF where
  K : Ix → Int
  N : Ix → Int
  C : Ix → Int
  X : Ix → List UInt8
  M : Ix → Nat
  L : Ix → Nat
  nk : Ix → Int
  nc : Ix → Int
  ns : Ix → Int
  no : Ix → Int
  nb : Ix → Bool
  V : Ix → Int
  O : Ix → Int
  E : Ix → Nat
  B : Ix → Int
def errI (n : Int) : Nat := if 1 ≤ n ∧ n ≤ 16 then (n - 1).toNat else 16
def noT (r : RF) : Tr := .tc (.vi .i64 r.nk) (.tc (.vi .i64 r.nc) (.tc (.vi .i64 r.ns) (.tc (.vi .i64 r.no) (.tc (.vb r.nb) .t0))))
def enT' (fam : Nat) (r : RF) (z : Tr) : Tr := .tc (.vi .i64 r.K) (.tc (.vi .i64 r.N) (.tc (.vi .i64 r.C) (.tc (.vs r.X) (.tc (.vl fam r.M 1 [] r.L) (.tc (noT r) (.tc (.vi .i64 r.V) (.tc (.vi .i64 r.O) (.tc z .t0))))))))
def enT (fam : Nat) (r : RF) : Tr := enT' fam r (.vx 213 errL r.E)
def rfT (fam : Nat) (r : RF) : Tr := enT' fam r (.vi .i64 r.B)
def enE (own : Bool) (l fam : Nat) (r : RF) (n : Nat) : List Ent := [⟨l, own, none, 13, .ta n (enT fam r)⟩]
def rfE (own : Bool) (l fam : Nat) (r : RF) (n : Nat) : List Ent := [⟨l, own, none, 13, .ta n (rfT fam r)⟩]
def cs {α : Type} (f : Ix → α) : Ix → α := fun _ => f []
def RF.one (r : RF) : RF := ⟨cs r.K, cs r.N, cs r.C, cs r.X, fun _ => 0, cs r.L, cs r.nk, cs r.nc, cs r.ns, cs r.no, cs r.nb, cs r.V, cs r.O, cs r.E, cs r.B⟩
def RF.at (r : RF) (i : Nat) : RF := ⟨fun js => r.K (i :: js), fun js => r.N (i :: js), fun js => r.C (i :: js), fun js => r.X (i :: js), fun js => r.M (i :: js), fun js => r.L (i :: js), fun js => r.nk (i :: js), fun js => r.nc (i :: js), fun js => r.ns (i :: js), fun js => r.no (i :: js), fun js => r.nb (i :: js), fun js => r.V (i :: js), fun js => r.O (i :: js), fun js => r.E (i :: js), fun js => r.B (i :: js)⟩
def ixI (I : List Nat) {α : Type} (f : Ix → α) : Ix → α := fun is => f [I.getD (is.headD 0) 0]
def RF.sel (r : RF) (I : List Nat) : RF := ⟨ixI I r.K, ixI I r.N, ixI I r.C, ixI I r.X, ixI I r.M, ixI I r.L, ixI I r.nk, ixI I r.nc, ixI I r.ns, ixI I r.no, ixI I r.nb, ixI I r.V, ixI I r.O, ixI I r.E, ixI I r.B⟩
def RF.err (r : RF) : RF := ⟨r.K, r.N, r.C, r.X, r.M, r.L, r.nk, r.nc, r.ns, r.no, r.nb, r.V, r.O, fun is => errI (r.B is), r.B⟩
def RF.num (r : RF) : RF := ⟨r.K, r.N, r.C, r.X, r.M, r.L, r.nk, r.nc, r.ns, r.no, r.nb, r.V, r.O, r.E, fun is => xnum (r.E is)⟩
def txRw (n : Nat) (T T' : Ix → List UInt8) : Bool := (List.range n).all fun q => decide (T [q] = T' [q])
def noteB (r r' : RF) : Bool := r.nk [] == r'.nk [] && (r.nc [] == r'.nc [] && (r.ns [] == r'.ns [] && (r.no [] == r'.no [] && (r.nb [] == r'.nb [] && true))))
def sameG (r r' : RF) (T T' : Ix → List UInt8) : Bool :=
  (r.K [] == r'.K []) && ((r.N [] == r'.N []) && ((r.C [] == r'.C []) && ((r.X [] == r'.X []) && (((r.L [] == r'.L []) && txRw (r.L []) T T') && (noteB r r' && ((r.V [] == r'.V []) && (r.O [] == r'.O [])))))))
def sameV (r r' : RF) (T T' : Ix → List UInt8) : Bool := sameG r r' T T' && (xnum (r.E []) == xnum (r'.E []))
def sameW (r r' : RF) (T T' : Ix → List UInt8) : Bool := sameG r r' T T' && (r.B [] == r'.B [])
def fewB (n : Nat) (T : Ix → List UInt8) (many most : Int) : Bool := decide ((n : Int) ≤ many) && (List.range n).all fun q => decide (((T [q]).length : Int) ≤ most)
abbrev vX (k : Nat) : SV := .v (.vx 213 errL fun _ => k)
theorem all_loop {ok : Nat → Bool} {n : Nat} {R : Nat → Bool → Prop} (step : ∀ i, i < n → ok i = true → ∀ b, R (i + 1) b → R i b) (stop : ∀ i, i < n → ok i = false → R i false) (fin : R n true) : R 0 ((List.range n).all ok) := by
  suffices q : ∀ (k i : Nat), i + k = n → R i ((List.range' i k).all ok) from by
    have := q n 0 (by omega); rwa [← List.range_eq_range'] at this
  intro k
  induction k with
  | zero => intro i hi; rw [show i = n by omega]; simpa using fin
  | succ k ih =>
    intro i hi
    rw [List.range'_succ, List.all_cons]
    cases h : ok i with
    | true => rw [Bool.true_and]; exact step i (by omega) h _ (ih (i + 1) (by omega))
    | false => rw [Bool.false_and]; exact stop i (by omega) h
theorem down_loop {n : Nat} {R : Nat → Prop} (step : ∀ i, i < n → R (i + 1) → R i) (fin : R n) : R 0 := by
  suffices q : ∀ (k i : Nat), i + k = n → R i from q n 0 (by omega)
  intro k
  induction k with
  | zero => intro i hi; rw [show i = n by omega]; exact fin
  | succ k ih => intro i hi; exact step i (by omega) (ih (i + 1) (by omega))
theorem er_0_p0 (H : List Ent) :
    isEnd (evTill Tryd.prog [] 300 (99) 900 107 [.code (bodyOf Tryd.f107)] (envOf [vN 1] Tryd.f107.ntmps) (sentEnts 23 213 (textsIn 23 H errG) ++ ([])) ⟨[.f, .f, .t, .t], 80⟩) (endP ([]) (vX 0) ([]) 130) =
    (OkL [] ∧ ((0 : Nat) = (0 : Nat) ∧ true = true) ∧ True) := by kernel_rfl

set_option maxHeartbeats 4000000 in
theorem er_0 (H : List Ent)  :
    RunsTo Tryd.prog 107 [.code (bodyOf Tryd.f107)] (envOf [vN 1] Tryd.f107.ntmps) (Sx.look (sentEnts 23 213 (textsIn 23 H errG) ++ ([]))) 80 (vX 0) (Sx.look ([])) 130 := by
  refine runs_last baseO (Sx.Ends.of (er_0_p0 H) ⟨?oo, ?rr⟩) (by kernel_rfl) rfl (gtL (by decide)) (by decide)
  case oo =>
    refine okn
    all_goals first | rfl | decide
  case rr =>
    first | exact ⟨⟨rfl, rfl⟩, trivial⟩ | (refine ⟨?_, trivial⟩; exact ⟨rfl, rfl⟩) | decide | simp [atO, sgOf, isToR, nthL, errL]

theorem er_1_p0 (H : List Ent) :
    isEnd (evTill Tryd.prog [] 300 (99) 900 107 [.code (bodyOf Tryd.f107)] (envOf [vN 2] Tryd.f107.ntmps) (sentEnts 23 213 (textsIn 23 H errG) ++ ([])) ⟨[.f, .f, .t, .t], 80⟩) (endP ([]) (vX 1) ([]) 130) =
    (OkL [] ∧ ((0 : Nat) = (0 : Nat) ∧ true = true) ∧ True) := by kernel_rfl

set_option maxHeartbeats 4000000 in
theorem er_1 (H : List Ent)  :
    RunsTo Tryd.prog 107 [.code (bodyOf Tryd.f107)] (envOf [vN 2] Tryd.f107.ntmps) (Sx.look (sentEnts 23 213 (textsIn 23 H errG) ++ ([]))) 80 (vX 1) (Sx.look ([])) 130 := by
  refine runs_last baseO (Sx.Ends.of (er_1_p0 H) ⟨?oo, ?rr⟩) (by kernel_rfl) rfl (gtL (by decide)) (by decide)
  case oo =>
    refine okn
    all_goals first | rfl | decide
  case rr =>
    first | exact ⟨⟨rfl, rfl⟩, trivial⟩ | (refine ⟨?_, trivial⟩; exact ⟨rfl, rfl⟩) | decide | simp [atO, sgOf, isToR, nthL, errL]

theorem er_2_p0 (H : List Ent) :
    isEnd (evTill Tryd.prog [] 300 (99) 900 107 [.code (bodyOf Tryd.f107)] (envOf [vN 3] Tryd.f107.ntmps) (sentEnts 23 213 (textsIn 23 H errG) ++ ([])) ⟨[.f, .f, .t, .t], 80⟩) (endP ([]) (vX 2) ([]) 130) =
    (OkL [] ∧ ((0 : Nat) = (0 : Nat) ∧ true = true) ∧ True) := by kernel_rfl

set_option maxHeartbeats 4000000 in
theorem er_2 (H : List Ent)  :
    RunsTo Tryd.prog 107 [.code (bodyOf Tryd.f107)] (envOf [vN 3] Tryd.f107.ntmps) (Sx.look (sentEnts 23 213 (textsIn 23 H errG) ++ ([]))) 80 (vX 2) (Sx.look ([])) 130 := by
  refine runs_last baseO (Sx.Ends.of (er_2_p0 H) ⟨?oo, ?rr⟩) (by kernel_rfl) rfl (gtL (by decide)) (by decide)
  case oo =>
    refine okn
    all_goals first | rfl | decide
  case rr =>
    first | exact ⟨⟨rfl, rfl⟩, trivial⟩ | (refine ⟨?_, trivial⟩; exact ⟨rfl, rfl⟩) | decide | simp [atO, sgOf, isToR, nthL, errL]

theorem er_3_p0 (H : List Ent) :
    isEnd (evTill Tryd.prog [] 300 (99) 900 107 [.code (bodyOf Tryd.f107)] (envOf [vN 4] Tryd.f107.ntmps) (sentEnts 23 213 (textsIn 23 H errG) ++ ([])) ⟨[.f, .f, .t, .t], 80⟩) (endP ([]) (vX 3) ([]) 130) =
    (OkL [] ∧ ((0 : Nat) = (0 : Nat) ∧ true = true) ∧ True) := by kernel_rfl

set_option maxHeartbeats 4000000 in
theorem er_3 (H : List Ent)  :
    RunsTo Tryd.prog 107 [.code (bodyOf Tryd.f107)] (envOf [vN 4] Tryd.f107.ntmps) (Sx.look (sentEnts 23 213 (textsIn 23 H errG) ++ ([]))) 80 (vX 3) (Sx.look ([])) 130 := by
  refine runs_last baseO (Sx.Ends.of (er_3_p0 H) ⟨?oo, ?rr⟩) (by kernel_rfl) rfl (gtL (by decide)) (by decide)
  case oo =>
    refine okn
    all_goals first | rfl | decide
  case rr =>
    first | exact ⟨⟨rfl, rfl⟩, trivial⟩ | (refine ⟨?_, trivial⟩; exact ⟨rfl, rfl⟩) | decide | simp [atO, sgOf, isToR, nthL, errL]

theorem er_4_p0 (H : List Ent) :
    isEnd (evTill Tryd.prog [] 300 (99) 900 107 [.code (bodyOf Tryd.f107)] (envOf [vN 5] Tryd.f107.ntmps) (sentEnts 23 213 (textsIn 23 H errG) ++ ([])) ⟨[.f, .f, .t, .t], 80⟩) (endP ([]) (vX 4) ([]) 130) =
    (OkL [] ∧ ((0 : Nat) = (0 : Nat) ∧ true = true) ∧ True) := by kernel_rfl

set_option maxHeartbeats 4000000 in
theorem er_4 (H : List Ent)  :
    RunsTo Tryd.prog 107 [.code (bodyOf Tryd.f107)] (envOf [vN 5] Tryd.f107.ntmps) (Sx.look (sentEnts 23 213 (textsIn 23 H errG) ++ ([]))) 80 (vX 4) (Sx.look ([])) 130 := by
  refine runs_last baseO (Sx.Ends.of (er_4_p0 H) ⟨?oo, ?rr⟩) (by kernel_rfl) rfl (gtL (by decide)) (by decide)
  case oo =>
    refine okn
    all_goals first | rfl | decide
  case rr =>
    first | exact ⟨⟨rfl, rfl⟩, trivial⟩ | (refine ⟨?_, trivial⟩; exact ⟨rfl, rfl⟩) | decide | simp [atO, sgOf, isToR, nthL, errL]

theorem er_5_p0 (H : List Ent) :
    isEnd (evTill Tryd.prog [] 300 (99) 900 107 [.code (bodyOf Tryd.f107)] (envOf [vN 6] Tryd.f107.ntmps) (sentEnts 23 213 (textsIn 23 H errG) ++ ([])) ⟨[.f, .f, .t, .t], 80⟩) (endP ([]) (vX 5) ([]) 130) =
    (OkL [] ∧ ((0 : Nat) = (0 : Nat) ∧ true = true) ∧ True) := by kernel_rfl

set_option maxHeartbeats 4000000 in
theorem er_5 (H : List Ent)  :
    RunsTo Tryd.prog 107 [.code (bodyOf Tryd.f107)] (envOf [vN 6] Tryd.f107.ntmps) (Sx.look (sentEnts 23 213 (textsIn 23 H errG) ++ ([]))) 80 (vX 5) (Sx.look ([])) 130 := by
  refine runs_last baseO (Sx.Ends.of (er_5_p0 H) ⟨?oo, ?rr⟩) (by kernel_rfl) rfl (gtL (by decide)) (by decide)
  case oo =>
    refine okn
    all_goals first | rfl | decide
  case rr =>
    first | exact ⟨⟨rfl, rfl⟩, trivial⟩ | (refine ⟨?_, trivial⟩; exact ⟨rfl, rfl⟩) | decide | simp [atO, sgOf, isToR, nthL, errL]

theorem er_6_p0 (H : List Ent) :
    isEnd (evTill Tryd.prog [] 300 (99) 900 107 [.code (bodyOf Tryd.f107)] (envOf [vN 7] Tryd.f107.ntmps) (sentEnts 23 213 (textsIn 23 H errG) ++ ([])) ⟨[.f, .f, .t, .t], 80⟩) (endP ([]) (vX 6) ([]) 130) =
    (OkL [] ∧ ((0 : Nat) = (0 : Nat) ∧ true = true) ∧ True) := by kernel_rfl

set_option maxHeartbeats 4000000 in
theorem er_6 (H : List Ent)  :
    RunsTo Tryd.prog 107 [.code (bodyOf Tryd.f107)] (envOf [vN 7] Tryd.f107.ntmps) (Sx.look (sentEnts 23 213 (textsIn 23 H errG) ++ ([]))) 80 (vX 6) (Sx.look ([])) 130 := by
  refine runs_last baseO (Sx.Ends.of (er_6_p0 H) ⟨?oo, ?rr⟩) (by kernel_rfl) rfl (gtL (by decide)) (by decide)
  case oo =>
    refine okn
    all_goals first | rfl | decide
  case rr =>
    first | exact ⟨⟨rfl, rfl⟩, trivial⟩ | (refine ⟨?_, trivial⟩; exact ⟨rfl, rfl⟩) | decide | simp [atO, sgOf, isToR, nthL, errL]

theorem er_7_p0 (H : List Ent) :
    isEnd (evTill Tryd.prog [] 300 (99) 900 107 [.code (bodyOf Tryd.f107)] (envOf [vN 8] Tryd.f107.ntmps) (sentEnts 23 213 (textsIn 23 H errG) ++ ([])) ⟨[.f, .f, .t, .t], 80⟩) (endP ([]) (vX 7) ([]) 130) =
    (OkL [] ∧ ((0 : Nat) = (0 : Nat) ∧ true = true) ∧ True) := by kernel_rfl

set_option maxHeartbeats 4000000 in
theorem er_7 (H : List Ent)  :
    RunsTo Tryd.prog 107 [.code (bodyOf Tryd.f107)] (envOf [vN 8] Tryd.f107.ntmps) (Sx.look (sentEnts 23 213 (textsIn 23 H errG) ++ ([]))) 80 (vX 7) (Sx.look ([])) 130 := by
  refine runs_last baseO (Sx.Ends.of (er_7_p0 H) ⟨?oo, ?rr⟩) (by kernel_rfl) rfl (gtL (by decide)) (by decide)
  case oo =>
    refine okn
    all_goals first | rfl | decide
  case rr =>
    first | exact ⟨⟨rfl, rfl⟩, trivial⟩ | (refine ⟨?_, trivial⟩; exact ⟨rfl, rfl⟩) | decide | simp [atO, sgOf, isToR, nthL, errL]

theorem er_8_p0 (H : List Ent) :
    isEnd (evTill Tryd.prog [] 300 (99) 900 107 [.code (bodyOf Tryd.f107)] (envOf [vN 9] Tryd.f107.ntmps) (sentEnts 23 213 (textsIn 23 H errG) ++ ([])) ⟨[.f, .f, .t, .t], 80⟩) (endP ([]) (vX 8) ([]) 130) =
    (OkL [] ∧ ((0 : Nat) = (0 : Nat) ∧ true = true) ∧ True) := by kernel_rfl

set_option maxHeartbeats 4000000 in
theorem er_8 (H : List Ent)  :
    RunsTo Tryd.prog 107 [.code (bodyOf Tryd.f107)] (envOf [vN 9] Tryd.f107.ntmps) (Sx.look (sentEnts 23 213 (textsIn 23 H errG) ++ ([]))) 80 (vX 8) (Sx.look ([])) 130 := by
  refine runs_last baseO (Sx.Ends.of (er_8_p0 H) ⟨?oo, ?rr⟩) (by kernel_rfl) rfl (gtL (by decide)) (by decide)
  case oo =>
    refine okn
    all_goals first | rfl | decide
  case rr =>
    first | exact ⟨⟨rfl, rfl⟩, trivial⟩ | (refine ⟨?_, trivial⟩; exact ⟨rfl, rfl⟩) | decide | simp [atO, sgOf, isToR, nthL, errL]

theorem er_9_p0 (H : List Ent) :
    isEnd (evTill Tryd.prog [] 300 (99) 900 107 [.code (bodyOf Tryd.f107)] (envOf [vN 10] Tryd.f107.ntmps) (sentEnts 23 213 (textsIn 23 H errG) ++ ([])) ⟨[.f, .f, .t, .t], 80⟩) (endP ([]) (vX 9) ([]) 130) =
    (OkL [] ∧ ((0 : Nat) = (0 : Nat) ∧ true = true) ∧ True) := by kernel_rfl

set_option maxHeartbeats 4000000 in
theorem er_9 (H : List Ent)  :
    RunsTo Tryd.prog 107 [.code (bodyOf Tryd.f107)] (envOf [vN 10] Tryd.f107.ntmps) (Sx.look (sentEnts 23 213 (textsIn 23 H errG) ++ ([]))) 80 (vX 9) (Sx.look ([])) 130 := by
  refine runs_last baseO (Sx.Ends.of (er_9_p0 H) ⟨?oo, ?rr⟩) (by kernel_rfl) rfl (gtL (by decide)) (by decide)
  case oo =>
    refine okn
    all_goals first | rfl | decide
  case rr =>
    first | exact ⟨⟨rfl, rfl⟩, trivial⟩ | (refine ⟨?_, trivial⟩; exact ⟨rfl, rfl⟩) | decide | simp [atO, sgOf, isToR, nthL, errL]

theorem er_10_p0 (H : List Ent) :
    isEnd (evTill Tryd.prog [] 300 (99) 900 107 [.code (bodyOf Tryd.f107)] (envOf [vN 11] Tryd.f107.ntmps) (sentEnts 23 213 (textsIn 23 H errG) ++ ([])) ⟨[.f, .f, .t, .t], 80⟩) (endP ([]) (vX 10) ([]) 130) =
    (OkL [] ∧ ((0 : Nat) = (0 : Nat) ∧ true = true) ∧ True) := by kernel_rfl

set_option maxHeartbeats 4000000 in
theorem er_10 (H : List Ent)  :
    RunsTo Tryd.prog 107 [.code (bodyOf Tryd.f107)] (envOf [vN 11] Tryd.f107.ntmps) (Sx.look (sentEnts 23 213 (textsIn 23 H errG) ++ ([]))) 80 (vX 10) (Sx.look ([])) 130 := by
  refine runs_last baseO (Sx.Ends.of (er_10_p0 H) ⟨?oo, ?rr⟩) (by kernel_rfl) rfl (gtL (by decide)) (by decide)
  case oo =>
    refine okn
    all_goals first | rfl | decide
  case rr =>
    first | exact ⟨⟨rfl, rfl⟩, trivial⟩ | (refine ⟨?_, trivial⟩; exact ⟨rfl, rfl⟩) | decide | simp [atO, sgOf, isToR, nthL, errL]

theorem er_11_p0 (H : List Ent) :
    isEnd (evTill Tryd.prog [] 300 (99) 900 107 [.code (bodyOf Tryd.f107)] (envOf [vN 12] Tryd.f107.ntmps) (sentEnts 23 213 (textsIn 23 H errG) ++ ([])) ⟨[.f, .f, .t, .t], 80⟩) (endP ([]) (vX 11) ([]) 130) =
    (OkL [] ∧ ((0 : Nat) = (0 : Nat) ∧ true = true) ∧ True) := by kernel_rfl

set_option maxHeartbeats 4000000 in
theorem er_11 (H : List Ent)  :
    RunsTo Tryd.prog 107 [.code (bodyOf Tryd.f107)] (envOf [vN 12] Tryd.f107.ntmps) (Sx.look (sentEnts 23 213 (textsIn 23 H errG) ++ ([]))) 80 (vX 11) (Sx.look ([])) 130 := by
  refine runs_last baseO (Sx.Ends.of (er_11_p0 H) ⟨?oo, ?rr⟩) (by kernel_rfl) rfl (gtL (by decide)) (by decide)
  case oo =>
    refine okn
    all_goals first | rfl | decide
  case rr =>
    first | exact ⟨⟨rfl, rfl⟩, trivial⟩ | (refine ⟨?_, trivial⟩; exact ⟨rfl, rfl⟩) | decide | simp [atO, sgOf, isToR, nthL, errL]

theorem er_12_p0 (H : List Ent) :
    isEnd (evTill Tryd.prog [] 300 (99) 900 107 [.code (bodyOf Tryd.f107)] (envOf [vN 13] Tryd.f107.ntmps) (sentEnts 23 213 (textsIn 23 H errG) ++ ([])) ⟨[.f, .f, .t, .t], 80⟩) (endP ([]) (vX 12) ([]) 130) =
    (OkL [] ∧ ((0 : Nat) = (0 : Nat) ∧ true = true) ∧ True) := by kernel_rfl

set_option maxHeartbeats 4000000 in
theorem er_12 (H : List Ent)  :
    RunsTo Tryd.prog 107 [.code (bodyOf Tryd.f107)] (envOf [vN 13] Tryd.f107.ntmps) (Sx.look (sentEnts 23 213 (textsIn 23 H errG) ++ ([]))) 80 (vX 12) (Sx.look ([])) 130 := by
  refine runs_last baseO (Sx.Ends.of (er_12_p0 H) ⟨?oo, ?rr⟩) (by kernel_rfl) rfl (gtL (by decide)) (by decide)
  case oo =>
    refine okn
    all_goals first | rfl | decide
  case rr =>
    first | exact ⟨⟨rfl, rfl⟩, trivial⟩ | (refine ⟨?_, trivial⟩; exact ⟨rfl, rfl⟩) | decide | simp [atO, sgOf, isToR, nthL, errL]

theorem er_13_p0 (H : List Ent) :
    isEnd (evTill Tryd.prog [] 300 (99) 900 107 [.code (bodyOf Tryd.f107)] (envOf [vN 14] Tryd.f107.ntmps) (sentEnts 23 213 (textsIn 23 H errG) ++ ([])) ⟨[.f, .f, .t, .t], 80⟩) (endP ([]) (vX 13) ([]) 130) =
    (OkL [] ∧ ((0 : Nat) = (0 : Nat) ∧ true = true) ∧ True) := by kernel_rfl

set_option maxHeartbeats 4000000 in
theorem er_13 (H : List Ent)  :
    RunsTo Tryd.prog 107 [.code (bodyOf Tryd.f107)] (envOf [vN 14] Tryd.f107.ntmps) (Sx.look (sentEnts 23 213 (textsIn 23 H errG) ++ ([]))) 80 (vX 13) (Sx.look ([])) 130 := by
  refine runs_last baseO (Sx.Ends.of (er_13_p0 H) ⟨?oo, ?rr⟩) (by kernel_rfl) rfl (gtL (by decide)) (by decide)
  case oo =>
    refine okn
    all_goals first | rfl | decide
  case rr =>
    first | exact ⟨⟨rfl, rfl⟩, trivial⟩ | (refine ⟨?_, trivial⟩; exact ⟨rfl, rfl⟩) | decide | simp [atO, sgOf, isToR, nthL, errL]

theorem er_14_p0 (H : List Ent) :
    isEnd (evTill Tryd.prog [] 300 (99) 900 107 [.code (bodyOf Tryd.f107)] (envOf [vN 15] Tryd.f107.ntmps) (sentEnts 23 213 (textsIn 23 H errG) ++ ([])) ⟨[.f, .f, .t, .t], 80⟩) (endP ([]) (vX 14) ([]) 130) =
    (OkL [] ∧ ((0 : Nat) = (0 : Nat) ∧ true = true) ∧ True) := by kernel_rfl

set_option maxHeartbeats 4000000 in
theorem er_14 (H : List Ent)  :
    RunsTo Tryd.prog 107 [.code (bodyOf Tryd.f107)] (envOf [vN 15] Tryd.f107.ntmps) (Sx.look (sentEnts 23 213 (textsIn 23 H errG) ++ ([]))) 80 (vX 14) (Sx.look ([])) 130 := by
  refine runs_last baseO (Sx.Ends.of (er_14_p0 H) ⟨?oo, ?rr⟩) (by kernel_rfl) rfl (gtL (by decide)) (by decide)
  case oo =>
    refine okn
    all_goals first | rfl | decide
  case rr =>
    first | exact ⟨⟨rfl, rfl⟩, trivial⟩ | (refine ⟨?_, trivial⟩; exact ⟨rfl, rfl⟩) | decide | simp [atO, sgOf, isToR, nthL, errL]

theorem er_15_p0 (H : List Ent) :
    isEnd (evTill Tryd.prog [] 300 (99) 900 107 [.code (bodyOf Tryd.f107)] (envOf [vN 16] Tryd.f107.ntmps) (sentEnts 23 213 (textsIn 23 H errG) ++ ([])) ⟨[.f, .f, .t, .t], 80⟩) (endP ([]) (vX 15) ([]) 130) =
    (OkL [] ∧ ((0 : Nat) = (0 : Nat) ∧ true = true) ∧ True) := by kernel_rfl

set_option maxHeartbeats 4000000 in
theorem er_15 (H : List Ent)  :
    RunsTo Tryd.prog 107 [.code (bodyOf Tryd.f107)] (envOf [vN 16] Tryd.f107.ntmps) (Sx.look (sentEnts 23 213 (textsIn 23 H errG) ++ ([]))) 80 (vX 15) (Sx.look ([])) 130 := by
  refine runs_last baseO (Sx.Ends.of (er_15_p0 H) ⟨?oo, ?rr⟩) (by kernel_rfl) rfl (gtL (by decide)) (by decide)
  case oo =>
    refine okn
    all_goals first | rfl | decide
  case rr =>
    first | exact ⟨⟨rfl, rfl⟩, trivial⟩ | (refine ⟨?_, trivial⟩; exact ⟨rfl, rfl⟩) | decide | simp [atO, sgOf, isToR, nthL, errL]

theorem er_x_p0 (H : List Ent) (n : Int) :
    isEnd (evTill Tryd.prog [] 300 (99) 900 107 [.code (bodyOf Tryd.f107)] (envOf [vN n] Tryd.f107.ntmps) (sentEnts 23 213 (textsIn 23 H errG) ++ ([])) ⟨[.s false, .s true], 80⟩) (endP ([]) (vX 16) ([]) 130) =
    (OkL [(decide (n < (1 : Int)), false), (decide (n > (16 : Int)), true)] ∧ (none : Option Nat) = none ∧ True) := by kernel_rfl
theorem er_x_p1 (H : List Ent) (n : Int) :
    isEnd (evTill Tryd.prog [] 300 (99) 900 107 [.code (bodyOf Tryd.f107)] (envOf [vN n] Tryd.f107.ntmps) (sentEnts 23 213 (textsIn 23 H errG) ++ ([])) ⟨[.s true], 80⟩) (endP ([]) (vX 16) ([]) 130) =
    (OkL [(decide (n < (1 : Int)), true)] ∧ (none : Option Nat) = none ∧ True) := by kernel_rfl

set_option maxHeartbeats 4000000 in
theorem er_x (H : List Ent) (n : Int) (h : ¬ (1 ≤ n ∧ n ≤ 16))  :
    RunsTo Tryd.prog 107 [.code (bodyOf Tryd.f107)] (envOf [vN n] Tryd.f107.ntmps) (Sx.look (sentEnts 23 213 (textsIn 23 H errG) ++ ([]))) 80 (vX 16) (Sx.look ([])) 130 := by
  refine bcase (c := (decide (n < (1 : Int)))) (fun gg0 => ?_) (fun gg0 => ?_)
  · refine runs_last baseO (Sx.Ends.of (er_x_p0 H n) ⟨?oo, ?rr⟩) (by kernel_rfl) rfl (gtL (by decide)) (by decide)
    case oo =>
      refine (okc gg0 (okc ?_ okn))
      all_goals ((try simp (disch := omega) only [SS]); first | done | omega | assumption | (simp (disch := omega) only [SS] at *; first | done | omega | assumption) | (simp_all; done))
    case rr =>
      first | exact ⟨rfl, trivial⟩ | decide | simp [nthL, errL]
  · refine runs_last baseO (Sx.Ends.of (er_x_p1 H n) ⟨?oo, ?rr⟩) (by kernel_rfl) rfl (gtL (by decide)) (by decide)
    case oo =>
      refine (okc gg0 okn)
      all_goals ((try simp (disch := omega) only [SS]); first | done | omega | assumption | (simp (disch := omega) only [SS] at *; first | done | omega | assumption) | (simp_all; done))
    case rr =>
      first | exact ⟨rfl, trivial⟩ | decide | simp [nthL, errL]

theorem erT (H : List Ent) (n : Int) : RunsTo Tryd.prog 107 [.code (bodyOf Tryd.f107)] (envOf [vN n] Tryd.f107.ntmps) (Sx.look (sentEnts 23 213 (textsIn 23 H errG) ++ ([]))) 80 (vX (errI n)) (Sx.look []) 130 := by
  by_cases h : 1 ≤ n ∧ n ≤ 16
  · obtain ⟨k, rfl⟩ : ∃ k : Nat, n = (k : Int) + 1 := ⟨(n - 1).toNat, by omega⟩
    rw [show errI ((k : Int) + 1) = k by unfold errI; rw [if_pos h]; omega]
    have hk : k < 16 := by omega
    clear h
    match k, hk with
    | 0, _ => exact er_0 H
    | 1, _ => exact er_1 H
    | 2, _ => exact er_2 H
    | 3, _ => exact er_3 H
    | 4, _ => exact er_4 H
    | 5, _ => exact er_5 H
    | 6, _ => exact er_6 H
    | 7, _ => exact er_7 H
    | 8, _ => exact er_8 H
    | 9, _ => exact er_9 H
    | 10, _ => exact er_10 H
    | 11, _ => exact er_11 H
    | 12, _ => exact er_12 H
    | 13, _ => exact er_13 H
    | 14, _ => exact er_14 H
    | 15, _ => exact er_15 H
    | j + 16, q => exact absurd q (by omega)
  · rw [show errI n = 16 from if_neg h]
    exact er_x H n h
def erP : PC := { args := [.v (.vi .i64 0)], heap := [], gs := [0, 1, 2, 3, 4, 5, 6, 7, 8, 9, 10, 11, 12, 13, 14, 15], G := 23, tp := 213, n := 80, n' := 130, cond := fun e => true, v := fun e => vX (errI (eI e 0 [])), post := fun e => [] }
theorem erP_pc : PC.Runs Tryd.prog 107 Tryd.f107 (bodyOf Tryd.f107) erP := ⟨Tryd.func107, by kernel_rfl, (fun g hg => by first | (cases hg; done) | (revert g; show ∀ g ∈ ([0, 1, 2, 3, 4, 5, 6, 7, 8, 9, 10, 11, 12, 13, 14, 15] : List Nat), g < 23; decide)), fun e H hc => by
  have hc : (true) = true := hc
  try simp only [Bool.and_eq_true, decide_eq_true_eq, Nat.beq_eq] at hc
  exact erT H (eI e 0 [])⟩
theorem fw0_p0 (n M : Nat) (T : Ix → List UInt8) (m w : Int) :
    isEnd (evTill Tryd.prog [] 300 (99) 900 71 [.code (bodyOf Tryd.f71)] (envOf [vL 61 1 n, vN m, vN w] Tryd.f71.ntmps) ([⟨61, false, none, 1, .ta M (.vs T)⟩] ++ ([])) ⟨[.s true], 80⟩) (endP ([]) (vB false) ([]) 130) =
    (OkL [(decide ((↑n : Int) > m), true)] ∧ false = false ∧ True) := by kernel_rfl

set_option maxHeartbeats 4000000 in
theorem fw0 (n M : Nat) (T : Ix → List UInt8) (m w : Int) (h : ¬ ((n : Int) ≤ m))  :
    RunsTo Tryd.prog 71 [.code (bodyOf Tryd.f71)] (envOf [vL 61 1 n, vN m, vN w] Tryd.f71.ntmps) (Sx.look ([⟨61, false, none, 1, .ta M (.vs T)⟩] ++ ([]))) 80 (vB false) (Sx.look ([])) 130 := by
  refine runs_last baseO (Sx.Ends.of (fw0_p0 n M T m w) ⟨?oo, ?rr⟩) (by kernel_rfl) rfl (gtL (by decide)) (by decide)
  case oo =>
    refine (okc ?_ okn)
    all_goals ((try simp (disch := omega) only [SS]); first | done | omega | assumption | (simp (disch := omega) only [SS] at *; first | done | omega | assumption) | (simp_all; done))
  case rr =>
    try simp (disch := omega) only [SS]
    repeat' apply And.intro
    all_goals first | exact True.intro | with_reducible rfl | omega | (intros; first | exact True.intro | with_reducible rfl | omega | (simp_all; done)) | (simp_all; done) | rfl

theorem fw1_p0 (n M : Nat) (T : Ix → List UInt8) (m w : Int) :
    isMore (evTill Tryd.prog [] 300 (behind Tryd.f71 0) 900 71 [.code (bodyOf Tryd.f71)] (envOf [vL 61 1 n, vN m, vN w] Tryd.f71.ntmps) ([⟨61, false, none, 1, .ta M (.vs T)⟩] ++ ([])) ⟨[.s false], 80⟩) (moreP (headOf Tryd.f71 0) ([]) Tryd.f71.ntmps ([(2, vN w), (13, vL 61 1 n), (14, vN n), (15, vN (0 : Nat))]) ([]) 130) =
    (OkL [(decide ((↑n : Int) > m), false)] ∧ headOf Tryd.f71 (0 : Nat) = headOf Tryd.f71 (0 : Nat) ∧ (w = w ∧ ((0 : Nat) = (0 : Nat) ∧ n = n) ∧ (↑n : Int) = (↑n : Int) ∧ (↑(0 : Nat) : Int) = (0 : Int)) ∧ True) := by kernel_rfl

set_option maxHeartbeats 4000000 in
theorem fw1 (n M : Nat) (T : Ix → List UInt8) (m w : Int) (h : (n : Int) ≤ m)  (v : SV) (L' : HF) (next : RunsTo Tryd.prog 71 (headOf Tryd.f71 0) (envAt Tryd.f71.ntmps ([(2, vN w), (13, vL 61 1 n), (14, vN n), (15, vN (0 : Nat))])) (Sx.look ([⟨61, false, none, 1, .ta M (.vs T)⟩] ++ ([]))) 80 (v) (L') 130) :
    RunsTo Tryd.prog 71 [.code (bodyOf Tryd.f71)] (envOf [vL 61 1 n, vN m, vN w] Tryd.f71.ntmps) (Sx.look ([⟨61, false, none, 1, .ta M (.vs T)⟩] ++ ([]))) 80 (v) (L') 130 := by
  refine runs_more baseO (More.of (fw1_p0 n M T m w) ⟨?oo, rfl, ?rr⟩) (by kernel_rfl) (by kernel_rfl) rfl (gtL (by decide)) (by decide) next
  case oo =>
    clear next
    refine (okc ?_ okn)
    all_goals ((try simp (disch := omega) only [SS]); first | done | omega | assumption | (simp (disch := omega) only [SS] at *; first | done | omega | assumption) | (simp_all; done))
  case rr =>
    clear next
    try simp (disch := omega) only [SS]
    repeat' apply And.intro
    all_goals first | exact True.intro | with_reducible rfl | omega | (intros; first | exact True.intro | with_reducible rfl | omega | (simp_all; done)) | (simp_all; done) | rfl

theorem fw2_p0 (n M : Nat) (T : Ix → List UInt8) (m w : Int) (i : Nat) :
    isMore (evTill Tryd.prog [] 300 (behind Tryd.f71 0) 900 71 (headOf Tryd.f71 0) (envAt Tryd.f71.ntmps ([(2, vN w), (13, vL 61 1 n), (14, vN n), (15, vN (i : Nat))])) ([⟨61, false, none, 1, .ta M (.vs T)⟩] ++ ([])) ⟨[.s true, .s true, .s true, .s true, .s false], 110⟩) (moreP (headOf Tryd.f71 0) ([]) Tryd.f71.ntmps ([(2, vN w), (13, vL 61 1 n), (14, vN n), (15, vN (i + 1 : Nat))]) ([]) 130) =
    (OkL [(decide ((↑i : Int) < (↑n : Int)), true), (decide ((0 : Int) ≤ (↑i : Int) ∧ (↑i : Int) < (↑n : Int)), true), (((0 : Nat) + (↑i : Int).toNat).blt M, true), (((0 : Nat) + (↑i : Int).toNat).blt M, true), (decide ((↑(T [(0 : Nat) + (↑i : Int).toNat]).length : Int) > w), false)] ∧ headOf Tryd.f71 (0 : Nat) = headOf Tryd.f71 (0 : Nat) ∧ (w = w ∧ ((0 : Nat) = (0 : Nat) ∧ n = n) ∧ (↑n : Int) = (↑n : Int) ∧ (↑(i + (1 : Nat)) : Int) = IntKind.i64.wrap ((↑i : Int) + (1 : Int))) ∧ True) := by kernel_rfl

set_option maxHeartbeats 4000000 in
theorem fw2 (n M : Nat) (T : Ix → List UInt8) (m w : Int) (i : Nat) (hi : i < n) (hM : n ≤ M) (hn : n ≤ 100000) (h : ((T [i]).length : Int) ≤ w)  (v : SV) (L' : HF) (next : RunsTo Tryd.prog 71 (headOf Tryd.f71 0) (envAt Tryd.f71.ntmps ([(2, vN w), (13, vL 61 1 n), (14, vN n), (15, vN (i + 1 : Nat))])) (Sx.look ([⟨61, false, none, 1, .ta M (.vs T)⟩] ++ ([]))) 80 (v) (L') 130) :
    RunsTo Tryd.prog 71 (headOf Tryd.f71 0) (envAt Tryd.f71.ntmps ([(2, vN w), (13, vL 61 1 n), (14, vN n), (15, vN (i : Nat))])) (Sx.look ([⟨61, false, none, 1, .ta M (.vs T)⟩] ++ ([]))) 80 (v) (L') 130 := by
  have hw : IntKind.i64.wrap ((i : Int) + 1) = ((i + 1 : Nat) : Int) := by rw [wr64 (by omega)]; rfl
  refine runs_more baseO (More.of (fw2_p0 n M T m w i) ⟨?oo, rfl, ?rr⟩) (by kernel_rfl) (by kernel_rfl) rfl (gtL (by decide)) (by decide) next
  case oo =>
    clear next
    refine (okc ?_ (okc ?_ (okc ?_ (okc ?_ (okc ?_ okn)))))
    all_goals ((try simp (disch := omega) only [SS, hw]); first | done | omega | assumption | (simp (disch := omega) only [SS, hw] at *; first | done | omega | assumption) | (simp_all; done))
  case rr =>
    clear next
    try simp (disch := omega) only [SS, hw]
    repeat' apply And.intro
    all_goals first | exact True.intro | with_reducible rfl | omega | (intros; first | exact True.intro | with_reducible rfl | omega | (simp_all; done)) | (simp_all; done) | rfl

theorem fw3_p0 (n M : Nat) (T : Ix → List UInt8) (m w : Int) (i : Nat) :
    isEnd (evTill Tryd.prog [] 300 (99) 900 71 (headOf Tryd.f71 0) (envAt Tryd.f71.ntmps ([(2, vN w), (13, vL 61 1 n), (14, vN n), (15, vN (i : Nat))])) ([⟨61, false, none, 1, .ta M (.vs T)⟩] ++ ([])) ⟨[.s true, .s true, .s true, .s true, .s true], 110⟩) (endP ([]) (vB false) ([]) 130) =
    (OkL [(decide ((↑i : Int) < (↑n : Int)), true), (decide ((0 : Int) ≤ (↑i : Int) ∧ (↑i : Int) < (↑n : Int)), true), (((0 : Nat) + (↑i : Int).toNat).blt M, true), (((0 : Nat) + (↑i : Int).toNat).blt M, true), (decide ((↑(T [(0 : Nat) + (↑i : Int).toNat]).length : Int) > w), true)] ∧ false = false ∧ True) := by kernel_rfl

set_option maxHeartbeats 4000000 in
theorem fw3 (n M : Nat) (T : Ix → List UInt8) (m w : Int) (i : Nat) (hi : i < n) (hM : n ≤ M) (hn : n ≤ 100000) (h : ¬ (((T [i]).length : Int) ≤ w))  :
    RunsTo Tryd.prog 71 (headOf Tryd.f71 0) (envAt Tryd.f71.ntmps ([(2, vN w), (13, vL 61 1 n), (14, vN n), (15, vN (i : Nat))])) (Sx.look ([⟨61, false, none, 1, .ta M (.vs T)⟩] ++ ([]))) 80 (vB false) (Sx.look ([])) 130 := by
  have hw : IntKind.i64.wrap ((i : Int) + 1) = ((i + 1 : Nat) : Int) := by rw [wr64 (by omega)]; rfl
  refine runs_last baseO (Sx.Ends.of (fw3_p0 n M T m w i) ⟨?oo, ?rr⟩) (by kernel_rfl) rfl (gtL (by decide)) (by decide)
  case oo =>
    refine (okc ?_ (okc ?_ (okc ?_ (okc ?_ (okc ?_ okn)))))
    all_goals ((try simp (disch := omega) only [SS, hw]); first | done | omega | assumption | (simp (disch := omega) only [SS, hw] at *; first | done | omega | assumption) | (simp_all; done))
  case rr =>
    try simp (disch := omega) only [SS, hw]
    repeat' apply And.intro
    all_goals first | exact True.intro | with_reducible rfl | omega | (intros; first | exact True.intro | with_reducible rfl | omega | (simp_all; done)) | (simp_all; done) | rfl

theorem fw4_p0 (n M : Nat) (T : Ix → List UInt8) (m w : Int) (i : Nat) :
    isEnd (evTill Tryd.prog [] 300 (99) 900 71 (headOf Tryd.f71 0) (envAt Tryd.f71.ntmps ([(2, vN w), (13, vL 61 1 n), (14, vN n), (15, vN (i : Nat))])) ([⟨61, false, none, 1, .ta M (.vs T)⟩] ++ ([])) ⟨[.s false], 110⟩) (endP ([]) (YES) ([]) 130) =
    (OkL [(decide ((↑i : Int) < (↑n : Int)), false)] ∧ true = true ∧ True) := by kernel_rfl

set_option maxHeartbeats 4000000 in
theorem fw4 (n M : Nat) (T : Ix → List UInt8) (m w : Int) (i : Nat) (hi : i = n)  :
    RunsTo Tryd.prog 71 (headOf Tryd.f71 0) (envAt Tryd.f71.ntmps ([(2, vN w), (13, vL 61 1 n), (14, vN n), (15, vN (i : Nat))])) (Sx.look ([⟨61, false, none, 1, .ta M (.vs T)⟩] ++ ([]))) 80 (YES) (Sx.look ([])) 130 := by
  refine runs_last baseO (Sx.Ends.of (fw4_p0 n M T m w i) ⟨?oo, ?rr⟩) (by kernel_rfl) rfl (gtL (by decide)) (by decide)
  case oo =>
    refine (okc ?_ okn)
    all_goals ((try simp (disch := omega) only [SS]); first | done | omega | assumption | (simp (disch := omega) only [SS] at *; first | done | omega | assumption) | (simp_all; done))
  case rr =>
    try simp (disch := omega) only [SS]
    repeat' apply And.intro
    all_goals first | exact True.intro | with_reducible rfl | omega | (intros; first | exact True.intro | with_reducible rfl | omega | (simp_all; done)) | (simp_all; done) | rfl

theorem fwT (n M : Nat) (T : Ix → List UInt8) (m w : Int) (hM : n ≤ M) (hm : m ≤ 100000) : RunsTo Tryd.prog 71 [.code (bodyOf Tryd.f71)] (envOf [vL 61 1 n, vN m, vN w] Tryd.f71.ntmps) (Sx.look ([⟨61, false, none, 1, .ta M (.vs T)⟩] ++ ([]))) 80 (vB (fewB n T m w)) (Sx.look []) 130 := by
  unfold fewB
  by_cases h : (n : Int) ≤ m
  · have hn : n ≤ 100000 := by omega
    refine fw1 n M T m w h _ _ ?_
    rw [decide_eq_true h, Bool.true_and]
    refine all_loop (R := fun i b => RunsTo Tryd.prog 71 (headOf Tryd.f71 0) (envAt Tryd.f71.ntmps ([(2, vN w), (13, vL 61 1 n), (14, vN n), (15, vN (i : Nat))])) (Sx.look ([⟨61, false, none, 1, .ta M (.vs T)⟩] ++ ([]))) 80 (vB b) (Sx.look []) 130) (fun i hi hk b q => fw2 n M T m w i hi hM hn (of_decide_eq_true hk) _ _ q) (fun i hi hk => fw3 n M T m w i hi hM hn (of_decide_eq_false hk)) (fw4 n M T m w n rfl)
  · rw [decide_eq_false h, Bool.false_and]; exact fw0 n M T m w h
def fwP : PC := { args := [.v (.vm 61 1 0), .v (.vi .i64 1), .v (.vi .i64 2)], heap := [⟨61, false, 1, .ta 3 (.vs 4)⟩], gs := [], G := 23, tp := 213, n := 80, n' := 130, cond := fun e => decide (eN e 0 ≤ eN e 3) && decide (eI e 1 [] ≤ 100000), v := fun e => vB (fewB (eN e 0) (eS e 4) (eI e 1 []) (eI e 2 [])), post := fun e => [] }
theorem fwP_pc : PC.Runs Tryd.prog 71 Tryd.f71 (bodyOf Tryd.f71) fwP := ⟨Tryd.func71, by kernel_rfl, (fun g hg => by first | (cases hg; done) | (revert g; show ∀ g ∈ ([] : List Nat), g < 23; decide)), fun e H hc => by
  have hc : (decide (eN e 0 ≤ eN e 3) && decide (eI e 1 [] ≤ 100000)) = true := hc
  try simp only [Bool.and_eq_true, decide_eq_true_eq, Nat.beq_eq] at hc
  exact fwT (eN e 0) (eN e 3) (eS e 4) (eI e 1 []) (eI e 2 []) hc.1 hc.2⟩
theorem se0_p0 (n m M M2 : Nat) (T U : Ix → List UInt8) :
    isEnd (evTill Tryd.prog [] 300 (99) 900 109 [.code (bodyOf Tryd.f109)] (envOf [vL 61 1 n, vL 62 1 m] Tryd.f109.ntmps) (([⟨61, false, none, 1, .ta M (.vs T)⟩] ++ [⟨62, false, none, 1, .ta M2 (.vs U)⟩]) ++ ([])) ⟨[.s true], 80⟩) (endP ([]) (vB false) ([]) 130) =
    (OkL [((↑n : Int) != (↑m : Int), true)] ∧ false = false ∧ True) := by kernel_rfl

set_option maxHeartbeats 4000000 in
theorem se0 (n m M M2 : Nat) (T U : Ix → List UInt8) (h : n ≠ m)  :
    RunsTo Tryd.prog 109 [.code (bodyOf Tryd.f109)] (envOf [vL 61 1 n, vL 62 1 m] Tryd.f109.ntmps) (Sx.look (([⟨61, false, none, 1, .ta M (.vs T)⟩] ++ [⟨62, false, none, 1, .ta M2 (.vs U)⟩]) ++ ([]))) 80 (vB false) (Sx.look ([])) 130 := by
  refine runs_last baseO (Sx.Ends.of (se0_p0 n m M M2 T U) ⟨?oo, ?rr⟩) (by kernel_rfl) rfl (gtL (by decide)) (by decide)
  case oo =>
    refine (okc ?_ okn)
    all_goals ((try simp (disch := omega) only [SS]); first | done | omega | assumption | (simp (disch := omega) only [SS] at *; first | done | omega | assumption) | (simp_all; done))
  case rr =>
    try simp (disch := omega) only [SS]
    repeat' apply And.intro
    all_goals first | exact True.intro | with_reducible rfl | omega | (intros; first | exact True.intro | with_reducible rfl | omega | (simp_all; done)) | (simp_all; done) | rfl

theorem se1_p0 (n m M M2 : Nat) (T U : Ix → List UInt8) :
    isMore (evTill Tryd.prog [] 300 (behind Tryd.f109 0) 900 109 [.code (bodyOf Tryd.f109)] (envOf [vL 61 1 n, vL 62 1 m] Tryd.f109.ntmps) (([⟨61, false, none, 1, .ta M (.vs T)⟩] ++ [⟨62, false, none, 1, .ta M2 (.vs U)⟩]) ++ ([])) ⟨[.s false], 80⟩) (moreP (headOf Tryd.f109 0) ([]) Tryd.f109.ntmps ([(0, vL 61 1 n), (1, vL 62 1 m), (12, vN n), (13, vN (0 : Nat))]) ([]) 130) =
    (OkL [((↑n : Int) != (↑m : Int), false)] ∧ headOf Tryd.f109 (0 : Nat) = headOf Tryd.f109 (0 : Nat) ∧ (((0 : Nat) = (0 : Nat) ∧ n = n) ∧ ((0 : Nat) = (0 : Nat) ∧ m = m) ∧ (↑n : Int) = (↑n : Int) ∧ (↑(0 : Nat) : Int) = (0 : Int)) ∧ True) := by kernel_rfl

set_option maxHeartbeats 4000000 in
theorem se1 (n m M M2 : Nat) (T U : Ix → List UInt8) (e : n = m)  (v : SV) (L' : HF) (next : RunsTo Tryd.prog 109 (headOf Tryd.f109 0) (envAt Tryd.f109.ntmps ([(0, vL 61 1 n), (1, vL 62 1 m), (12, vN n), (13, vN (0 : Nat))])) (Sx.look (([⟨61, false, none, 1, .ta M (.vs T)⟩] ++ [⟨62, false, none, 1, .ta M2 (.vs U)⟩]) ++ ([]))) 80 (v) (L') 130) :
    RunsTo Tryd.prog 109 [.code (bodyOf Tryd.f109)] (envOf [vL 61 1 n, vL 62 1 m] Tryd.f109.ntmps) (Sx.look (([⟨61, false, none, 1, .ta M (.vs T)⟩] ++ [⟨62, false, none, 1, .ta M2 (.vs U)⟩]) ++ ([]))) 80 (v) (L') 130 := by
  refine runs_more baseO (More.of (se1_p0 n m M M2 T U) ⟨?oo, rfl, ?rr⟩) (by kernel_rfl) (by kernel_rfl) rfl (gtL (by decide)) (by decide) next
  case oo =>
    clear next
    refine (okc ?_ okn)
    all_goals ((try simp (disch := omega) only [SS]); first | done | omega | assumption | (simp (disch := omega) only [SS] at *; first | done | omega | assumption) | (simp_all; done))
  case rr =>
    clear next
    try simp (disch := omega) only [SS]
    repeat' apply And.intro
    all_goals first | exact True.intro | with_reducible rfl | omega | (intros; first | exact True.intro | with_reducible rfl | omega | (simp_all; done)) | (simp_all; done) | rfl

theorem se2_p0 (n m M M2 : Nat) (T U : Ix → List UInt8) (i : Nat) :
    isMore (evTill Tryd.prog [] 300 (behind Tryd.f109 0) 900 109 (headOf Tryd.f109 0) (envAt Tryd.f109.ntmps ([(0, vL 61 1 n), (1, vL 62 1 m), (12, vN n), (13, vN (i : Nat))])) (([⟨61, false, none, 1, .ta M (.vs T)⟩] ++ [⟨62, false, none, 1, .ta M2 (.vs U)⟩]) ++ ([])) ⟨[.s true, .s true, .s true, .s true, .s true, .s true, .s true, .s false], 110⟩) (moreP (headOf Tryd.f109 0) ([]) Tryd.f109.ntmps ([(0, vL 61 1 n), (1, vL 62 1 m), (12, vN n), (13, vN (i + 1 : Nat))]) ([]) 130) =
    (OkL [(decide ((↑i : Int) < (↑n : Int)), true), (decide ((0 : Int) ≤ (↑i : Int) ∧ (↑i : Int) < (↑n : Int)), true), (((0 : Nat) + (↑i : Int).toNat).blt M, true), (((0 : Nat) + (↑i : Int).toNat).blt M, true), (decide ((0 : Int) ≤ (↑i : Int) ∧ (↑i : Int) < (↑m : Int)), true), (((0 : Nat) + (↑i : Int).toNat).blt M2, true), (((0 : Nat) + (↑i : Int).toNat).blt M2, true), (!T [(0 : Nat) + (↑i : Int).toNat] == U [(0 : Nat) + (↑i : Int).toNat], false)] ∧ headOf Tryd.f109 (0 : Nat) = headOf Tryd.f109 (0 : Nat) ∧ (((0 : Nat) = (0 : Nat) ∧ n = n) ∧ ((0 : Nat) = (0 : Nat) ∧ m = m) ∧ (↑n : Int) = (↑n : Int) ∧ (↑(i + (1 : Nat)) : Int) = IntKind.i64.wrap ((↑i : Int) + (1 : Int))) ∧ True) := by kernel_rfl

set_option maxHeartbeats 4000000 in
theorem se2 (n m M M2 : Nat) (T U : Ix → List UInt8) (i : Nat) (hi : i < n) (e : n = m) (hM : n ≤ M) (hM2 : m ≤ M2) (hn : n ≤ 100000) (h : T [i] = U [i])  (v : SV) (L' : HF) (next : RunsTo Tryd.prog 109 (headOf Tryd.f109 0) (envAt Tryd.f109.ntmps ([(0, vL 61 1 n), (1, vL 62 1 m), (12, vN n), (13, vN (i + 1 : Nat))])) (Sx.look (([⟨61, false, none, 1, .ta M (.vs T)⟩] ++ [⟨62, false, none, 1, .ta M2 (.vs U)⟩]) ++ ([]))) 80 (v) (L') 130) :
    RunsTo Tryd.prog 109 (headOf Tryd.f109 0) (envAt Tryd.f109.ntmps ([(0, vL 61 1 n), (1, vL 62 1 m), (12, vN n), (13, vN (i : Nat))])) (Sx.look (([⟨61, false, none, 1, .ta M (.vs T)⟩] ++ [⟨62, false, none, 1, .ta M2 (.vs U)⟩]) ++ ([]))) 80 (v) (L') 130 := by
  have hw : IntKind.i64.wrap ((i : Int) + 1) = ((i + 1 : Nat) : Int) := by rw [wr64 (by omega)]; rfl
  refine runs_more baseO (More.of (se2_p0 n m M M2 T U i) ⟨?oo, rfl, ?rr⟩) (by kernel_rfl) (by kernel_rfl) rfl (gtL (by decide)) (by decide) next
  case oo =>
    clear next
    refine (okc ?_ (okc ?_ (okc ?_ (okc ?_ (okc ?_ (okc ?_ (okc ?_ (okc ?_ okn))))))))
    all_goals ((try simp (disch := omega) only [SS, hw, h]); first | done | omega | assumption | (simp (disch := omega) only [SS, hw, h] at *; first | done | omega | assumption) | (simp_all; done))
  case rr =>
    clear next
    try simp (disch := omega) only [SS, hw, h]
    repeat' apply And.intro
    all_goals first | exact True.intro | with_reducible rfl | omega | (intros; first | exact True.intro | with_reducible rfl | omega | (simp_all; done)) | (simp_all; done) | rfl

theorem se3_p0 (n m M M2 : Nat) (T U : Ix → List UInt8) (i : Nat) :
    isEnd (evTill Tryd.prog [] 300 (99) 900 109 (headOf Tryd.f109 0) (envAt Tryd.f109.ntmps ([(0, vL 61 1 n), (1, vL 62 1 m), (12, vN n), (13, vN (i : Nat))])) (([⟨61, false, none, 1, .ta M (.vs T)⟩] ++ [⟨62, false, none, 1, .ta M2 (.vs U)⟩]) ++ ([])) ⟨[.s true, .s true, .s true, .s true, .s true, .s true, .s true, .s true], 110⟩) (endP ([]) (vB false) ([]) 130) =
    (OkL [(decide ((↑i : Int) < (↑n : Int)), true), (decide ((0 : Int) ≤ (↑i : Int) ∧ (↑i : Int) < (↑n : Int)), true), (((0 : Nat) + (↑i : Int).toNat).blt M, true), (((0 : Nat) + (↑i : Int).toNat).blt M, true), (decide ((0 : Int) ≤ (↑i : Int) ∧ (↑i : Int) < (↑m : Int)), true), (((0 : Nat) + (↑i : Int).toNat).blt M2, true), (((0 : Nat) + (↑i : Int).toNat).blt M2, true), (!T [(0 : Nat) + (↑i : Int).toNat] == U [(0 : Nat) + (↑i : Int).toNat], true)] ∧ false = false ∧ True) := by kernel_rfl

set_option maxHeartbeats 4000000 in
theorem se3 (n m M M2 : Nat) (T U : Ix → List UInt8) (i : Nat) (hi : i < n) (e : n = m) (hM : n ≤ M) (hM2 : m ≤ M2) (hn : n ≤ 100000) (h : T [i] ≠ U [i])  :
    RunsTo Tryd.prog 109 (headOf Tryd.f109 0) (envAt Tryd.f109.ntmps ([(0, vL 61 1 n), (1, vL 62 1 m), (12, vN n), (13, vN (i : Nat))])) (Sx.look (([⟨61, false, none, 1, .ta M (.vs T)⟩] ++ [⟨62, false, none, 1, .ta M2 (.vs U)⟩]) ++ ([]))) 80 (vB false) (Sx.look ([])) 130 := by
  have hw : IntKind.i64.wrap ((i : Int) + 1) = ((i + 1 : Nat) : Int) := by rw [wr64 (by omega)]; rfl
  refine runs_last baseO (Sx.Ends.of (se3_p0 n m M M2 T U i) ⟨?oo, ?rr⟩) (by kernel_rfl) rfl (gtL (by decide)) (by decide)
  case oo =>
    refine (okc ?_ (okc ?_ (okc ?_ (okc ?_ (okc ?_ (okc ?_ (okc ?_ (okc ?_ okn))))))))
    all_goals ((try simp (disch := omega) only [SS, hw, h]); first | done | omega | assumption | (simp (disch := omega) only [SS, hw, h] at *; first | done | omega | assumption) | (simp_all; done))
  case rr =>
    try simp (disch := omega) only [SS, hw, h]
    repeat' apply And.intro
    all_goals first | exact True.intro | with_reducible rfl | omega | (intros; first | exact True.intro | with_reducible rfl | omega | (simp_all; done)) | (simp_all; done) | rfl

theorem se4_p0 (n m M M2 : Nat) (T U : Ix → List UInt8) (i : Nat) :
    isEnd (evTill Tryd.prog [] 300 (99) 900 109 (headOf Tryd.f109 0) (envAt Tryd.f109.ntmps ([(0, vL 61 1 n), (1, vL 62 1 m), (12, vN n), (13, vN (i : Nat))])) (([⟨61, false, none, 1, .ta M (.vs T)⟩] ++ [⟨62, false, none, 1, .ta M2 (.vs U)⟩]) ++ ([])) ⟨[.s false], 110⟩) (endP ([]) (YES) ([]) 130) =
    (OkL [(decide ((↑i : Int) < (↑n : Int)), false)] ∧ true = true ∧ True) := by kernel_rfl

set_option maxHeartbeats 4000000 in
theorem se4 (n m M M2 : Nat) (T U : Ix → List UInt8) (i : Nat) (hi : i = n)  :
    RunsTo Tryd.prog 109 (headOf Tryd.f109 0) (envAt Tryd.f109.ntmps ([(0, vL 61 1 n), (1, vL 62 1 m), (12, vN n), (13, vN (i : Nat))])) (Sx.look (([⟨61, false, none, 1, .ta M (.vs T)⟩] ++ [⟨62, false, none, 1, .ta M2 (.vs U)⟩]) ++ ([]))) 80 (YES) (Sx.look ([])) 130 := by
  refine runs_last baseO (Sx.Ends.of (se4_p0 n m M M2 T U i) ⟨?oo, ?rr⟩) (by kernel_rfl) rfl (gtL (by decide)) (by decide)
  case oo =>
    refine (okc ?_ okn)
    all_goals ((try simp (disch := omega) only [SS]); first | done | omega | assumption | (simp (disch := omega) only [SS] at *; first | done | omega | assumption) | (simp_all; done))
  case rr =>
    try simp (disch := omega) only [SS]
    repeat' apply And.intro
    all_goals first | exact True.intro | with_reducible rfl | omega | (intros; first | exact True.intro | with_reducible rfl | omega | (simp_all; done)) | (simp_all; done) | rfl

theorem seT (n m M M2 : Nat) (T U : Ix → List UInt8) (hM : n ≤ M) (hM2 : m ≤ M2) (hn : n ≤ 100000) : RunsTo Tryd.prog 109 [.code (bodyOf Tryd.f109)] (envOf [vL 61 1 n, vL 62 1 m] Tryd.f109.ntmps) (Sx.look (([⟨61, false, none, 1, .ta M (.vs T)⟩] ++ [⟨62, false, none, 1, .ta M2 (.vs U)⟩]) ++ ([]))) 80 (vB ((n == m) && txRw n T U)) (Sx.look []) 130 := by
  by_cases h : n = m
  · refine se1 n m M M2 T U h _ _ ?_
    rw [show (n == m) = true from beq_iff_eq.2 h, Bool.true_and]
    exact all_loop (R := fun i b => RunsTo Tryd.prog 109 (headOf Tryd.f109 0) (envAt Tryd.f109.ntmps ([(0, vL 61 1 n), (1, vL 62 1 m), (12, vN n), (13, vN (i : Nat))])) (Sx.look (([⟨61, false, none, 1, .ta M (.vs T)⟩] ++ [⟨62, false, none, 1, .ta M2 (.vs U)⟩]) ++ ([]))) 80 (vB b) (Sx.look []) 130) (fun i hi hk b q => se2 n m M M2 T U i hi h hM hM2 hn (of_decide_eq_true hk) _ _ q) (fun i hi hk => se3 n m M M2 T U i hi h hM hM2 hn (of_decide_eq_false hk)) (se4 n m M M2 T U n rfl)
  · rw [show (n == m) = false from beq_eq_false_iff_ne.2 h, Bool.false_and]; exact se0 n m M M2 T U h
def seP : PC := { args := [.v (.vl 61 1 0), .v (.vl 62 1 1)], heap := [⟨61, false, 1, .ta 5 (.vs 6)⟩, ⟨62, false, 1, .ta 7 (.vs 8)⟩], gs := [], G := 23, tp := 213, n := 80, n' := 130, cond := fun e => decide (eN e 0 ≤ eN e 5) && (decide (eN e 1 ≤ eN e 7) && decide (eN e 0 ≤ 100000)), v := fun e => vB ((eN e 0 == eN e 1) && txRw (eN e 0) (eS e 6) (eS e 8)), post := fun e => [] }
theorem seP_pc : PC.Runs Tryd.prog 109 Tryd.f109 (bodyOf Tryd.f109) seP := ⟨Tryd.func109, by kernel_rfl, (fun g hg => by first | (cases hg; done) | (revert g; show ∀ g ∈ ([] : List Nat), g < 23; decide)), fun e H hc => by
  have hc : (decide (eN e 0 ≤ eN e 5) && (decide (eN e 1 ≤ eN e 7) && decide (eN e 0 ≤ 100000))) = true := hc
  try simp only [Bool.and_eq_true, decide_eq_true_eq, Nat.beq_eq] at hc
  exact seT (eN e 0) (eN e 1) (eN e 5) (eN e 7) (eS e 6) (eS e 8) hc.1 hc.2.1 hc.2.2⟩
end Go.Proofs.YtaleenklamognaaDoor

set_option linter.unusedSimpArgs false
set_option linter.unusedVariables false
set_option maxRecDepth 100000
namespace Go.Proofs.YtaleenklamognaaDoor
open Go.Sx

open WordR
def hasB (n : Nat) (F : Ix → Int) (x : Int) : Bool := !((List.range n).all fun q => !decide (F [q] = x))
def idxV (F : Ix → Int) (x : Int) : Nat → Nat → Int
  | 0, _ => -1
  | k + 1, i => if F [i] = x then (i : Int) else idxV F x k (i + 1)
theorem xn_nil {a b : Nat} (h : xnum a = xnum b) : (Nat.ble 16 a == Nat.ble 16 b) = true := by
  unfold xnum at h
  rw [beq_iff_eq, Bool.eq_iff_iff, Nat.ble_eq, Nat.ble_eq]
  split at h <;> split at h <;> omega
theorem idxV_has (F : Ix → Int) (x : Int) : ∀ k i, (0 ≤ idxV F x k i ↔ ∃ q, i ≤ q ∧ q < i + k ∧ F [q] = x)
  | 0, i => by simp only [idxV]; constructor
               · intro h; omega
               · rintro ⟨q, h1, h2, _⟩; omega
  | k + 1, i => by
    rw [idxV]
    split
    · rename_i h; exact ⟨fun _ => ⟨i, by omega, by omega, h⟩, fun _ => by omega⟩
    · rename_i h
      rw [idxV_has F x k (i + 1)]
      constructor
      · rintro ⟨q, h1, h2, h3⟩; exact ⟨q, by omega, by omega, h3⟩
      · rintro ⟨q, h1, h2, h3⟩
        refine ⟨q, ?_, by omega, h3⟩
        rcases Nat.lt_or_ge i q with g | g
        · omega
        · have : q = i := by omega
          subst this; exact absurd h3 h
theorem has_iff {n : Nat} {F : Ix → Int} {x : Int} : hasB n F x = true ↔ ∃ q, q < n ∧ F [q] = x := by
  unfold hasB
  rw [Bool.not_eq_true', List.all_eq_false]
  constructor
  · rintro ⟨q, h1, h2⟩; exact ⟨q, List.mem_range.1 h1, by simpa using h2⟩
  · rintro ⟨q, h1, h2⟩; exact ⟨q, List.mem_range.2 h1, by simpa using h2⟩
theorem idx_has (n : Nat) (F : Ix → Int) (x : Int) : decide (0 ≤ idxV F x n 0) = hasB n F x := by
  rw [Bool.eq_iff_iff, decide_eq_true_eq, idxV_has, has_iff]
  exact ⟨fun ⟨q, _, h2, h3⟩ => ⟨q, by omega, h3⟩, fun ⟨q, h2, h3⟩ => ⟨q, by omega, by omega, h3⟩⟩
theorem zix1_p0 (n M : Nat) (F : Ix → Int) (x : Int) :
    isMore (evTill Tryd.prog [] 300 (behind Tryd.f108 0) 900 108 [.code (bodyOf Tryd.f108)] (envOf [vL 61 1 n, vN x] Tryd.f108.ntmps) ([⟨61, false, none, 1, .ta M (.vi .i64 F)⟩] ++ ([])) ⟨[], 80⟩) (moreP (headOf Tryd.f108 0) ([]) Tryd.f108.ntmps ([(0, vL 61 1 n), (1, vN x), (7, vN n), (8, vN (0 : Nat))]) ([]) 130) =
    (OkL [] ∧ headOf Tryd.f108 (0 : Nat) = headOf Tryd.f108 (0 : Nat) ∧ (((0 : Nat) = (0 : Nat) ∧ n = n) ∧ x = x ∧ (↑n : Int) = (↑n : Int) ∧ (↑(0 : Nat) : Int) = (0 : Int)) ∧ True) := by kernel_rfl

set_option maxHeartbeats 4000000 in
theorem zix1 (n M : Nat) (F : Ix → Int) (x : Int)  (v : SV) (L' : HF) (next : RunsTo Tryd.prog 108 (headOf Tryd.f108 0) (envAt Tryd.f108.ntmps ([(0, vL 61 1 n), (1, vN x), (7, vN n), (8, vN (0 : Nat))])) (Sx.look ([⟨61, false, none, 1, .ta M (.vi .i64 F)⟩] ++ ([]))) 80 (v) (L') 130) :
    RunsTo Tryd.prog 108 [.code (bodyOf Tryd.f108)] (envOf [vL 61 1 n, vN x] Tryd.f108.ntmps) (Sx.look ([⟨61, false, none, 1, .ta M (.vi .i64 F)⟩] ++ ([]))) 80 (v) (L') 130 := by
  refine runs_more baseO (More.of (zix1_p0 n M F x) ⟨?oo, rfl, ?rr⟩) (by kernel_rfl) (by kernel_rfl) rfl (gtL (by decide)) (by decide) next
  case oo =>
    clear next
    refine okn
    all_goals ((try simp (disch := omega) only [SS]); first | done | omega | assumption | (simp (disch := omega) only [SS] at *; first | done | omega | assumption) | (simp_all; done))
  case rr =>
    clear next
    try simp (disch := omega) only [SS]
    repeat' apply And.intro
    all_goals first | exact True.intro | with_reducible rfl | omega | (intros; first | exact True.intro | with_reducible rfl | omega | (simp_all; done)) | (simp_all; done) | rfl

theorem zix2_p0 (n M : Nat) (F : Ix → Int) (x : Int) (i : Nat) :
    isMore (evTill Tryd.prog [] 300 (behind Tryd.f108 0) 900 108 (headOf Tryd.f108 0) (envAt Tryd.f108.ntmps ([(0, vL 61 1 n), (1, vN x), (7, vN n), (8, vN (i : Nat))])) ([⟨61, false, none, 1, .ta M (.vi .i64 F)⟩] ++ ([])) ⟨[.s true, .s true, .s true, .s true, .s false], 110⟩) (moreP (headOf Tryd.f108 0) ([]) Tryd.f108.ntmps ([(0, vL 61 1 n), (1, vN x), (7, vN n), (8, vN (i + 1 : Nat))]) ([]) 130) =
    (OkL [(decide ((↑i : Int) < (↑n : Int)), true), (decide ((0 : Int) ≤ (↑i : Int) ∧ (↑i : Int) < (↑n : Int)), true), (((0 : Nat) + (↑i : Int).toNat).blt M, true), (((0 : Nat) + (↑i : Int).toNat).blt M, true), (x == F [(0 : Nat) + (↑i : Int).toNat], false)] ∧ headOf Tryd.f108 (0 : Nat) = headOf Tryd.f108 (0 : Nat) ∧ (((0 : Nat) = (0 : Nat) ∧ n = n) ∧ x = x ∧ (↑n : Int) = (↑n : Int) ∧ (↑(i + (1 : Nat)) : Int) = IntKind.i64.wrap ((↑i : Int) + (1 : Int))) ∧ True) := by kernel_rfl

set_option maxHeartbeats 4000000 in
theorem zix2 (n M : Nat) (F : Ix → Int) (x : Int) (i : Nat) (hi : i < n) (hM : n ≤ M) (hn : n ≤ 100000) (h : F [i] ≠ x)  (v : SV) (L' : HF) (next : RunsTo Tryd.prog 108 (headOf Tryd.f108 0) (envAt Tryd.f108.ntmps ([(0, vL 61 1 n), (1, vN x), (7, vN n), (8, vN (i + 1 : Nat))])) (Sx.look ([⟨61, false, none, 1, .ta M (.vi .i64 F)⟩] ++ ([]))) 80 (v) (L') 130) :
    RunsTo Tryd.prog 108 (headOf Tryd.f108 0) (envAt Tryd.f108.ntmps ([(0, vL 61 1 n), (1, vN x), (7, vN n), (8, vN (i : Nat))])) (Sx.look ([⟨61, false, none, 1, .ta M (.vi .i64 F)⟩] ++ ([]))) 80 (v) (L') 130 := by
  have hw : IntKind.i64.wrap ((i : Int) + 1) = ((i + 1 : Nat) : Int) := by rw [wr64 (by omega)]; rfl
  refine runs_more baseO (More.of (zix2_p0 n M F x i) ⟨?oo, rfl, ?rr⟩) (by kernel_rfl) (by kernel_rfl) rfl (gtL (by decide)) (by decide) next
  case oo =>
    clear next
    refine (okc ?_ (okc ?_ (okc ?_ (okc ?_ (okc ?_ okn)))))
    all_goals ((try simp (disch := omega) only [SS, hw, h]); first | done | omega | assumption | (simp (disch := omega) only [SS, hw, h] at *; first | done | omega | assumption) | (simp_all; done))
  case rr =>
    clear next
    try simp (disch := omega) only [SS, hw, h]
    repeat' apply And.intro
    all_goals first | exact True.intro | with_reducible rfl | omega | (intros; first | exact True.intro | with_reducible rfl | omega | (simp_all; done)) | (simp_all; done) | rfl

theorem zix3_p0 (n M : Nat) (F : Ix → Int) (x : Int) (i : Nat) :
    isEnd (evTill Tryd.prog [] 300 (99) 900 108 (headOf Tryd.f108 0) (envAt Tryd.f108.ntmps ([(0, vL 61 1 n), (1, vN x), (7, vN n), (8, vN (i : Nat))])) ([⟨61, false, none, 1, .ta M (.vi .i64 F)⟩] ++ ([])) ⟨[.s true, .s true, .s true, .s true, .s true], 110⟩) (endP ([]) (vN (i : Nat)) ([]) 130) =
    (OkL [(decide ((↑i : Int) < (↑n : Int)), true), (decide ((0 : Int) ≤ (↑i : Int) ∧ (↑i : Int) < (↑n : Int)), true), (((0 : Nat) + (↑i : Int).toNat).blt M, true), (((0 : Nat) + (↑i : Int).toNat).blt M, true), (x == F [(0 : Nat) + (↑i : Int).toNat], true)] ∧ (↑i : Int) = (↑i : Int) ∧ True) := by kernel_rfl

set_option maxHeartbeats 4000000 in
theorem zix3 (n M : Nat) (F : Ix → Int) (x : Int) (i : Nat) (hi : i < n) (hM : n ≤ M) (hn : n ≤ 100000) (h : F [i] = x)  :
    RunsTo Tryd.prog 108 (headOf Tryd.f108 0) (envAt Tryd.f108.ntmps ([(0, vL 61 1 n), (1, vN x), (7, vN n), (8, vN (i : Nat))])) (Sx.look ([⟨61, false, none, 1, .ta M (.vi .i64 F)⟩] ++ ([]))) 80 (vN (i : Nat)) (Sx.look ([])) 130 := by
  have hw : IntKind.i64.wrap ((i : Int) + 1) = ((i + 1 : Nat) : Int) := by rw [wr64 (by omega)]; rfl
  refine runs_last baseO (Sx.Ends.of (zix3_p0 n M F x i) ⟨?oo, ?rr⟩) (by kernel_rfl) rfl (gtL (by decide)) (by decide)
  case oo =>
    refine (okc ?_ (okc ?_ (okc ?_ (okc ?_ (okc ?_ okn)))))
    all_goals ((try simp (disch := omega) only [SS, hw, h]); first | done | omega | assumption | (simp (disch := omega) only [SS, hw, h] at *; first | done | omega | assumption) | (simp_all; done))
  case rr =>
    try simp (disch := omega) only [SS, hw, h]
    repeat' apply And.intro
    all_goals first | exact True.intro | with_reducible rfl | omega | (intros; first | exact True.intro | with_reducible rfl | omega | (simp_all; done)) | (simp_all; done) | rfl

theorem zix4_p0 (n M : Nat) (F : Ix → Int) (x : Int) (i : Nat) :
    isEnd (evTill Tryd.prog [] 300 (99) 900 108 (headOf Tryd.f108 0) (envAt Tryd.f108.ntmps ([(0, vL 61 1 n), (1, vN x), (7, vN n), (8, vN (i : Nat))])) ([⟨61, false, none, 1, .ta M (.vi .i64 F)⟩] ++ ([])) ⟨[.s false], 110⟩) (endP ([]) (vN (-1)) ([]) 130) =
    (OkL [(decide ((↑i : Int) < (↑n : Int)), false)] ∧ (-1 : Int) = (-1 : Int) ∧ True) := by kernel_rfl

set_option maxHeartbeats 4000000 in
theorem zix4 (n M : Nat) (F : Ix → Int) (x : Int) (i : Nat) (hi : i = n)  :
    RunsTo Tryd.prog 108 (headOf Tryd.f108 0) (envAt Tryd.f108.ntmps ([(0, vL 61 1 n), (1, vN x), (7, vN n), (8, vN (i : Nat))])) (Sx.look ([⟨61, false, none, 1, .ta M (.vi .i64 F)⟩] ++ ([]))) 80 (vN (-1)) (Sx.look ([])) 130 := by
  refine runs_last baseO (Sx.Ends.of (zix4_p0 n M F x i) ⟨?oo, ?rr⟩) (by kernel_rfl) rfl (gtL (by decide)) (by decide)
  case oo =>
    refine (okc ?_ okn)
    all_goals ((try simp (disch := omega) only [SS]); first | done | omega | assumption | (simp (disch := omega) only [SS] at *; first | done | omega | assumption) | (simp_all; done))
  case rr =>
    try simp (disch := omega) only [SS]
    repeat' apply And.intro
    all_goals first | exact True.intro | with_reducible rfl | omega | (intros; first | exact True.intro | with_reducible rfl | omega | (simp_all; done)) | (simp_all; done) | rfl

theorem zixT (n M : Nat) (F : Ix → Int) (x : Int) (hM : n ≤ M) (hn : n ≤ 100000) : RunsTo Tryd.prog 108 [.code (bodyOf Tryd.f108)] (envOf [vL 61 1 n, vN x] Tryd.f108.ntmps) (Sx.look ([⟨61, false, none, 1, .ta M (.vi .i64 F)⟩] ++ ([]))) 80 (vN (idxV F x n 0)) (Sx.look []) 130 := by
  refine zix1 n M F x _ _ ?_
  suffices q : ∀ (k i : Nat), i + k = n → RunsTo Tryd.prog 108 (headOf Tryd.f108 0) (envAt Tryd.f108.ntmps ([(0, vL 61 1 n), (1, vN x), (7, vN n), (8, vN (i : Nat))])) (Sx.look ([⟨61, false, none, 1, .ta M (.vi .i64 F)⟩] ++ ([]))) 80 (vN (idxV F x k i)) (Sx.look []) 130 from q n 0 (by omega)
  intro k
  induction k with
  | zero => intro i hi; exact zix4 n M F x i (by omega)
  | succ k ih =>
    intro i hi
    by_cases h : F [i] = x
    · rw [idxV, if_pos h]; exact zix3 n M F x i (by omega) hM hn h
    · rw [idxV, if_neg h]; exact zix2 n M F x i (by omega) hM hn h _ _ (ih (i + 1) (by omega))
def zixP : PC := { args := [.v (.vl 61 1 0), .v (.vi .i64 1)], heap := [⟨61, false, 1, .ta 2 (.vi .i64 3)⟩], gs := [], G := 23, tp := 213, n := 80, n' := 130, cond := fun e => decide (eN e 0 ≤ eN e 2) && decide (eN e 0 ≤ 100000), v := fun e => vN (idxV (eI e 3) (eI e 1 []) (eN e 0) 0), post := fun e => [] }
theorem zixP_pc : PC.Runs Tryd.prog 108 Tryd.f108 (bodyOf Tryd.f108) zixP := ⟨Tryd.func108, by kernel_rfl, (fun g hg => by first | (cases hg; done) | (revert g; show ∀ g ∈ ([] : List Nat), g < 23; decide)), fun e H hc => by
  have hc : (decide (eN e 0 ≤ eN e 2) && decide (eN e 0 ≤ 100000)) = true := hc
  try simp only [Bool.and_eq_true, decide_eq_true_eq, Nat.beq_eq] at hc
  exact zixT (eN e 0) (eN e 2) (eI e 3) (eI e 1 []) hc.1 hc.2⟩
def sumsCN : List (FuncId × Summ) := [(108, zixP.summ 46)]
theorem baseCN : Base0 Tryd.prog sumsCN := (baseO.cons Tryd.func108 (by kernel_rfl) (PC.summ_ok zixP_pc gtopG))
theorem zcnT_p0 (n M : Nat) (F : Ix → Int) (x : Int) :
    isEnd (evTill Tryd.prog sumsCN 300 (99) 900 73 [.code (bodyOf Tryd.f73)] (envOf [vL 61 1 n, vN x] Tryd.f73.ntmps) ([⟨61, false, none, 1, .ta M (.vi .i64 F)⟩] ++ ([])) ⟨[.s true], 80⟩) (endP ([]) (vB (hasB n F x)) ([]) 150) =
    (OkL [(decide (n ≤ M) && decide (n ≤ (100000 : Nat)), true)] ∧ hasB n F x = decide (idxV F x n (0 : Nat) ≥ (0 : Int)) ∧ True) := by kernel_rfl

set_option maxHeartbeats 4000000 in
theorem zcnT (n M : Nat) (F : Ix → Int) (x : Int) (hM : n ≤ M) (hn : n ≤ 100000)  :
    RunsTo Tryd.prog 73 [.code (bodyOf Tryd.f73)] (envOf [vL 61 1 n, vN x] Tryd.f73.ntmps) (Sx.look ([⟨61, false, none, 1, .ta M (.vi .i64 F)⟩] ++ ([]))) 80 (vB (hasB n F x)) (Sx.look ([])) 150 := by
  have hx := idx_has n F x
  refine runs_last baseCN (Sx.Ends.of (zcnT_p0 n M F x) ⟨?oo, ?rr⟩) (by kernel_rfl) rfl (gtL (by decide)) (by decide)
  case oo =>
    refine (okc ?_ okn)
    all_goals ((try simp (disch := omega) only [SS, hx]); first | done | omega | assumption | (simp (disch := omega) only [SS, hx] at *; first | done | omega | assumption) | (simp_all; done))
  case rr =>
    refine ⟨?_, trivial⟩
    exact hx.symm

def zcnP : PC := { args := [.v (.vl 61 1 0), .v (.vi .i64 1)], heap := [⟨61, false, 1, .ta 2 (.vi .i64 3)⟩], gs := [], G := 23, tp := 213, n := 80, n' := 150, cond := fun e => decide (eN e 0 ≤ eN e 2) && decide (eN e 0 ≤ 100000), v := fun e => vB (hasB (eN e 0) (eI e 3) (eI e 1 [])), post := fun e => [] }
theorem zcnP_pc : PC.Runs Tryd.prog 73 Tryd.f73 (bodyOf Tryd.f73) zcnP := ⟨Tryd.func73, by kernel_rfl, (fun g hg => by first | (cases hg; done) | (revert g; show ∀ g ∈ ([] : List Nat), g < 23; decide)), fun e H hc => by
  have hc : (decide (eN e 0 ≤ eN e 2) && decide (eN e 0 ≤ 100000)) = true := hc
  try simp only [Bool.and_eq_true, decide_eq_true_eq, Nat.beq_eq] at hc
  exact zcnT (eN e 0) (eN e 2) (eI e 3) (eI e 1 []) hc.1 hc.2⟩
def sumsSM : List (FuncId × Summ) := [(109, seP.summ 46), (110, xS)]
theorem baseSM : Base0 Tryd.prog sumsSM := ((baseO.cons Tryd.func110 (by kernel_rfl) xnb_ok).cons Tryd.func109 (by kernel_rfl) (PC.summ_ok seP_pc gtopG))
theorem zsm_p0 (H : List Ent) (r r' : RF) (M M2 : Nat) (T U : Ix → List UInt8) :
    isEnd (evTill Tryd.prog sumsSM 500 (99) 900 75 [.code (bodyOf Tryd.f75)] (envOf [.agg (enT 61 r.one), .agg (enT 62 r'.one)] Tryd.f75.ntmps) (((sentEnts 23 213 (textsIn 23 H errG)) ++ ([⟨61, false, none, 1, .ta M (.vs T)⟩] ++ [⟨62, false, none, 1, .ta M2 (.vs U)⟩])) ++ ([])) ⟨[.s false], 80⟩) (endP ([]) (vB (sameV r r' T U)) ([]) 300) =
    (OkL [(cs r.1 [] == cs r'.1 [], false)] ∧ sameV r r' T U = false ∧ True) := by kernel_rfl
theorem zsm_p1 (H : List Ent) (r r' : RF) (M M2 : Nat) (T U : Ix → List UInt8) :
    isEnd (evTill Tryd.prog sumsSM 500 (99) 900 75 [.code (bodyOf Tryd.f75)] (envOf [.agg (enT 61 r.one), .agg (enT 62 r'.one)] Tryd.f75.ntmps) (((sentEnts 23 213 (textsIn 23 H errG)) ++ ([⟨61, false, none, 1, .ta M (.vs T)⟩] ++ [⟨62, false, none, 1, .ta M2 (.vs U)⟩])) ++ ([])) ⟨[.s true, .s false], 80⟩) (endP ([]) (vB (sameV r r' T U)) ([]) 300) =
    (OkL [(cs r.1 [] == cs r'.1 [], true), (cs r.2 [] == cs r'.2 [], false)] ∧ sameV r r' T U = false ∧ True) := by kernel_rfl
theorem zsm_p2 (H : List Ent) (r r' : RF) (M M2 : Nat) (T U : Ix → List UInt8) :
    isEnd (evTill Tryd.prog sumsSM 500 (99) 900 75 [.code (bodyOf Tryd.f75)] (envOf [.agg (enT 61 r.one), .agg (enT 62 r'.one)] Tryd.f75.ntmps) (((sentEnts 23 213 (textsIn 23 H errG)) ++ ([⟨61, false, none, 1, .ta M (.vs T)⟩] ++ [⟨62, false, none, 1, .ta M2 (.vs U)⟩])) ++ ([])) ⟨[.s true, .s true, .s false], 80⟩) (endP ([]) (vB (sameV r r' T U)) ([]) 300) =
    (OkL [(cs r.1 [] == cs r'.1 [], true), (cs r.2 [] == cs r'.2 [], true), (cs r.3 [] == cs r'.3 [], false)] ∧ sameV r r' T U = false ∧ True) := by kernel_rfl
theorem zsm_p3 (H : List Ent) (r r' : RF) (M M2 : Nat) (T U : Ix → List UInt8) :
    isEnd (evTill Tryd.prog sumsSM 500 (99) 900 75 [.code (bodyOf Tryd.f75)] (envOf [.agg (enT 61 r.one), .agg (enT 62 r'.one)] Tryd.f75.ntmps) (((sentEnts 23 213 (textsIn 23 H errG)) ++ ([⟨61, false, none, 1, .ta M (.vs T)⟩] ++ [⟨62, false, none, 1, .ta M2 (.vs U)⟩])) ++ ([])) ⟨[.s true, .s true, .s true, .s false], 80⟩) (endP ([]) (vB (sameV r r' T U)) ([]) 300) =
    (OkL [(cs r.1 [] == cs r'.1 [], true), (cs r.2 [] == cs r'.2 [], true), (cs r.3 [] == cs r'.3 [], true), (cs r.4 [] == cs r'.4 [], false)] ∧ sameV r r' T U = false ∧ True) := by kernel_rfl
theorem zsm_p4 (H : List Ent) (r r' : RF) (M M2 : Nat) (T U : Ix → List UInt8) :
    isEnd (evTill Tryd.prog sumsSM 500 (99) 900 75 [.code (bodyOf Tryd.f75)] (envOf [.agg (enT 61 r.one), .agg (enT 62 r'.one)] Tryd.f75.ntmps) (((sentEnts 23 213 (textsIn 23 H errG)) ++ ([⟨61, false, none, 1, .ta M (.vs T)⟩] ++ [⟨62, false, none, 1, .ta M2 (.vs U)⟩])) ++ ([])) ⟨[.s true, .s true, .s true, .s true, .s false], 80⟩) (endP ([]) (vB (sameV r r' T U)) ([]) 300) =
    (OkL [(cs r.1 [] == cs r'.1 [], true), (cs r.2 [] == cs r'.2 [], true), (cs r.3 [] == cs r'.3 [], true), (cs r.4 [] == cs r'.4 [], true), (cs r.7 [] == cs r'.7 [] && (cs r.8 [] == cs r'.8 [] && (cs r.9 [] == cs r'.9 [] && (cs r.10 [] == cs r'.10 [] && (cs r.11 [] == cs r'.11 [] && true)))), false)] ∧ sameV r r' T U = false ∧ True) := by kernel_rfl
theorem zsm_p5 (H : List Ent) (r r' : RF) (M M2 : Nat) (T U : Ix → List UInt8) :
    isEnd (evTill Tryd.prog sumsSM 500 (99) 900 75 [.code (bodyOf Tryd.f75)] (envOf [.agg (enT 61 r.one), .agg (enT 62 r'.one)] Tryd.f75.ntmps) (((sentEnts 23 213 (textsIn 23 H errG)) ++ ([⟨61, false, none, 1, .ta M (.vs T)⟩] ++ [⟨62, false, none, 1, .ta M2 (.vs U)⟩])) ++ ([])) ⟨[.s true, .s true, .s true, .s true, .s true, .s false], 80⟩) (endP ([]) (vB (sameV r r' T U)) ([]) 300) =
    (OkL [(cs r.1 [] == cs r'.1 [], true), (cs r.2 [] == cs r'.2 [], true), (cs r.3 [] == cs r'.3 [], true), (cs r.4 [] == cs r'.4 [], true), (cs r.7 [] == cs r'.7 [] && (cs r.8 [] == cs r'.8 [] && (cs r.9 [] == cs r'.9 [] && (cs r.10 [] == cs r'.10 [] && (cs r.11 [] == cs r'.11 [] && true)))), true), (cs r.12 [] == cs r'.12 [], false)] ∧ sameV r r' T U = false ∧ True) := by kernel_rfl
theorem zsm_p6 (H : List Ent) (r r' : RF) (M M2 : Nat) (T U : Ix → List UInt8) :
    isEnd (evTill Tryd.prog sumsSM 500 (99) 900 75 [.code (bodyOf Tryd.f75)] (envOf [.agg (enT 61 r.one), .agg (enT 62 r'.one)] Tryd.f75.ntmps) (((sentEnts 23 213 (textsIn 23 H errG)) ++ ([⟨61, false, none, 1, .ta M (.vs T)⟩] ++ [⟨62, false, none, 1, .ta M2 (.vs U)⟩])) ++ ([])) ⟨[.s true, .s true, .s true, .s true, .s true, .s true, .s false], 80⟩) (endP ([]) (vB (sameV r r' T U)) ([]) 300) =
    (OkL [(cs r.1 [] == cs r'.1 [], true), (cs r.2 [] == cs r'.2 [], true), (cs r.3 [] == cs r'.3 [], true), (cs r.4 [] == cs r'.4 [], true), (cs r.7 [] == cs r'.7 [] && (cs r.8 [] == cs r'.8 [] && (cs r.9 [] == cs r'.9 [] && (cs r.10 [] == cs r'.10 [] && (cs r.11 [] == cs r'.11 [] && true)))), true), (cs r.12 [] == cs r'.12 [], true), (cs r.13 [] == cs r'.13 [], false)] ∧ sameV r r' T U = false ∧ True) := by kernel_rfl
theorem zsm_p7 (H : List Ent) (r r' : RF) (M M2 : Nat) (T U : Ix → List UInt8) :
    isEnd (evTill Tryd.prog sumsSM 500 (99) 900 75 [.code (bodyOf Tryd.f75)] (envOf [.agg (enT 61 r.one), .agg (enT 62 r'.one)] Tryd.f75.ntmps) (((sentEnts 23 213 (textsIn 23 H errG)) ++ ([⟨61, false, none, 1, .ta M (.vs T)⟩] ++ [⟨62, false, none, 1, .ta M2 (.vs U)⟩])) ++ ([])) ⟨[.s true, .s true, .s true, .s true, .s true, .s true, .s true, .s true, .s false], 80⟩) (endP ([]) (vB (sameV r r' T U)) ([]) 300) =
    (OkL [(cs r.1 [] == cs r'.1 [], true), (cs r.2 [] == cs r'.2 [], true), (cs r.3 [] == cs r'.3 [], true), (cs r.4 [] == cs r'.4 [], true), (cs r.7 [] == cs r'.7 [] && (cs r.8 [] == cs r'.8 [] && (cs r.9 [] == cs r'.9 [] && (cs r.10 [] == cs r'.10 [] && (cs r.11 [] == cs r'.11 [] && true)))), true), (cs r.12 [] == cs r'.12 [], true), (cs r.13 [] == cs r'.13 [], true), (decide (cs r.6 [] ≤ M) && (decide (cs r'.6 [] ≤ M2) && decide (cs r.6 [] ≤ (100000 : Nat))), true), (cs r.6 [] == cs r'.6 [] && txRw (cs r.6 []) T U, false)] ∧ sameV r r' T U = false ∧ True) := by kernel_rfl
theorem zsm_p8 (H : List Ent) (r r' : RF) (M M2 : Nat) (T U : Ix → List UInt8) :
    isEnd (evTill Tryd.prog sumsSM 500 (99) 900 75 [.code (bodyOf Tryd.f75)] (envOf [.agg (enT 61 r.one), .agg (enT 62 r'.one)] Tryd.f75.ntmps) (((sentEnts 23 213 (textsIn 23 H errG)) ++ ([⟨61, false, none, 1, .ta M (.vs T)⟩] ++ [⟨62, false, none, 1, .ta M2 (.vs U)⟩])) ++ ([])) ⟨[.s true, .s true, .s true, .s true, .s true, .s true, .s true, .s true, .s true, .s false], 80⟩) (endP ([]) (vB (sameV r r' T U)) ([]) 300) =
    (OkL [(cs r.1 [] == cs r'.1 [], true), (cs r.2 [] == cs r'.2 [], true), (cs r.3 [] == cs r'.3 [], true), (cs r.4 [] == cs r'.4 [], true), (cs r.7 [] == cs r'.7 [] && (cs r.8 [] == cs r'.8 [] && (cs r.9 [] == cs r'.9 [] && (cs r.10 [] == cs r'.10 [] && (cs r.11 [] == cs r'.11 [] && true)))), true), (cs r.12 [] == cs r'.12 [], true), (cs r.13 [] == cs r'.13 [], true), (decide (cs r.6 [] ≤ M) && (decide (cs r'.6 [] ≤ M2) && decide (cs r.6 [] ≤ (100000 : Nat))), true), (cs r.6 [] == cs r'.6 [] && txRw (cs r.6 []) T U, true), (Nat.ble (16 : Nat) (cs r.14 []) == Nat.ble (16 : Nat) (cs r'.14 []), false)] ∧ sameV r r' T U = false ∧ True) := by kernel_rfl
theorem zsm_p9 (H : List Ent) (r r' : RF) (M M2 : Nat) (T U : Ix → List UInt8) :
    isEnd (evTill Tryd.prog sumsSM 500 (99) 900 75 [.code (bodyOf Tryd.f75)] (envOf [.agg (enT 61 r.one), .agg (enT 62 r'.one)] Tryd.f75.ntmps) (((sentEnts 23 213 (textsIn 23 H errG)) ++ ([⟨61, false, none, 1, .ta M (.vs T)⟩] ++ [⟨62, false, none, 1, .ta M2 (.vs U)⟩])) ++ ([])) ⟨[.s true, .s true, .s true, .s true, .s true, .s true, .s true, .s true, .s true, .s true], 80⟩) (endP ([]) (vB (sameV r r' T U)) ([]) 300) =
    (OkL [(cs r.1 [] == cs r'.1 [], true), (cs r.2 [] == cs r'.2 [], true), (cs r.3 [] == cs r'.3 [], true), (cs r.4 [] == cs r'.4 [], true), (cs r.7 [] == cs r'.7 [] && (cs r.8 [] == cs r'.8 [] && (cs r.9 [] == cs r'.9 [] && (cs r.10 [] == cs r'.10 [] && (cs r.11 [] == cs r'.11 [] && true)))), true), (cs r.12 [] == cs r'.12 [], true), (cs r.13 [] == cs r'.13 [], true), (decide (cs r.6 [] ≤ M) && (decide (cs r'.6 [] ≤ M2) && decide (cs r.6 [] ≤ (100000 : Nat))), true), (cs r.6 [] == cs r'.6 [] && txRw (cs r.6 []) T U, true), (Nat.ble (16 : Nat) (cs r.14 []) == Nat.ble (16 : Nat) (cs r'.14 []), true)] ∧ sameV r r' T U = (xnum (cs r.14 []) == xnum (cs r'.14 [])) ∧ True) := by kernel_rfl

set_option maxHeartbeats 4000000 in
theorem zsm (H : List Ent) (r r' : RF) (M M2 : Nat) (T U : Ix → List UInt8) (h1 : r.L [] ≤ M) (h2 : r'.L [] ≤ M2) (h3 : r.L [] ≤ 100000)  :
    RunsTo Tryd.prog 75 [.code (bodyOf Tryd.f75)] (envOf [.agg (enT 61 r.one), .agg (enT 62 r'.one)] Tryd.f75.ntmps) (Sx.look (((sentEnts 23 213 (textsIn 23 H errG)) ++ ([⟨61, false, none, 1, .ta M (.vs T)⟩] ++ [⟨62, false, none, 1, .ta M2 (.vs U)⟩])) ++ ([]))) 80 (vB (sameV r r' T U)) (Sx.look ([])) 300 := by
  have hx : (xnum (r.E []) == xnum (r'.E [])) = true → (Nat.ble 16 (r.E []) == Nat.ble 16 (r'.E [])) = true := fun h => xn_nil (by simpa using h)
  have c1 : cs r.L [] ≤ M := h1
  have c2 : cs r'.L [] ≤ M2 := h2
  have c3 : cs r.L [] ≤ 100000 := h3
  refine bcase (c := (cs r.1 [] == cs r'.1 [])) (fun gg0 => ?_) (fun gg0 => ?_)
  · refine runs_last baseSM (Sx.Ends.of (zsm_p0 H r r' M M2 T U) ⟨?oo, ?rr⟩) (by kernel_rfl) rfl (gtL (by decide)) (by decide)
    case oo =>
      refine (okc gg0 okn)
      all_goals ((try simp (disch := omega) only [SS]); first | done | omega | assumption | (simp (disch := omega) only [SS] at *; first | done | omega | assumption) | (simp_all; done))
    case rr =>
      refine ⟨?_, trivial⟩
      try simp only [cs] at *
      simp only [sameV, sameW, sameG, noteB]
      generalize ((r.L [] == r'.L []) && txRw (r.L []) T U) = p at *
      generalize (xnum (r.E []) == xnum (r'.E [])) = z at *
      cases p <;> cases z <;> simp_all
  · refine bcase (c := (cs r.2 [] == cs r'.2 [])) (fun gg1 => ?_) (fun gg1 => ?_)
    · refine runs_last baseSM (Sx.Ends.of (zsm_p1 H r r' M M2 T U) ⟨?oo, ?rr⟩) (by kernel_rfl) rfl (gtL (by decide)) (by decide)
      case oo =>
        refine (okc gg0 (okc gg1 okn))
        all_goals ((try simp (disch := omega) only [SS]); first | done | omega | assumption | (simp (disch := omega) only [SS] at *; first | done | omega | assumption) | (simp_all; done))
      case rr =>
        refine ⟨?_, trivial⟩
        try simp only [cs] at *
        simp only [sameV, sameW, sameG, noteB]
        generalize ((r.L [] == r'.L []) && txRw (r.L []) T U) = p at *
        generalize (xnum (r.E []) == xnum (r'.E [])) = z at *
        cases p <;> cases z <;> simp_all
    · refine bcase (c := (cs r.3 [] == cs r'.3 [])) (fun gg2 => ?_) (fun gg2 => ?_)
      · refine runs_last baseSM (Sx.Ends.of (zsm_p2 H r r' M M2 T U) ⟨?oo, ?rr⟩) (by kernel_rfl) rfl (gtL (by decide)) (by decide)
        case oo =>
          refine (okc gg0 (okc gg1 (okc gg2 okn)))
          all_goals ((try simp (disch := omega) only [SS]); first | done | omega | assumption | (simp (disch := omega) only [SS] at *; first | done | omega | assumption) | (simp_all; done))
        case rr =>
          refine ⟨?_, trivial⟩
          try simp only [cs] at *
          simp only [sameV, sameW, sameG, noteB]
          generalize ((r.L [] == r'.L []) && txRw (r.L []) T U) = p at *
          generalize (xnum (r.E []) == xnum (r'.E [])) = z at *
          cases p <;> cases z <;> simp_all
      · refine bcase (c := (cs r.4 [] == cs r'.4 [])) (fun gg3 => ?_) (fun gg3 => ?_)
        · refine runs_last baseSM (Sx.Ends.of (zsm_p3 H r r' M M2 T U) ⟨?oo, ?rr⟩) (by kernel_rfl) rfl (gtL (by decide)) (by decide)
          case oo =>
            refine (okc gg0 (okc gg1 (okc gg2 (okc gg3 okn))))
            all_goals ((try simp (disch := omega) only [SS]); first | done | omega | assumption | (simp (disch := omega) only [SS] at *; first | done | omega | assumption) | (simp_all; done))
          case rr =>
            refine ⟨?_, trivial⟩
            try simp only [cs] at *
            simp only [sameV, sameW, sameG, noteB]
            generalize ((r.L [] == r'.L []) && txRw (r.L []) T U) = p at *
            generalize (xnum (r.E []) == xnum (r'.E [])) = z at *
            cases p <;> cases z <;> simp_all
        · refine bcase (c := (cs r.7 [] == cs r'.7 [] && (cs r.8 [] == cs r'.8 [] && (cs r.9 [] == cs r'.9 [] && (cs r.10 [] == cs r'.10 [] && (cs r.11 [] == cs r'.11 [] && true)))))) (fun gg4 => ?_) (fun gg4 => ?_)
          · refine runs_last baseSM (Sx.Ends.of (zsm_p4 H r r' M M2 T U) ⟨?oo, ?rr⟩) (by kernel_rfl) rfl (gtL (by decide)) (by decide)
            case oo =>
              refine (okc gg0 (okc gg1 (okc gg2 (okc gg3 (okc gg4 okn)))))
              all_goals ((try simp (disch := omega) only [SS]); first | done | omega | assumption | (simp (disch := omega) only [SS] at *; first | done | omega | assumption) | (simp_all; done))
            case rr =>
              refine ⟨?_, trivial⟩
              try simp only [cs] at *
              simp only [sameV, sameW, sameG, noteB]
              generalize ((r.L [] == r'.L []) && txRw (r.L []) T U) = p at *
              generalize (xnum (r.E []) == xnum (r'.E [])) = z at *
              cases p <;> cases z <;> simp_all
          · refine bcase (c := (cs r.12 [] == cs r'.12 [])) (fun gg5 => ?_) (fun gg5 => ?_)
            · refine runs_last baseSM (Sx.Ends.of (zsm_p5 H r r' M M2 T U) ⟨?oo, ?rr⟩) (by kernel_rfl) rfl (gtL (by decide)) (by decide)
              case oo =>
                refine (okc gg0 (okc gg1 (okc gg2 (okc gg3 (okc gg4 (okc gg5 okn))))))
                all_goals ((try simp (disch := omega) only [SS]); first | done | omega | assumption | (simp (disch := omega) only [SS] at *; first | done | omega | assumption) | (simp_all; done))
              case rr =>
                refine ⟨?_, trivial⟩
                try simp only [cs] at *
                simp only [sameV, sameW, sameG, noteB]
                generalize ((r.L [] == r'.L []) && txRw (r.L []) T U) = p at *
                generalize (xnum (r.E []) == xnum (r'.E [])) = z at *
                cases p <;> cases z <;> simp_all
            · refine bcase (c := (cs r.13 [] == cs r'.13 [])) (fun gg6 => ?_) (fun gg6 => ?_)
              · refine runs_last baseSM (Sx.Ends.of (zsm_p6 H r r' M M2 T U) ⟨?oo, ?rr⟩) (by kernel_rfl) rfl (gtL (by decide)) (by decide)
                case oo =>
                  refine (okc gg0 (okc gg1 (okc gg2 (okc gg3 (okc gg4 (okc gg5 (okc gg6 okn)))))))
                  all_goals ((try simp (disch := omega) only [SS]); first | done | omega | assumption | (simp (disch := omega) only [SS] at *; first | done | omega | assumption) | (simp_all; done))
                case rr =>
                  refine ⟨?_, trivial⟩
                  try simp only [cs] at *
                  simp only [sameV, sameW, sameG, noteB]
                  generalize ((r.L [] == r'.L []) && txRw (r.L []) T U) = p at *
                  generalize (xnum (r.E []) == xnum (r'.E [])) = z at *
                  cases p <;> cases z <;> simp_all
              · refine bcase (c := (cs r.6 [] == cs r'.6 [] && txRw (cs r.6 []) T U)) (fun gg7 => ?_) (fun gg7 => ?_)
                · refine runs_last baseSM (Sx.Ends.of (zsm_p7 H r r' M M2 T U) ⟨?oo, ?rr⟩) (by kernel_rfl) rfl (gtL (by decide)) (by decide)
                  case oo =>
                    refine (okc gg0 (okc gg1 (okc gg2 (okc gg3 (okc gg4 (okc gg5 (okc gg6 (okc ?_ (okc gg7 okn)))))))))
                    all_goals ((try simp (disch := omega) only [SS]); first | done | omega | assumption | (simp (disch := omega) only [SS] at *; first | done | omega | assumption) | (simp_all; done))
                  case rr =>
                    refine ⟨?_, trivial⟩
                    try simp only [cs] at *
                    simp only [sameV, sameW, sameG, noteB]
                    generalize ((r.L [] == r'.L []) && txRw (r.L []) T U) = p at *
                    generalize (xnum (r.E []) == xnum (r'.E [])) = z at *
                    cases p <;> cases z <;> simp_all
                · refine bcase (c := (Nat.ble (16 : Nat) (cs r.14 []) == Nat.ble (16 : Nat) (cs r'.14 []))) (fun gg8 => ?_) (fun gg8 => ?_)
                  · refine runs_last baseSM (Sx.Ends.of (zsm_p8 H r r' M M2 T U) ⟨?oo, ?rr⟩) (by kernel_rfl) rfl (gtL (by decide)) (by decide)
                    case oo =>
                      refine (okc gg0 (okc gg1 (okc gg2 (okc gg3 (okc gg4 (okc gg5 (okc gg6 (okc ?_ (okc gg7 (okc gg8 okn))))))))))
                      all_goals ((try simp (disch := omega) only [SS]); first | done | omega | assumption | (simp (disch := omega) only [SS] at *; first | done | omega | assumption) | (simp_all; done))
                    case rr =>
                      refine ⟨?_, trivial⟩
                      try simp only [cs] at *
                      simp only [sameV, sameW, sameG, noteB]
                      generalize ((r.L [] == r'.L []) && txRw (r.L []) T U) = p at *
                      generalize (xnum (r.E []) == xnum (r'.E [])) = z at *
                      cases p <;> cases z <;> simp_all
                  · refine runs_last baseSM (Sx.Ends.of (zsm_p9 H r r' M M2 T U) ⟨?oo, ?rr⟩) (by kernel_rfl) rfl (gtL (by decide)) (by decide)
                    case oo =>
                      refine (okc gg0 (okc gg1 (okc gg2 (okc gg3 (okc gg4 (okc gg5 (okc gg6 (okc ?_ (okc gg7 (okc gg8 okn))))))))))
                      all_goals ((try simp (disch := omega) only [SS]); first | done | omega | assumption | (simp (disch := omega) only [SS] at *; first | done | omega | assumption) | (simp_all; done))
                    case rr =>
                      refine ⟨?_, trivial⟩
                      try simp only [cs] at *
                      simp only [sameV, sameW, sameG, noteB]
                      generalize ((r.L [] == r'.L []) && txRw (r.L []) T U) = p at *
                      generalize (xnum (r.E []) == xnum (r'.E [])) = z at *
                      cases p <;> cases z <;> simp_all

def zsmP : PC := { args := [.agg (.tc (.vi .i64 10) (.tc (.vi .i64 11) (.tc (.vi .i64 12) (.tc (.vs 13) (.tc (.vm 61 1 14) (.tc (.tc (.vi .i64 15) (.tc (.vi .i64 16) (.tc (.vi .i64 17) (.tc (.vi .i64 18) (.tc (.vb 19) .t0))))) (.tc (.vi .i64 20) (.tc (.vi .i64 21) (.tc (.vx 213 errL 22) .t0))))))))), .agg (.tc (.vi .i64 110) (.tc (.vi .i64 111) (.tc (.vi .i64 112) (.tc (.vs 113) (.tc (.vm 62 1 114) (.tc (.tc (.vi .i64 115) (.tc (.vi .i64 116) (.tc (.vi .i64 117) (.tc (.vi .i64 118) (.tc (.vb 119) .t0))))) (.tc (.vi .i64 120) (.tc (.vi .i64 121) (.tc (.vx 213 errL 122) .t0)))))))))], heap := [⟨61, false, 1, .ta 40 (.vs 41)⟩, ⟨62, false, 1, .ta 42 (.vs 43)⟩], gs := [0, 1, 2, 3, 4, 5, 6, 7, 8, 9, 10, 11, 12, 13, 14, 15], G := 23, tp := 213, n := 80, n' := 300, cond := fun e => decide (eN e 14 ≤ eN e 40) && (decide (eN e 114 ≤ eN e 42) && decide (eN e 14 ≤ 100000)), v := fun e => vB (sameV (⟨eI e 10, eI e 11, eI e 12, eS e 13, fun _ => 0, fun _ => eN e 14, eI e 15, eI e 16, eI e 17, eI e 18, eB e 19, eI e 20, eI e 21, eM e 22, fun _ => 0⟩ : RF) (⟨eI e 110, eI e 111, eI e 112, eS e 113, fun _ => 0, fun _ => eN e 114, eI e 115, eI e 116, eI e 117, eI e 118, eB e 119, eI e 120, eI e 121, eM e 122, fun _ => 0⟩ : RF) (eS e 41) (eS e 43)), post := fun e => [] }
theorem zsmP_pc : PC.Runs Tryd.prog 75 Tryd.f75 (bodyOf Tryd.f75) zsmP := ⟨Tryd.func75, by kernel_rfl, (fun g hg => by first | (cases hg; done) | (revert g; show ∀ g ∈ ([0, 1, 2, 3, 4, 5, 6, 7, 8, 9, 10, 11, 12, 13, 14, 15] : List Nat), g < 23; decide)), fun e H hc => by
  have hc : (decide (eN e 14 ≤ eN e 40) && (decide (eN e 114 ≤ eN e 42) && decide (eN e 14 ≤ 100000))) = true := hc
  try simp only [Bool.and_eq_true, decide_eq_true_eq, Nat.beq_eq] at hc
  exact zsm H (⟨eI e 10, eI e 11, eI e 12, eS e 13, fun _ => 0, fun _ => eN e 14, eI e 15, eI e 16, eI e 17, eI e 18, eB e 19, eI e 20, eI e 21, eM e 22, fun _ => 0⟩ : RF) (⟨eI e 110, eI e 111, eI e 112, eS e 113, fun _ => 0, fun _ => eN e 114, eI e 115, eI e 116, eI e 117, eI e 118, eB e 119, eI e 120, eI e 121, eM e 122, fun _ => 0⟩ : RF) (eN e 40) (eN e 42) (eS e 41) (eS e 43) hc.1 hc.2.1 hc.2.2⟩
end Go.Proofs.YtaleenklamognaaDoor

set_option linter.unusedSimpArgs false
set_option linter.unusedVariables false
set_option maxRecDepth 100000
namespace Go.Proofs.YtaleenklamognaaDoor
open Go.Sx

open WordR
def okM (M L : Ix → Nat) (n cn : Nat) (ls : Nat → Nat) : Bool := (List.range n).all fun i => decide (M [i] < cn ∧ L [i] ≤ ls (M [i]) ∧ L [i] ≤ 100000)
def okMs (M L : Ix → Nat) (n cn : Nat) (ls : Nat → Nat) : Bool := (List.range n).all fun i => decide (M [i] < cn ∧ L [i] ≤ ls (M [i]))
def famE (l cn : Nat) (ls : Nat → Nat) (T : Ix → List UInt8) : List Ent := [⟨l, false, some (cn, ls), 1, .vs T⟩]
def sameAt (r r' : RF) (T U : Ix → List UInt8) (i j : Nat) : Bool := sameV (r.at i) (r'.at j) (fun js => T (r.M [i] :: js)) (fun js => U (r'.M [j] :: js))
def onI (nk : Nat) (F : Ix → Int) (K : Ix → Int) (n : Nat) : List Nat := (List.range n).filter fun i => hasB nk F (K [i])
def rowB (r : RF) (T : Ix → List UInt8) (i : Nat) : Bool := decide ((r.X [i]).length ≤ 500) && fewB (r.L [i]) (fun js => T (r.M [i] :: js)) 12 200
def rowsB (r : RF) (T : Ix → List UInt8) (n : Nat) : Bool := decide (n ≤ 20) && (List.range n).all (rowB r T)
theorem okM_at {M L : Ix → Nat} {n cn i : Nat} {ls : Nat → Nat} (h : okM M L n cn ls = true) (hi : i < n) : M [i] < cn ∧ L [i] ≤ ls (M [i]) ∧ L [i] ≤ 100000 := of_decide_eq_true (List.all_eq_true.1 h i (List.mem_range.2 hi))
theorem okMs_at {M L : Ix → Nat} {n cn i : Nat} {ls : Nat → Nat} (h : okMs M L n cn ls = true) (hi : i < n) : M [i] < cn ∧ L [i] ≤ ls (M [i]) := of_decide_eq_true (List.all_eq_true.1 h i (List.mem_range.2 hi))
theorem ap_sel {α : Type} (I : List Nat) (f : Ix → α) (g : Ix → α) (i : Nat) (hg : ∀ is, g is = f [i]) {k : Nat} (hk : k < I.length + 1) : appF I.length 0 (ixI I f) g [k] = ixI (I ++ [i]) f [k] := by
  simp only [appF, ixI, List.headD]
  split
  · rename_i h; rw [Nat.zero_add, List.getD_eq_getElem?_getD, List.getD_eq_getElem?_getD, List.getElem?_append_left h]
  · rename_i h
    have : k = I.length := by omega
    subst this
    rw [hg]; simp
theorem ap_row {α : Type} (n : Nat) (f : Ix → α) (g : Ix → α) (hg : ∀ is, g is = f [n]) {k : Nat} (hk : k < n + 1) : appF n 0 f g [k] = f [k] := by
  simp only [appF]
  split
  · rw [Nat.zero_add]
  · have : k = n := by omega
    subst this; exact hg _
theorem onI_len (nk : Nat) (F : Ix → Int) (K : Ix → Int) (n : Nat) : (onI nk F K n).length ≤ n := by
  have := List.length_filter_le (fun i => hasB nk F (K [i])) (List.range n)
  rwa [List.length_range] at this
theorem onI_succ (nk : Nat) (F : Ix → Int) (K : Ix → Int) (n : Nat) : onI nk F K (n + 1) = onI nk F K n ++ (if hasB nk F (K [n]) then [n] else []) := by
  unfold onI
  rw [List.range_succ, List.filter_append]
  congr 1
  cases h : hasB nk F (K [n]) <;> simp [h]
def sumsEF : List (FuncId × Summ) := [(75, zsmP.summ 46)]
theorem baseEF : Base0 Tryd.prog sumsEF := (baseO.cons Tryd.func75 (by kernel_rfl) (PC.summ_ok zsmP_pc gtopG))
theorem ef0_p0 (H : List Ent) (r r' : RF) (n m Ma Mb cn cm : Nat) (ls lm : Nat → Nat) (T U : Ix → List UInt8) :
    isEnd (evTill Tryd.prog sumsEF 500 (99) 900 74 [.code (bodyOf Tryd.f74)] (envOf [vL 61 13 n, vL 62 13 m, .v (.vr (.func (.func 75) #[] #[]))] Tryd.f74.ntmps) (((sentEnts 23 213 (textsIn 23 H errG)) ++ (enE false 61 71 r Ma ++ (enE false 62 72 r' Mb ++ (famE 71 cn ls T ++ famE 72 cm lm U)))) ++ ([])) ⟨[.s true], 80⟩) (endP ([]) (vB false) ([]) 520) =
    (OkL [((↑n : Int) != (↑m : Int), true)] ∧ false = false ∧ True) := by kernel_rfl

set_option maxHeartbeats 4000000 in
theorem ef0 (H : List Ent) (r r' : RF) (n m Ma Mb cn cm : Nat) (ls lm : Nat → Nat) (T U : Ix → List UInt8) (h : n ≠ m)  :
    RunsTo Tryd.prog 74 [.code (bodyOf Tryd.f74)] (envOf [vL 61 13 n, vL 62 13 m, .v (.vr (.func (.func 75) #[] #[]))] Tryd.f74.ntmps) (Sx.look (((sentEnts 23 213 (textsIn 23 H errG)) ++ (enE false 61 71 r Ma ++ (enE false 62 72 r' Mb ++ (famE 71 cn ls T ++ famE 72 cm lm U)))) ++ ([]))) 80 (vB false) (Sx.look ([])) 520 := by
  refine runs_last baseEF (Sx.Ends.of (ef0_p0 H r r' n m Ma Mb cn cm ls lm T U) ⟨?oo, ?rr⟩) (by kernel_rfl) rfl (gtL (by decide)) (by decide)
  case oo =>
    refine (okc ?_ okn)
    all_goals ((try simp (disch := omega) only [SS]); first | done | omega | assumption | (simp (disch := omega) only [SS] at *; first | done | omega | assumption) | (simp_all; done))
  case rr =>
    try simp (disch := omega) only [SS]
    repeat' apply And.intro
    all_goals first | exact True.intro | with_reducible rfl | omega | (intros; first | exact True.intro | with_reducible rfl | omega | (simp_all; done)) | (simp_all; done) | rfl

theorem ef1_p0 (H : List Ent) (r r' : RF) (n m Ma Mb cn cm : Nat) (ls lm : Nat → Nat) (T U : Ix → List UInt8) :
    isMore (evTill Tryd.prog sumsEF 500 (behind Tryd.f74 0) 900 74 [.code (bodyOf Tryd.f74)] (envOf [vL 61 13 n, vL 62 13 m, .v (.vr (.func (.func 75) #[] #[]))] Tryd.f74.ntmps) (((sentEnts 23 213 (textsIn 23 H errG)) ++ (enE false 61 71 r Ma ++ (enE false 62 72 r' Mb ++ (famE 71 cn ls T ++ famE 72 cm lm U)))) ++ ([])) ⟨[.s false], 80⟩) (moreP (headOf Tryd.f74 0) ([]) Tryd.f74.ntmps ([(1, vL 62 13 m), (2, .v (.vr (.func (.func 75) #[] #[]))), (15, vL 61 13 n), (16, vN n), (17, vN (0 : Nat))]) ([]) 520) =
    (OkL [((↑n : Int) != (↑m : Int), false)] ∧ headOf Tryd.f74 (0 : Nat) = headOf Tryd.f74 (0 : Nat) ∧ (((0 : Nat) = (0 : Nat) ∧ m = m) ∧ Value.func (Fn.func (75 : Nat)) #[] #[] = Value.func (Fn.func (75 : Nat)) #[] #[] ∧ ((0 : Nat) = (0 : Nat) ∧ n = n) ∧ (↑n : Int) = (↑n : Int) ∧ (↑(0 : Nat) : Int) = (0 : Int)) ∧ True) := by kernel_rfl

set_option maxHeartbeats 4000000 in
theorem ef1 (H : List Ent) (r r' : RF) (n m Ma Mb cn cm : Nat) (ls lm : Nat → Nat) (T U : Ix → List UInt8) (e : n = m)  (v : SV) (L' : HF) (next : RunsTo Tryd.prog 74 (headOf Tryd.f74 0) (envAt Tryd.f74.ntmps ([(1, vL 62 13 m), (2, .v (.vr (.func (.func 75) #[] #[]))), (15, vL 61 13 n), (16, vN n), (17, vN (0 : Nat))])) (Sx.look (((sentEnts 23 213 (textsIn 23 H errG)) ++ (enE false 61 71 r Ma ++ (enE false 62 72 r' Mb ++ (famE 71 cn ls T ++ famE 72 cm lm U)))) ++ ([]))) 80 (v) (L') 520) :
    RunsTo Tryd.prog 74 [.code (bodyOf Tryd.f74)] (envOf [vL 61 13 n, vL 62 13 m, .v (.vr (.func (.func 75) #[] #[]))] Tryd.f74.ntmps) (Sx.look (((sentEnts 23 213 (textsIn 23 H errG)) ++ (enE false 61 71 r Ma ++ (enE false 62 72 r' Mb ++ (famE 71 cn ls T ++ famE 72 cm lm U)))) ++ ([]))) 80 (v) (L') 520 := by
  refine runs_more baseEF (More.of (ef1_p0 H r r' n m Ma Mb cn cm ls lm T U) ⟨?oo, rfl, ?rr⟩) (by kernel_rfl) (by kernel_rfl) rfl (gtL (by decide)) (by decide) next
  case oo =>
    clear next
    refine (okc ?_ okn)
    all_goals ((try simp (disch := omega) only [SS]); first | done | omega | assumption | (simp (disch := omega) only [SS] at *; first | done | omega | assumption) | (simp_all; done))
  case rr =>
    clear next
    try simp (disch := omega) only [SS]
    repeat' apply And.intro
    all_goals first | exact True.intro | with_reducible rfl | omega | (intros; first | exact True.intro | with_reducible rfl | omega | (simp_all; done)) | (simp_all; done) | rfl

theorem ef2_p0 (H : List Ent) (r r' : RF) (n m Ma Mb cn cm : Nat) (ls lm : Nat → Nat) (T U : Ix → List UInt8) (i : Nat) :
    isMore (evTill Tryd.prog sumsEF 500 (behind Tryd.f74 0) 900 74 (headOf Tryd.f74 0) (envAt Tryd.f74.ntmps ([(1, vL 62 13 m), (2, .v (.vr (.func (.func 75) #[] #[]))), (15, vL 61 13 n), (16, vN n), (17, vN (i : Nat))])) (((sentEnts 23 213 (textsIn 23 H errG)) ++ (enE false 61 71 r Ma ++ (enE false 62 72 r' Mb ++ (famE 71 cn ls T ++ famE 72 cm lm U)))) ++ ([])) ⟨[.s true, .s true, .s true, .s true, .s true, .s true, .s true, .s true, .s true, .s true, .s false], 110⟩) (moreP (headOf Tryd.f74 0) ([]) Tryd.f74.ntmps ([(1, vL 62 13 m), (2, .v (.vr (.func (.func 75) #[] #[]))), (15, vL 61 13 n), (16, vN n), (17, vN (i + 1 : Nat))]) ([]) 520) =
    (OkL [(decide ((↑i : Int) < (↑n : Int)), true), (decide ((0 : Int) ≤ (↑i : Int) ∧ (↑i : Int) < (↑n : Int)), true), (((0 : Nat) + (↑i : Int).toNat).blt Ma, true), (((0 : Nat) + (↑i : Int).toNat).blt Ma, true), (decide ((0 : Int) ≤ (↑i : Int) ∧ (↑i : Int) < (↑m : Int)), true), (((0 : Nat) + (↑i : Int).toNat).blt Mb, true), (((0 : Nat) + (↑i : Int).toNat).blt Mb, true), ((r'.5 [(0 : Nat) + (↑i : Int).toNat] + (1 : Nat) + (cm - (r'.5 [(0 : Nat) + (↑i : Int).toNat] + (1 : Nat)))).beq cm, true), ((r.5 [(0 : Nat) + (↑i : Int).toNat] + (1 : Nat) + (cn - (r.5 [(0 : Nat) + (↑i : Int).toNat] + (1 : Nat)))).beq cn, true), (decide (r.6 [(0 : Nat) + (↑i : Int).toNat] ≤ ls (r.5 [(0 : Nat) + (↑i : Int).toNat])) && (decide (r'.6 [(0 : Nat) + (↑i : Int).toNat] ≤ lm (r'.5 [(0 : Nat) + (↑i : Int).toNat])) && decide (r.6 [(0 : Nat) + (↑i : Int).toNat] ≤ (100000 : Nat))), true), (!sameV { K := fun js => r.1 (((0 : Nat) + (↑i : Int).toNat) :: js), N := fun js => r.2 (((0 : Nat) + (↑i : Int).toNat) :: js), C := fun js => r.3 (((0 : Nat) + (↑i : Int).toNat) :: js), X := fun js => r.4 (((0 : Nat) + (↑i : Int).toNat) :: js), M := fun x => (0 : Nat), L := fun x => r.6 [(0 : Nat) + (↑i : Int).toNat], nk := fun js => r.7 (((0 : Nat) + (↑i : Int).toNat) :: js), nc := fun js => r.8 (((0 : Nat) + (↑i : Int).toNat) :: js), ns := fun js => r.9 (((0 : Nat) + (↑i : Int).toNat) :: js), no := fun js => r.10 (((0 : Nat) + (↑i : Int).toNat) :: js), nb := fun js => r.11 (((0 : Nat) + (↑i : Int).toNat) :: js), V := fun js => r.12 (((0 : Nat) + (↑i : Int).toNat) :: js), O := fun js => r.13 (((0 : Nat) + (↑i : Int).toNat) :: js), E := fun js => r.14 (((0 : Nat) + (↑i : Int).toNat) :: js), B := fun x => (0 : Int) } { K := fun js => r'.1 (((0 : Nat) + (↑i : Int).toNat) :: js), N := fun js => r'.2 (((0 : Nat) + (↑i : Int).toNat) :: js), C := fun js => r'.3 (((0 : Nat) + (↑i : Int).toNat) :: js), X := fun js => r'.4 (((0 : Nat) + (↑i : Int).toNat) :: js), M := fun x => (0 : Nat), L := fun x => r'.6 [(0 : Nat) + (↑i : Int).toNat], nk := fun js => r'.7 (((0 : Nat) + (↑i : Int).toNat) :: js), nc := fun js => r'.8 (((0 : Nat) + (↑i : Int).toNat) :: js), ns := fun js => r'.9 (((0 : Nat) + (↑i : Int).toNat) :: js), no := fun js => r'.10 (((0 : Nat) + (↑i : Int).toNat) :: js), nb := fun js => r'.11 (((0 : Nat) + (↑i : Int).toNat) :: js), V := fun js => r'.12 (((0 : Nat) + (↑i : Int).toNat) :: js), O := fun js => r'.13 (((0 : Nat) + (↑i : Int).toNat) :: js), E := fun js => r'.14 (((0 : Nat) + (↑i : Int).toNat) :: js), B := fun x => (0 : Int) } (fun js => T (r.5 [(0 : Nat) + (↑i : Int).toNat] :: js)) fun js => U (r'.5 [(0 : Nat) + (↑i : Int).toNat] :: js), false)] ∧ headOf Tryd.f74 (0 : Nat) = headOf Tryd.f74 (0 : Nat) ∧ (((0 : Nat) = (0 : Nat) ∧ m = m) ∧ Value.func (Fn.func (75 : Nat)) #[] #[] = Value.func (Fn.func (75 : Nat)) #[] #[] ∧ ((0 : Nat) = (0 : Nat) ∧ n = n) ∧ (↑n : Int) = (↑n : Int) ∧ (↑(i + (1 : Nat)) : Int) = IntKind.i64.wrap ((↑i : Int) + (1 : Int))) ∧ True) := by kernel_rfl

set_option maxHeartbeats 4000000 in
theorem ef2 (H : List Ent) (r r' : RF) (n m Ma Mb cn cm : Nat) (ls lm : Nat → Nat) (T U : Ix → List UInt8) (i : Nat) (hi : i < n) (e : n = m) (hn : n ≤ 100000) (ha : n ≤ Ma) (hb : m ≤ Mb) (o1 : okM r.M r.L n cn ls = true) (o2 : okM r'.M r'.L m cm lm = true) (h : sameAt r r' T U i i = true)  (v : SV) (L' : HF) (next : RunsTo Tryd.prog 74 (headOf Tryd.f74 0) (envAt Tryd.f74.ntmps ([(1, vL 62 13 m), (2, .v (.vr (.func (.func 75) #[] #[]))), (15, vL 61 13 n), (16, vN n), (17, vN (i + 1 : Nat))])) (Sx.look (((sentEnts 23 213 (textsIn 23 H errG)) ++ (enE false 61 71 r Ma ++ (enE false 62 72 r' Mb ++ (famE 71 cn ls T ++ famE 72 cm lm U)))) ++ ([]))) 80 (v) (L') 520) :
    RunsTo Tryd.prog 74 (headOf Tryd.f74 0) (envAt Tryd.f74.ntmps ([(1, vL 62 13 m), (2, .v (.vr (.func (.func 75) #[] #[]))), (15, vL 61 13 n), (16, vN n), (17, vN (i : Nat))])) (Sx.look (((sentEnts 23 213 (textsIn 23 H errG)) ++ (enE false 61 71 r Ma ++ (enE false 62 72 r' Mb ++ (famE 71 cn ls T ++ famE 72 cm lm U)))) ++ ([]))) 80 (v) (L') 520 := by
  have hw : IntKind.i64.wrap ((i : Int) + 1) = ((i + 1 : Nat) : Int) := by rw [wr64 (by omega)]; rfl
  obtain ⟨a1, a2, a3⟩ := okM_at o1 hi
  obtain ⟨b1, b2, b3⟩ := okM_at o2 (show i < m by omega)
  refine runs_more baseEF (More.of (ef2_p0 H r r' n m Ma Mb cn cm ls lm T U i) ⟨?oo, rfl, ?rr⟩) (by kernel_rfl) (by kernel_rfl) rfl (gtL (by decide)) (by decide) next
  case oo =>
    clear next
    refine (okc ?_ (okc ?_ (okc ?_ (okc ?_ (okc ?_ (okc ?_ (okc ?_ (okc ?_ (okc ?_ (okc ?_ (okc ?_ okn)))))))))))
    all_goals first | omega | exact h | exact ⟨a2, b2, a3⟩ | (simp (disch := omega) only [SS, hw]; first | done | omega | exact h | exact ⟨a2, b2, a3⟩ | assumption) | (simp_all; done) | (simp_all; omega)
  case rr =>
    clear next
    try simp (disch := omega) only [SS, hw]
    repeat' apply And.intro
    all_goals first | exact True.intro | with_reducible rfl | omega | (intros; first | exact True.intro | with_reducible rfl | omega | (simp_all; done)) | (simp_all; done) | rfl

theorem ef3_p0 (H : List Ent) (r r' : RF) (n m Ma Mb cn cm : Nat) (ls lm : Nat → Nat) (T U : Ix → List UInt8) (i : Nat) :
    isEnd (evTill Tryd.prog sumsEF 500 (99) 900 74 (headOf Tryd.f74 0) (envAt Tryd.f74.ntmps ([(1, vL 62 13 m), (2, .v (.vr (.func (.func 75) #[] #[]))), (15, vL 61 13 n), (16, vN n), (17, vN (i : Nat))])) (((sentEnts 23 213 (textsIn 23 H errG)) ++ (enE false 61 71 r Ma ++ (enE false 62 72 r' Mb ++ (famE 71 cn ls T ++ famE 72 cm lm U)))) ++ ([])) ⟨[.s true, .s true, .s true, .s true, .s true, .s true, .s true, .s true, .s true, .s true, .s true], 110⟩) (endP ([]) (vB false) ([]) 520) =
    (OkL [(decide ((↑i : Int) < (↑n : Int)), true), (decide ((0 : Int) ≤ (↑i : Int) ∧ (↑i : Int) < (↑n : Int)), true), (((0 : Nat) + (↑i : Int).toNat).blt Ma, true), (((0 : Nat) + (↑i : Int).toNat).blt Ma, true), (decide ((0 : Int) ≤ (↑i : Int) ∧ (↑i : Int) < (↑m : Int)), true), (((0 : Nat) + (↑i : Int).toNat).blt Mb, true), (((0 : Nat) + (↑i : Int).toNat).blt Mb, true), ((r'.5 [(0 : Nat) + (↑i : Int).toNat] + (1 : Nat) + (cm - (r'.5 [(0 : Nat) + (↑i : Int).toNat] + (1 : Nat)))).beq cm, true), ((r.5 [(0 : Nat) + (↑i : Int).toNat] + (1 : Nat) + (cn - (r.5 [(0 : Nat) + (↑i : Int).toNat] + (1 : Nat)))).beq cn, true), (decide (r.6 [(0 : Nat) + (↑i : Int).toNat] ≤ ls (r.5 [(0 : Nat) + (↑i : Int).toNat])) && (decide (r'.6 [(0 : Nat) + (↑i : Int).toNat] ≤ lm (r'.5 [(0 : Nat) + (↑i : Int).toNat])) && decide (r.6 [(0 : Nat) + (↑i : Int).toNat] ≤ (100000 : Nat))), true), (!sameV { K := fun js => r.1 (((0 : Nat) + (↑i : Int).toNat) :: js), N := fun js => r.2 (((0 : Nat) + (↑i : Int).toNat) :: js), C := fun js => r.3 (((0 : Nat) + (↑i : Int).toNat) :: js), X := fun js => r.4 (((0 : Nat) + (↑i : Int).toNat) :: js), M := fun x => (0 : Nat), L := fun x => r.6 [(0 : Nat) + (↑i : Int).toNat], nk := fun js => r.7 (((0 : Nat) + (↑i : Int).toNat) :: js), nc := fun js => r.8 (((0 : Nat) + (↑i : Int).toNat) :: js), ns := fun js => r.9 (((0 : Nat) + (↑i : Int).toNat) :: js), no := fun js => r.10 (((0 : Nat) + (↑i : Int).toNat) :: js), nb := fun js => r.11 (((0 : Nat) + (↑i : Int).toNat) :: js), V := fun js => r.12 (((0 : Nat) + (↑i : Int).toNat) :: js), O := fun js => r.13 (((0 : Nat) + (↑i : Int).toNat) :: js), E := fun js => r.14 (((0 : Nat) + (↑i : Int).toNat) :: js), B := fun x => (0 : Int) } { K := fun js => r'.1 (((0 : Nat) + (↑i : Int).toNat) :: js), N := fun js => r'.2 (((0 : Nat) + (↑i : Int).toNat) :: js), C := fun js => r'.3 (((0 : Nat) + (↑i : Int).toNat) :: js), X := fun js => r'.4 (((0 : Nat) + (↑i : Int).toNat) :: js), M := fun x => (0 : Nat), L := fun x => r'.6 [(0 : Nat) + (↑i : Int).toNat], nk := fun js => r'.7 (((0 : Nat) + (↑i : Int).toNat) :: js), nc := fun js => r'.8 (((0 : Nat) + (↑i : Int).toNat) :: js), ns := fun js => r'.9 (((0 : Nat) + (↑i : Int).toNat) :: js), no := fun js => r'.10 (((0 : Nat) + (↑i : Int).toNat) :: js), nb := fun js => r'.11 (((0 : Nat) + (↑i : Int).toNat) :: js), V := fun js => r'.12 (((0 : Nat) + (↑i : Int).toNat) :: js), O := fun js => r'.13 (((0 : Nat) + (↑i : Int).toNat) :: js), E := fun js => r'.14 (((0 : Nat) + (↑i : Int).toNat) :: js), B := fun x => (0 : Int) } (fun js => T (r.5 [(0 : Nat) + (↑i : Int).toNat] :: js)) fun js => U (r'.5 [(0 : Nat) + (↑i : Int).toNat] :: js), true)] ∧ false = false ∧ True) := by kernel_rfl

set_option maxHeartbeats 4000000 in
theorem ef3 (H : List Ent) (r r' : RF) (n m Ma Mb cn cm : Nat) (ls lm : Nat → Nat) (T U : Ix → List UInt8) (i : Nat) (hi : i < n) (e : n = m) (hn : n ≤ 100000) (ha : n ≤ Ma) (hb : m ≤ Mb) (o1 : okM r.M r.L n cn ls = true) (o2 : okM r'.M r'.L m cm lm = true) (h : sameAt r r' T U i i = false)  :
    RunsTo Tryd.prog 74 (headOf Tryd.f74 0) (envAt Tryd.f74.ntmps ([(1, vL 62 13 m), (2, .v (.vr (.func (.func 75) #[] #[]))), (15, vL 61 13 n), (16, vN n), (17, vN (i : Nat))])) (Sx.look (((sentEnts 23 213 (textsIn 23 H errG)) ++ (enE false 61 71 r Ma ++ (enE false 62 72 r' Mb ++ (famE 71 cn ls T ++ famE 72 cm lm U)))) ++ ([]))) 80 (vB false) (Sx.look ([])) 520 := by
  have hw : IntKind.i64.wrap ((i : Int) + 1) = ((i + 1 : Nat) : Int) := by rw [wr64 (by omega)]; rfl
  obtain ⟨a1, a2, a3⟩ := okM_at o1 hi
  obtain ⟨b1, b2, b3⟩ := okM_at o2 (show i < m by omega)
  refine runs_last baseEF (Sx.Ends.of (ef3_p0 H r r' n m Ma Mb cn cm ls lm T U i) ⟨?oo, ?rr⟩) (by kernel_rfl) rfl (gtL (by decide)) (by decide)
  case oo =>
    refine (okc ?_ (okc ?_ (okc ?_ (okc ?_ (okc ?_ (okc ?_ (okc ?_ (okc ?_ (okc ?_ (okc ?_ (okc ?_ okn)))))))))))
    all_goals first | omega | exact h | exact ⟨a2, b2, a3⟩ | (simp (disch := omega) only [SS, hw]; first | done | omega | exact h | exact ⟨a2, b2, a3⟩ | assumption) | (simp_all; done) | (simp_all; omega)
  case rr =>
    try simp (disch := omega) only [SS, hw]
    repeat' apply And.intro
    all_goals first | exact True.intro | with_reducible rfl | omega | (intros; first | exact True.intro | with_reducible rfl | omega | (simp_all; done)) | (simp_all; done) | rfl

theorem ef4_p0 (H : List Ent) (r r' : RF) (n m Ma Mb cn cm : Nat) (ls lm : Nat → Nat) (T U : Ix → List UInt8) (i : Nat) :
    isEnd (evTill Tryd.prog sumsEF 500 (99) 900 74 (headOf Tryd.f74 0) (envAt Tryd.f74.ntmps ([(1, vL 62 13 m), (2, .v (.vr (.func (.func 75) #[] #[]))), (15, vL 61 13 n), (16, vN n), (17, vN (i : Nat))])) (((sentEnts 23 213 (textsIn 23 H errG)) ++ (enE false 61 71 r Ma ++ (enE false 62 72 r' Mb ++ (famE 71 cn ls T ++ famE 72 cm lm U)))) ++ ([])) ⟨[.s false], 110⟩) (endP ([]) (YES) ([]) 520) =
    (OkL [(decide ((↑i : Int) < (↑n : Int)), false)] ∧ true = true ∧ True) := by kernel_rfl

set_option maxHeartbeats 4000000 in
theorem ef4 (H : List Ent) (r r' : RF) (n m Ma Mb cn cm : Nat) (ls lm : Nat → Nat) (T U : Ix → List UInt8) (i : Nat) (hi : i = n)  :
    RunsTo Tryd.prog 74 (headOf Tryd.f74 0) (envAt Tryd.f74.ntmps ([(1, vL 62 13 m), (2, .v (.vr (.func (.func 75) #[] #[]))), (15, vL 61 13 n), (16, vN n), (17, vN (i : Nat))])) (Sx.look (((sentEnts 23 213 (textsIn 23 H errG)) ++ (enE false 61 71 r Ma ++ (enE false 62 72 r' Mb ++ (famE 71 cn ls T ++ famE 72 cm lm U)))) ++ ([]))) 80 (YES) (Sx.look ([])) 520 := by
  refine runs_last baseEF (Sx.Ends.of (ef4_p0 H r r' n m Ma Mb cn cm ls lm T U i) ⟨?oo, ?rr⟩) (by kernel_rfl) rfl (gtL (by decide)) (by decide)
  case oo =>
    refine (okc ?_ okn)
    all_goals ((try simp (disch := omega) only [SS]); first | done | omega | assumption | (simp (disch := omega) only [SS] at *; first | done | omega | assumption) | (simp_all; done))
  case rr =>
    try simp (disch := omega) only [SS]
    repeat' apply And.intro
    all_goals first | exact True.intro | with_reducible rfl | omega | (intros; first | exact True.intro | with_reducible rfl | omega | (simp_all; done)) | (simp_all; done) | rfl

theorem efT (H : List Ent) (r r' : RF) (n m Ma Mb cn cm : Nat) (ls lm : Nat → Nat) (T U : Ix → List UInt8) (hn : n ≤ 100000) (ha : n ≤ Ma) (hb : m ≤ Mb) (o1 : okM r.M r.L n cn ls = true) (o2 : okM r'.M r'.L m cm lm = true) : RunsTo Tryd.prog 74 [.code (bodyOf Tryd.f74)] (envOf [vL 61 13 n, vL 62 13 m, .v (.vr (.func (.func 75) #[] #[]))] Tryd.f74.ntmps) (Sx.look (((sentEnts 23 213 (textsIn 23 H errG)) ++ (enE false 61 71 r Ma ++ (enE false 62 72 r' Mb ++ (famE 71 cn ls T ++ famE 72 cm lm U)))) ++ ([]))) 80 (vB ((n == m) && (List.range n).all fun i => sameAt r r' T U i i)) (Sx.look []) 520 := by
  by_cases h : n = m
  · refine ef1 H r r' n m Ma Mb cn cm ls lm T U h _ _ ?_
    rw [show (n == m) = true from beq_iff_eq.2 h, Bool.true_and]
    exact all_loop (ok := fun i => sameAt r r' T U i i) (R := fun i b => RunsTo Tryd.prog 74 (headOf Tryd.f74 0) (envAt Tryd.f74.ntmps ([(1, vL 62 13 m), (2, .v (.vr (.func (.func 75) #[] #[]))), (15, vL 61 13 n), (16, vN n), (17, vN (i : Nat))])) (Sx.look (((sentEnts 23 213 (textsIn 23 H errG)) ++ (enE false 61 71 r Ma ++ (enE false 62 72 r' Mb ++ (famE 71 cn ls T ++ famE 72 cm lm U)))) ++ ([]))) 80 (vB b) (Sx.look []) 520) (fun i hi hk b q => ef2 H r r' n m Ma Mb cn cm ls lm T U i hi h hn ha hb o1 o2 hk _ _ q) (fun i hi hk => ef3 H r r' n m Ma Mb cn cm ls lm T U i hi h hn ha hb o1 o2 hk) (ef4 H r r' n m Ma Mb cn cm ls lm T U n rfl)
  · rw [show (n == m) = false from beq_eq_false_iff_ne.2 h, Bool.false_and]; exact ef0 H r r' n m Ma Mb cn cm ls lm T U h
def efP : PC := { args := [.v (.vl 61 13 0), .v (.vl 62 13 1), .v (.vq 75)], heap := [⟨61, false, 13, .ta 40 (.tc (.vi .i64 10) (.tc (.vi .i64 11) (.tc (.vi .i64 12) (.tc (.vs 13) (.tc (.vf 71 1 23 14) (.tc (.tc (.vi .i64 15) (.tc (.vi .i64 16) (.tc (.vi .i64 17) (.tc (.vi .i64 18) (.tc (.vb 19) .t0))))) (.tc (.vi .i64 20) (.tc (.vi .i64 21) (.tc (.vx 213 errL 22) .t0)))))))))⟩, ⟨62, false, 13, .ta 42 (.tc (.vi .i64 110) (.tc (.vi .i64 111) (.tc (.vi .i64 112) (.tc (.vs 113) (.tc (.vf 72 1 123 114) (.tc (.tc (.vi .i64 115) (.tc (.vi .i64 116) (.tc (.vi .i64 117) (.tc (.vi .i64 118) (.tc (.vb 119) .t0))))) (.tc (.vi .i64 120) (.tc (.vi .i64 121) (.tc (.vx 213 errL 122) .t0)))))))))⟩], fams := [⟨71, false, 1, 50, 51, .vs 52⟩, ⟨72, false, 1, 60, 61, .vs 62⟩], gs := [0, 1, 2, 3, 4, 5, 6, 7, 8, 9, 10, 11, 12, 13, 14, 15], G := 23, tp := 213, n := 80, n' := 520, cond := fun e => decide (eN e 0 ≤ 100000) && (decide (eN e 0 ≤ eN e 40) && (decide (eN e 1 ≤ eN e 42) && (okM ((⟨eI e 10, eI e 11, eI e 12, eS e 13, eM e 23, eM e 14, eI e 15, eI e 16, eI e 17, eI e 18, eB e 19, eI e 20, eI e 21, eM e 22, fun _ => 0⟩ : RF)).M ((⟨eI e 10, eI e 11, eI e 12, eS e 13, eM e 23, eM e 14, eI e 15, eI e 16, eI e 17, eI e 18, eB e 19, eI e 20, eI e 21, eM e 22, fun _ => 0⟩ : RF)).L (eN e 0) (eN e 50) (eL e 51) && okM ((⟨eI e 110, eI e 111, eI e 112, eS e 113, eM e 123, eM e 114, eI e 115, eI e 116, eI e 117, eI e 118, eB e 119, eI e 120, eI e 121, eM e 122, fun _ => 0⟩ : RF)).M ((⟨eI e 110, eI e 111, eI e 112, eS e 113, eM e 123, eM e 114, eI e 115, eI e 116, eI e 117, eI e 118, eB e 119, eI e 120, eI e 121, eM e 122, fun _ => 0⟩ : RF)).L (eN e 1) (eN e 60) (eL e 61)))), v := fun e => vB ((eN e 0 == eN e 1) && (List.range (eN e 0)).all fun i => sameAt (⟨eI e 10, eI e 11, eI e 12, eS e 13, eM e 23, eM e 14, eI e 15, eI e 16, eI e 17, eI e 18, eB e 19, eI e 20, eI e 21, eM e 22, fun _ => 0⟩ : RF) (⟨eI e 110, eI e 111, eI e 112, eS e 113, eM e 123, eM e 114, eI e 115, eI e 116, eI e 117, eI e 118, eB e 119, eI e 120, eI e 121, eM e 122, fun _ => 0⟩ : RF) (eS e 52) (eS e 62) i i), post := fun e => [] }
theorem efP_pc : PC.Runs Tryd.prog 74 Tryd.f74 (bodyOf Tryd.f74) efP := ⟨Tryd.func74, by kernel_rfl, (fun g hg => by first | (cases hg; done) | (revert g; show ∀ g ∈ ([0, 1, 2, 3, 4, 5, 6, 7, 8, 9, 10, 11, 12, 13, 14, 15] : List Nat), g < 23; decide)), fun e H hc => by
  have hc : (decide (eN e 0 ≤ 100000) && (decide (eN e 0 ≤ eN e 40) && (decide (eN e 1 ≤ eN e 42) && (okM ((⟨eI e 10, eI e 11, eI e 12, eS e 13, eM e 23, eM e 14, eI e 15, eI e 16, eI e 17, eI e 18, eB e 19, eI e 20, eI e 21, eM e 22, fun _ => 0⟩ : RF)).M ((⟨eI e 10, eI e 11, eI e 12, eS e 13, eM e 23, eM e 14, eI e 15, eI e 16, eI e 17, eI e 18, eB e 19, eI e 20, eI e 21, eM e 22, fun _ => 0⟩ : RF)).L (eN e 0) (eN e 50) (eL e 51) && okM ((⟨eI e 110, eI e 111, eI e 112, eS e 113, eM e 123, eM e 114, eI e 115, eI e 116, eI e 117, eI e 118, eB e 119, eI e 120, eI e 121, eM e 122, fun _ => 0⟩ : RF)).M ((⟨eI e 110, eI e 111, eI e 112, eS e 113, eM e 123, eM e 114, eI e 115, eI e 116, eI e 117, eI e 118, eB e 119, eI e 120, eI e 121, eM e 122, fun _ => 0⟩ : RF)).L (eN e 1) (eN e 60) (eL e 61))))) = true := hc
  try simp only [Bool.and_eq_true, decide_eq_true_eq, Nat.beq_eq] at hc
  exact efT H (⟨eI e 10, eI e 11, eI e 12, eS e 13, eM e 23, eM e 14, eI e 15, eI e 16, eI e 17, eI e 18, eB e 19, eI e 20, eI e 21, eM e 22, fun _ => 0⟩ : RF) (⟨eI e 110, eI e 111, eI e 112, eS e 113, eM e 123, eM e 114, eI e 115, eI e 116, eI e 117, eI e 118, eB e 119, eI e 120, eI e 121, eM e 122, fun _ => 0⟩ : RF) (eN e 0) (eN e 1) (eN e 40) (eN e 42) (eN e 50) (eN e 60) (eL e 51) (eL e 61) (eS e 52) (eS e 62) hc.1 hc.2.1 hc.2.2.1 hc.2.2.2.1 hc.2.2.2.2⟩
def sumsSA : List (FuncId × Summ) := [(74, efP.summ 46)]
theorem baseSA : Base0 Tryd.prog sumsSA := (baseO.cons Tryd.func74 (by kernel_rfl) (PC.summ_ok efP_pc gtopG))
theorem saT_p0 (H : List Ent) (r r' : RF) (n m Ma Mb cn cm : Nat) (ls lm : Nat → Nat) (T U : Ix → List UInt8) :
    isEnd (evTill Tryd.prog sumsSA 400 (99) 900 29 [.code (bodyOf Tryd.f29)] (envOf [vL 61 13 n, vL 62 13 m] Tryd.f29.ntmps) (((sentEnts 23 213 (textsIn 23 H errG)) ++ (enE false 61 71 r Ma ++ (enE false 62 72 r' Mb ++ (famE 71 cn ls T ++ famE 72 cm lm U)))) ++ ([])) ⟨[.s true], 80⟩) (endP ([]) (vB ((n == m) && (List.range n).all fun i => sameAt r r' T U i i)) ([]) 700) =
    (OkL [(decide (n ≤ (100000 : Nat)) && (decide (n ≤ Ma) && (decide (m ≤ Mb) && (okM r.5 r.6 n cn ls && okM r'.5 r'.6 m cm lm))), true)] ∧ (n == m && (List.range n).all fun i => sameAt r r' T U i i) = (n == m && (List.range n).all fun i => sameAt { K := r.1, N := r.2, C := r.3, X := r.4, M := r.5, L := r.6, nk := r.7, nc := r.8, ns := r.9, no := r.10, nb := r.11, V := r.12, O := r.13, E := r.14, B := fun x => (0 : Int) } { K := r'.1, N := r'.2, C := r'.3, X := r'.4, M := r'.5, L := r'.6, nk := r'.7, nc := r'.8, ns := r'.9, no := r'.10, nb := r'.11, V := r'.12, O := r'.13, E := r'.14, B := fun x => (0 : Int) } T U i i) ∧ True) := by kernel_rfl

set_option maxHeartbeats 4000000 in
theorem saT (H : List Ent) (r r' : RF) (n m Ma Mb cn cm : Nat) (ls lm : Nat → Nat) (T U : Ix → List UInt8) (hn : n ≤ 100000) (ha : n ≤ Ma) (hb : m ≤ Mb) (o1 : okM r.M r.L n cn ls = true) (o2 : okM r'.M r'.L m cm lm = true)  :
    RunsTo Tryd.prog 29 [.code (bodyOf Tryd.f29)] (envOf [vL 61 13 n, vL 62 13 m] Tryd.f29.ntmps) (Sx.look (((sentEnts 23 213 (textsIn 23 H errG)) ++ (enE false 61 71 r Ma ++ (enE false 62 72 r' Mb ++ (famE 71 cn ls T ++ famE 72 cm lm U)))) ++ ([]))) 80 (vB ((n == m) && (List.range n).all fun i => sameAt r r' T U i i)) (Sx.look ([])) 700 := by
  refine runs_last baseSA (Sx.Ends.of (saT_p0 H r r' n m Ma Mb cn cm ls lm T U) ⟨?oo, ?rr⟩) (by kernel_rfl) rfl (gtL (by decide)) (by decide)
  case oo =>
    refine (okc ?_ okn)
    all_goals first | omega | exact ⟨hn, ha, hb, o1, o2⟩ | (simp only [Bool.and_eq_true, decide_eq_true_eq]; exact ⟨hn, ha, hb, o1, o2⟩)
  case rr =>
    exact ⟨rfl, trivial⟩

def saP : PC := { args := [.v (.vl 61 13 0), .v (.vl 62 13 1)], heap := [⟨61, false, 13, .ta 40 (.tc (.vi .i64 10) (.tc (.vi .i64 11) (.tc (.vi .i64 12) (.tc (.vs 13) (.tc (.vf 71 1 23 14) (.tc (.tc (.vi .i64 15) (.tc (.vi .i64 16) (.tc (.vi .i64 17) (.tc (.vi .i64 18) (.tc (.vb 19) .t0))))) (.tc (.vi .i64 20) (.tc (.vi .i64 21) (.tc (.vx 213 errL 22) .t0)))))))))⟩, ⟨62, false, 13, .ta 42 (.tc (.vi .i64 110) (.tc (.vi .i64 111) (.tc (.vi .i64 112) (.tc (.vs 113) (.tc (.vf 72 1 123 114) (.tc (.tc (.vi .i64 115) (.tc (.vi .i64 116) (.tc (.vi .i64 117) (.tc (.vi .i64 118) (.tc (.vb 119) .t0))))) (.tc (.vi .i64 120) (.tc (.vi .i64 121) (.tc (.vx 213 errL 122) .t0)))))))))⟩], fams := [⟨71, false, 1, 50, 51, .vs 52⟩, ⟨72, false, 1, 60, 61, .vs 62⟩], gs := [0, 1, 2, 3, 4, 5, 6, 7, 8, 9, 10, 11, 12, 13, 14, 15], G := 23, tp := 213, n := 80, n' := 700, cond := fun e => decide (eN e 0 ≤ 100000) && (decide (eN e 0 ≤ eN e 40) && (decide (eN e 1 ≤ eN e 42) && (okM ((⟨eI e 10, eI e 11, eI e 12, eS e 13, eM e 23, eM e 14, eI e 15, eI e 16, eI e 17, eI e 18, eB e 19, eI e 20, eI e 21, eM e 22, fun _ => 0⟩ : RF)).M ((⟨eI e 10, eI e 11, eI e 12, eS e 13, eM e 23, eM e 14, eI e 15, eI e 16, eI e 17, eI e 18, eB e 19, eI e 20, eI e 21, eM e 22, fun _ => 0⟩ : RF)).L (eN e 0) (eN e 50) (eL e 51) && okM ((⟨eI e 110, eI e 111, eI e 112, eS e 113, eM e 123, eM e 114, eI e 115, eI e 116, eI e 117, eI e 118, eB e 119, eI e 120, eI e 121, eM e 122, fun _ => 0⟩ : RF)).M ((⟨eI e 110, eI e 111, eI e 112, eS e 113, eM e 123, eM e 114, eI e 115, eI e 116, eI e 117, eI e 118, eB e 119, eI e 120, eI e 121, eM e 122, fun _ => 0⟩ : RF)).L (eN e 1) (eN e 60) (eL e 61)))), v := fun e => vB ((eN e 0 == eN e 1) && (List.range (eN e 0)).all fun i => sameAt (⟨eI e 10, eI e 11, eI e 12, eS e 13, eM e 23, eM e 14, eI e 15, eI e 16, eI e 17, eI e 18, eB e 19, eI e 20, eI e 21, eM e 22, fun _ => 0⟩ : RF) (⟨eI e 110, eI e 111, eI e 112, eS e 113, eM e 123, eM e 114, eI e 115, eI e 116, eI e 117, eI e 118, eB e 119, eI e 120, eI e 121, eM e 122, fun _ => 0⟩ : RF) (eS e 52) (eS e 62) i i), post := fun e => [] }
theorem saP_pc : PC.Runs Tryd.prog 29 Tryd.f29 (bodyOf Tryd.f29) saP := ⟨Tryd.func29, by kernel_rfl, (fun g hg => by first | (cases hg; done) | (revert g; show ∀ g ∈ ([0, 1, 2, 3, 4, 5, 6, 7, 8, 9, 10, 11, 12, 13, 14, 15] : List Nat), g < 23; decide)), fun e H hc => by
  have hc : (decide (eN e 0 ≤ 100000) && (decide (eN e 0 ≤ eN e 40) && (decide (eN e 1 ≤ eN e 42) && (okM ((⟨eI e 10, eI e 11, eI e 12, eS e 13, eM e 23, eM e 14, eI e 15, eI e 16, eI e 17, eI e 18, eB e 19, eI e 20, eI e 21, eM e 22, fun _ => 0⟩ : RF)).M ((⟨eI e 10, eI e 11, eI e 12, eS e 13, eM e 23, eM e 14, eI e 15, eI e 16, eI e 17, eI e 18, eB e 19, eI e 20, eI e 21, eM e 22, fun _ => 0⟩ : RF)).L (eN e 0) (eN e 50) (eL e 51) && okM ((⟨eI e 110, eI e 111, eI e 112, eS e 113, eM e 123, eM e 114, eI e 115, eI e 116, eI e 117, eI e 118, eB e 119, eI e 120, eI e 121, eM e 122, fun _ => 0⟩ : RF)).M ((⟨eI e 110, eI e 111, eI e 112, eS e 113, eM e 123, eM e 114, eI e 115, eI e 116, eI e 117, eI e 118, eB e 119, eI e 120, eI e 121, eM e 122, fun _ => 0⟩ : RF)).L (eN e 1) (eN e 60) (eL e 61))))) = true := hc
  try simp only [Bool.and_eq_true, decide_eq_true_eq, Nat.beq_eq] at hc
  exact saT H (⟨eI e 10, eI e 11, eI e 12, eS e 13, eM e 23, eM e 14, eI e 15, eI e 16, eI e 17, eI e 18, eB e 19, eI e 20, eI e 21, eM e 22, fun _ => 0⟩ : RF) (⟨eI e 110, eI e 111, eI e 112, eS e 113, eM e 123, eM e 114, eI e 115, eI e 116, eI e 117, eI e 118, eB e 119, eI e 120, eI e 121, eM e 122, fun _ => 0⟩ : RF) (eN e 0) (eN e 1) (eN e 40) (eN e 42) (eN e 50) (eN e 60) (eL e 51) (eL e 61) (eS e 52) (eS e 62) hc.1 hc.2.1 hc.2.2.1 hc.2.2.2.1 hc.2.2.2.2⟩
def sumsON : List (FuncId × Summ) := [(73, zcnP.summ 46)]
theorem baseON : Base0 Tryd.prog sumsON := (baseO.cons Tryd.func73 (by kernel_rfl) (PC.summ_ok zcnP_pc gtopG))
theorem on1_p0 (r : RF) (n M nk Mk : Nat) (F : Ix → Int) :
    isMore (evTill Tryd.prog sumsON 400 (behind Tryd.f28 0) 900 28 [.code (bodyOf Tryd.f28)] (envOf [vL 61 13 n, vL 63 1 nk] Tryd.f28.ntmps) ((enE false 61 71 r M ++ [⟨63, false, none, 1, .ta Mk (.vi .i64 F)⟩]) ++ ([])) ⟨[], 80⟩) (moreP (headOf Tryd.f28 0) ([((101 : Nat), Rn.nil (13 : Nat))]) Tryd.f28.ntmps ([(1, vL 63 1 nk), (5, vL 101 13 (([] : List Nat)).length), (8, vL 61 13 n), (9, vN n), (10, vN (0 : Nat))]) (enE true 101 71 (r.sel (([] : List Nat))) (([] : List Nat)).length) 320) =
    (OkL [] ∧ headOf Tryd.f28 (0 : Nat) = headOf Tryd.f28 (0 : Nat) ∧ (((0 : Nat) = (0 : Nat) ∧ nk = nk) ∧ (0 : Nat) = (0 : Nat) ∧ ((0 : Nat) = (0 : Nat) ∧ n = n) ∧ (↑n : Int) = (↑n : Int) ∧ (↑(0 : Nat) : Int) = (0 : Int)) ∧ (0 : Nat) = (0 : Nat)) := by kernel_rfl

set_option maxHeartbeats 4000000 in
theorem on1 (r : RF) (n M nk Mk : Nat) (F : Ix → Int)  (v : SV) (L' : HF) (next : RunsTo Tryd.prog 28 (headOf Tryd.f28 0) (envAt Tryd.f28.ntmps ([(1, vL 63 1 nk), (5, vL 101 13 (([] : List Nat)).length), (8, vL 61 13 n), (9, vN n), (10, vN (0 : Nat))])) (Sx.look ((enE false 61 71 r M ++ [⟨63, false, none, 1, .ta Mk (.vi .i64 F)⟩]) ++ (enE true 101 71 (r.sel (([] : List Nat))) (([] : List Nat)).length))) 80 (v) (L') 320) :
    RunsTo Tryd.prog 28 [.code (bodyOf Tryd.f28)] (envOf [vL 61 13 n, vL 63 1 nk] Tryd.f28.ntmps) (Sx.look ((enE false 61 71 r M ++ [⟨63, false, none, 1, .ta Mk (.vi .i64 F)⟩]) ++ ([]))) 80 (v) (L') 320 := by
  refine runs_more baseON (More.of (on1_p0 r n M nk Mk F) ⟨?oo, rfl, ?rr⟩) (by kernel_rfl) (by kernel_rfl) rfl (gtL (by decide)) (by decide) next
  case oo =>
    clear next
    refine okn
    all_goals ((try simp (disch := omega) only [SS]); first | done | omega | assumption | (simp (disch := omega) only [SS] at *; first | done | omega | assumption) | (simp_all; done))
  case rr =>
    clear next
    try simp (disch := omega) only [SS]
    repeat' apply And.intro
    all_goals first | exact True.intro | with_reducible rfl | omega | (intros; first | exact True.intro | with_reducible rfl | omega | (simp_all; done)) | (simp_all; done) | rfl

theorem on2_p0 (r : RF) (n M nk Mk : Nat) (F : Ix → Int) (I : List Nat) (i : Nat) :
    isMore (evTill Tryd.prog sumsON 400 (behind Tryd.f28 0) 900 28 (headOf Tryd.f28 0) (envAt Tryd.f28.ntmps ([(1, vL 63 1 nk), (5, vL 101 13 (I).length), (8, vL 61 13 n), (9, vN n), (10, vN (i : Nat))])) ((enE false 61 71 r M ++ [⟨63, false, none, 1, .ta Mk (.vi .i64 F)⟩]) ++ (enE true 101 71 (r.sel (I)) (I).length)) ⟨[.s true, .s true, .s true, .s true, .s true, .s true, .t, .s true, .s true], 110⟩) (moreP (headOf Tryd.f28 0) ([((101 : Nat), Rn.to (182 : Nat))]) Tryd.f28.ntmps ([(1, vL 63 1 nk), (5, vL 101 13 (I ++ [i]).length), (8, vL 61 13 n), (9, vN n), (10, vN (i + 1 : Nat))]) (enE true 101 71 (r.sel (I ++ [i])) (I ++ [i]).length) 320) =
    (OkL [(decide ((↑i : Int) < (↑n : Int)), true), (decide ((0 : Int) ≤ (↑i : Int) ∧ (↑i : Int) < (↑n : Int)), true), (((0 : Nat) + (↑i : Int).toNat).blt M, true), (((0 : Nat) + (↑i : Int).toNat).blt M, true), (decide (nk ≤ Mk) && decide (nk ≤ (100000 : Nat)), true), (hasB nk F (r.1 [(0 : Nat) + (↑i : Int).toNat]), true), (((0 : Nat) + I.length).ble I.length, true), (decide (((2 : Nat) * (I.length + (1 : Nat)) + (192 : Nat)) * (136 : Nat) ≤ (281474976710656 : Nat)), true)] ∧ headOf Tryd.f28 (0 : Nat) = headOf Tryd.f28 (0 : Nat) ∧ (((0 : Nat) = (0 : Nat) ∧ nk = nk) ∧ ((0 : Nat) = (0 : Nat) ∧ (I ++ [i]).length = I.length + (1 : Nat)) ∧ ((0 : Nat) = (0 : Nat) ∧ n = n) ∧ (↑n : Int) = (↑n : Int) ∧ (↑(i + (1 : Nat)) : Int) = IntKind.i64.wrap ((↑i : Int) + (1 : Int))) ∧ (I ++ [i]).length = I.length + (1 : Nat) ∧ (∀ (i_1 : Nat), i_1 < (I ++ [i]).length → ixI (I ++ [i]) r.1 [i_1] = appF I.length (0 : Nat) (ixI I r.1) (fun js => r.1 (((0 : Nat) + (↑i : Int).toNat) :: List.tail (subIx (0 : Nat) js))) [i_1]) ∧ (∀ (i_1 : Nat), i_1 < (I ++ [i]).length → ixI (I ++ [i]) r.2 [i_1] = appF I.length (0 : Nat) (ixI I r.2) (fun js => r.2 (((0 : Nat) + (↑i : Int).toNat) :: List.tail (subIx (0 : Nat) js))) [i_1]) ∧ (∀ (i_1 : Nat), i_1 < (I ++ [i]).length → ixI (I ++ [i]) r.3 [i_1] = appF I.length (0 : Nat) (ixI I r.3) (fun js => r.3 (((0 : Nat) + (↑i : Int).toNat) :: List.tail (subIx (0 : Nat) js))) [i_1]) ∧ (∀ (i_1 : Nat), i_1 < (I ++ [i]).length → ixI (I ++ [i]) r.4 [i_1] = appF I.length (0 : Nat) (ixI I r.4) (fun js => r.4 (((0 : Nat) + (↑i : Int).toNat) :: List.tail (subIx (0 : Nat) js))) [i_1]) ∧ ((∀ (i_1 : Nat), i_1 < (I ++ [i]).length → ixI (I ++ [i]) r.5 [i_1] = appF I.length (0 : Nat) (ixI I r.5) (fun js => r.5 (((0 : Nat) + (↑i : Int).toNat) :: List.tail (subIx (0 : Nat) js))) [i_1]) ∧ ∀ (i_1 : Nat), i_1 < (I ++ [i]).length → ixI (I ++ [i]) r.6 [i_1] = appF I.length (0 : Nat) (ixI I r.6) (fun js => r.6 (((0 : Nat) + (↑i : Int).toNat) :: List.tail (subIx (0 : Nat) js))) [i_1]) ∧ ((∀ (i_1 : Nat), i_1 < (I ++ [i]).length → ixI (I ++ [i]) r.7 [i_1] = appF I.length (0 : Nat) (ixI I r.7) (fun js => r.7 (((0 : Nat) + (↑i : Int).toNat) :: List.tail (subIx (0 : Nat) js))) [i_1]) ∧ (∀ (i_1 : Nat), i_1 < (I ++ [i]).length → ixI (I ++ [i]) r.8 [i_1] = appF I.length (0 : Nat) (ixI I r.8) (fun js => r.8 (((0 : Nat) + (↑i : Int).toNat) :: List.tail (subIx (0 : Nat) js))) [i_1]) ∧ (∀ (i_1 : Nat), i_1 < (I ++ [i]).length → ixI (I ++ [i]) r.9 [i_1] = appF I.length (0 : Nat) (ixI I r.9) (fun js => r.9 (((0 : Nat) + (↑i : Int).toNat) :: List.tail (subIx (0 : Nat) js))) [i_1]) ∧ (∀ (i_1 : Nat), i_1 < (I ++ [i]).length → ixI (I ++ [i]) r.10 [i_1] = appF I.length (0 : Nat) (ixI I r.10) (fun js => r.10 (((0 : Nat) + (↑i : Int).toNat) :: List.tail (subIx (0 : Nat) js))) [i_1]) ∧ ∀ (i_1 : Nat), i_1 < (I ++ [i]).length → ixI (I ++ [i]) r.11 [i_1] = appF I.length (0 : Nat) (ixI I r.11) (fun js => r.11 (((0 : Nat) + (↑i : Int).toNat) :: List.tail (subIx (0 : Nat) js))) [i_1]) ∧ (∀ (i_1 : Nat), i_1 < (I ++ [i]).length → ixI (I ++ [i]) r.12 [i_1] = appF I.length (0 : Nat) (ixI I r.12) (fun js => r.12 (((0 : Nat) + (↑i : Int).toNat) :: List.tail (subIx (0 : Nat) js))) [i_1]) ∧ (∀ (i_1 : Nat), i_1 < (I ++ [i]).length → ixI (I ++ [i]) r.13 [i_1] = appF I.length (0 : Nat) (ixI I r.13) (fun js => r.13 (((0 : Nat) + (↑i : Int).toNat) :: List.tail (subIx (0 : Nat) js))) [i_1]) ∧ ∀ (i_1 : Nat), i_1 < (I ++ [i]).length → ixI (I ++ [i]) r.14 [i_1] = appF I.length (0 : Nat) (ixI I r.14) (fun js => r.14 (((0 : Nat) + (↑i : Int).toNat) :: List.tail (subIx (0 : Nat) js))) [i_1]) := by kernel_rfl

set_option maxHeartbeats 4000000 in
theorem on2 (r : RF) (n M nk Mk : Nat) (F : Ix → Int) (I : List Nat) (i : Nat) (hi : i < n) (hn : n ≤ 1000) (hM : n ≤ M) (hk : nk ≤ Mk) (hk2 : nk ≤ 100000) (hI : I.length ≤ i) (h : hasB nk F (r.K [i]) = true)  (v : SV) (L' : HF) (next : RunsTo Tryd.prog 28 (headOf Tryd.f28 0) (envAt Tryd.f28.ntmps ([(1, vL 63 1 nk), (5, vL 101 13 (I ++ [i]).length), (8, vL 61 13 n), (9, vN n), (10, vN (i + 1 : Nat))])) (Sx.look ((enE false 61 71 r M ++ [⟨63, false, none, 1, .ta Mk (.vi .i64 F)⟩]) ++ (enE true 101 71 (r.sel (I ++ [i])) (I ++ [i]).length))) 80 (v) (L') 320) :
    RunsTo Tryd.prog 28 (headOf Tryd.f28 0) (envAt Tryd.f28.ntmps ([(1, vL 63 1 nk), (5, vL 101 13 (I).length), (8, vL 61 13 n), (9, vN n), (10, vN (i : Nat))])) (Sx.look ((enE false 61 71 r M ++ [⟨63, false, none, 1, .ta Mk (.vi .i64 F)⟩]) ++ (enE true 101 71 (r.sel (I)) (I).length))) 80 (v) (L') 320 := by
  have hw : IntKind.i64.wrap ((i : Int) + 1) = ((i + 1 : Nat) : Int) := by rw [wr64 (by omega)]; rfl
  refine runs_more baseON (More.of (on2_p0 r n M nk Mk F I i) ⟨?oo, rfl, ?rr⟩) (by kernel_rfl) (by kernel_rfl) rfl (gtL (by decide)) (by decide) next
  case oo =>
    clear next
    refine (okc ?_ (okc ?_ (okc ?_ (okc ?_ (okc ?_ (okc ?_ (okc ?_ (okc ?_ okn))))))))
    all_goals first | omega | exact h | exact ⟨hk, hk2⟩ | (simp (disch := omega) only [SS, hw]; first | done | omega | exact h | exact ⟨hk, hk2⟩ | assumption) | (simp_all; done) | (simp_all; omega)
  case rr =>
    clear next
    try simp (disch := omega) only [SS, hw, Go.Sx.sum, Nat.zero_add, List.length_append, List.length_cons, List.length_nil]
    repeat' apply And.intro
    all_goals first | exact True.intro | with_reducible rfl | omega | (intro k hk; exact (ap_sel I _ _ i (fun _ => rfl) hk).symm) | (simp_all; done)

theorem on3_p0 (r : RF) (n M nk Mk : Nat) (F : Ix → Int) (I : List Nat) (i : Nat) :
    isMore (evTill Tryd.prog sumsON 400 (behind Tryd.f28 0) 900 28 (headOf Tryd.f28 0) (envAt Tryd.f28.ntmps ([(1, vL 63 1 nk), (5, vL 101 13 (I).length), (8, vL 61 13 n), (9, vN n), (10, vN (i : Nat))])) ((enE false 61 71 r M ++ [⟨63, false, none, 1, .ta Mk (.vi .i64 F)⟩]) ++ (enE true 101 71 (r.sel (I)) (I).length)) ⟨[.s true, .s true, .s true, .s true, .s true, .s false], 110⟩) (moreP (headOf Tryd.f28 0) ([]) Tryd.f28.ntmps ([(1, vL 63 1 nk), (5, vL 101 13 (I).length), (8, vL 61 13 n), (9, vN n), (10, vN (i + 1 : Nat))]) (enE true 101 71 (r.sel (I)) (I).length) 320) =
    (OkL [(decide ((↑i : Int) < (↑n : Int)), true), (decide ((0 : Int) ≤ (↑i : Int) ∧ (↑i : Int) < (↑n : Int)), true), (((0 : Nat) + (↑i : Int).toNat).blt M, true), (((0 : Nat) + (↑i : Int).toNat).blt M, true), (decide (nk ≤ Mk) && decide (nk ≤ (100000 : Nat)), true), (hasB nk F (r.1 [(0 : Nat) + (↑i : Int).toNat]), false)] ∧ headOf Tryd.f28 (0 : Nat) = headOf Tryd.f28 (0 : Nat) ∧ (((0 : Nat) = (0 : Nat) ∧ nk = nk) ∧ ((0 : Nat) = (0 : Nat) ∧ I.length = I.length) ∧ ((0 : Nat) = (0 : Nat) ∧ n = n) ∧ (↑n : Int) = (↑n : Int) ∧ (↑(i + (1 : Nat)) : Int) = IntKind.i64.wrap ((↑i : Int) + (1 : Int))) ∧ I.length = I.length ∧ (∀ (i : Nat), i < I.length → ixI I r.1 [i] = ixI I r.1 [i]) ∧ (∀ (i : Nat), i < I.length → ixI I r.2 [i] = ixI I r.2 [i]) ∧ (∀ (i : Nat), i < I.length → ixI I r.3 [i] = ixI I r.3 [i]) ∧ (∀ (i : Nat), i < I.length → ixI I r.4 [i] = ixI I r.4 [i]) ∧ ((∀ (i : Nat), i < I.length → ixI I r.5 [i] = ixI I r.5 [i]) ∧ ∀ (i : Nat), i < I.length → ixI I r.6 [i] = ixI I r.6 [i]) ∧ ((∀ (i : Nat), i < I.length → ixI I r.7 [i] = ixI I r.7 [i]) ∧ (∀ (i : Nat), i < I.length → ixI I r.8 [i] = ixI I r.8 [i]) ∧ (∀ (i : Nat), i < I.length → ixI I r.9 [i] = ixI I r.9 [i]) ∧ (∀ (i : Nat), i < I.length → ixI I r.10 [i] = ixI I r.10 [i]) ∧ ∀ (i : Nat), i < I.length → ixI I r.11 [i] = ixI I r.11 [i]) ∧ (∀ (i : Nat), i < I.length → ixI I r.12 [i] = ixI I r.12 [i]) ∧ (∀ (i : Nat), i < I.length → ixI I r.13 [i] = ixI I r.13 [i]) ∧ ∀ (i : Nat), i < I.length → ixI I r.14 [i] = ixI I r.14 [i]) := by kernel_rfl

set_option maxHeartbeats 4000000 in
theorem on3 (r : RF) (n M nk Mk : Nat) (F : Ix → Int) (I : List Nat) (i : Nat) (hi : i < n) (hn : n ≤ 1000) (hM : n ≤ M) (hk : nk ≤ Mk) (hk2 : nk ≤ 100000) (hI : I.length ≤ i) (h : hasB nk F (r.K [i]) = false)  (v : SV) (L' : HF) (next : RunsTo Tryd.prog 28 (headOf Tryd.f28 0) (envAt Tryd.f28.ntmps ([(1, vL 63 1 nk), (5, vL 101 13 (I).length), (8, vL 61 13 n), (9, vN n), (10, vN (i + 1 : Nat))])) (Sx.look ((enE false 61 71 r M ++ [⟨63, false, none, 1, .ta Mk (.vi .i64 F)⟩]) ++ (enE true 101 71 (r.sel (I)) (I).length))) 80 (v) (L') 320) :
    RunsTo Tryd.prog 28 (headOf Tryd.f28 0) (envAt Tryd.f28.ntmps ([(1, vL 63 1 nk), (5, vL 101 13 (I).length), (8, vL 61 13 n), (9, vN n), (10, vN (i : Nat))])) (Sx.look ((enE false 61 71 r M ++ [⟨63, false, none, 1, .ta Mk (.vi .i64 F)⟩]) ++ (enE true 101 71 (r.sel (I)) (I).length))) 80 (v) (L') 320 := by
  have hw : IntKind.i64.wrap ((i : Int) + 1) = ((i + 1 : Nat) : Int) := by rw [wr64 (by omega)]; rfl
  refine runs_more baseON (More.of (on3_p0 r n M nk Mk F I i) ⟨?oo, rfl, ?rr⟩) (by kernel_rfl) (by kernel_rfl) rfl (gtL (by decide)) (by decide) next
  case oo =>
    clear next
    refine (okc ?_ (okc ?_ (okc ?_ (okc ?_ (okc ?_ (okc ?_ okn))))))
    all_goals first | omega | exact h | exact ⟨hk, hk2⟩ | (simp (disch := omega) only [SS, hw]; first | done | omega | exact h | exact ⟨hk, hk2⟩ | assumption) | (simp_all; done) | (simp_all; omega)
  case rr =>
    clear next
    try simp (disch := omega) only [SS, hw]
    repeat' apply And.intro
    all_goals first | exact True.intro | with_reducible rfl | omega | (intros; first | exact True.intro | with_reducible rfl | omega | (simp_all; done)) | (simp_all; done) | rfl

theorem on4_p0 (r : RF) (n M nk Mk : Nat) (F : Ix → Int) (I : List Nat) (i : Nat) :
    isEnd (evTill Tryd.prog sumsON 400 (99) 900 28 (headOf Tryd.f28 0) (envAt Tryd.f28.ntmps ([(1, vL 63 1 nk), (5, vL 101 13 (I).length), (8, vL 61 13 n), (9, vN n), (10, vN (i : Nat))])) ((enE false 61 71 r M ++ [⟨63, false, none, 1, .ta Mk (.vi .i64 F)⟩]) ++ (enE true 101 71 (r.sel (I)) (I).length)) ⟨[.s false], 110⟩) (endP ([((141 : Nat), Rn.to (101 : Nat))]) (vL 141 13 I.length) (enE true 141 71 (r.sel I) I.length) 320) =
    (OkL [(decide ((↑i : Int) < (↑n : Int)), false)] ∧ ((0 : Nat) = (0 : Nat) ∧ I.length = I.length) ∧ I.length = I.length ∧ (∀ (i : Nat), i < I.length → ixI I r.1 [i] = ixI I r.1 [i]) ∧ (∀ (i : Nat), i < I.length → ixI I r.2 [i] = ixI I r.2 [i]) ∧ (∀ (i : Nat), i < I.length → ixI I r.3 [i] = ixI I r.3 [i]) ∧ (∀ (i : Nat), i < I.length → ixI I r.4 [i] = ixI I r.4 [i]) ∧ ((∀ (i : Nat), i < I.length → ixI I r.5 [i] = ixI I r.5 [i]) ∧ ∀ (i : Nat), i < I.length → ixI I r.6 [i] = ixI I r.6 [i]) ∧ ((∀ (i : Nat), i < I.length → ixI I r.7 [i] = ixI I r.7 [i]) ∧ (∀ (i : Nat), i < I.length → ixI I r.8 [i] = ixI I r.8 [i]) ∧ (∀ (i : Nat), i < I.length → ixI I r.9 [i] = ixI I r.9 [i]) ∧ (∀ (i : Nat), i < I.length → ixI I r.10 [i] = ixI I r.10 [i]) ∧ ∀ (i : Nat), i < I.length → ixI I r.11 [i] = ixI I r.11 [i]) ∧ (∀ (i : Nat), i < I.length → ixI I r.12 [i] = ixI I r.12 [i]) ∧ (∀ (i : Nat), i < I.length → ixI I r.13 [i] = ixI I r.13 [i]) ∧ ∀ (i : Nat), i < I.length → ixI I r.14 [i] = ixI I r.14 [i]) := by kernel_rfl

set_option maxHeartbeats 4000000 in
theorem on4 (r : RF) (n M nk Mk : Nat) (F : Ix → Int) (I : List Nat) (i : Nat) (hi : i = n)  :
    RunsTo Tryd.prog 28 (headOf Tryd.f28 0) (envAt Tryd.f28.ntmps ([(1, vL 63 1 nk), (5, vL 101 13 (I).length), (8, vL 61 13 n), (9, vN n), (10, vN (i : Nat))])) (Sx.look ((enE false 61 71 r M ++ [⟨63, false, none, 1, .ta Mk (.vi .i64 F)⟩]) ++ (enE true 101 71 (r.sel (I)) (I).length))) 80 (vL 141 13 I.length) (Sx.look (enE true 141 71 (r.sel I) I.length)) 320 := by
  refine runs_last baseON (Sx.Ends.of (on4_p0 r n M nk Mk F I i) ⟨?oo, ?rr⟩) (by kernel_rfl) rfl (gtL (by decide)) (by decide)
  case oo =>
    refine (okc ?_ okn)
    all_goals ((try simp (disch := omega) only [SS]); first | done | omega | assumption | (simp (disch := omega) only [SS] at *; first | done | omega | assumption) | (simp_all; done))
  case rr =>
    try simp (disch := omega) only [SS]
    repeat' apply And.intro
    all_goals first | exact True.intro | with_reducible rfl | omega | (intros; first | exact True.intro | with_reducible rfl | omega | (simp_all; done)) | (simp_all; done) | rfl

theorem onT (r : RF) (n M nk Mk : Nat) (F : Ix → Int) (hn : n ≤ 1000) (hM : n ≤ M) (hk : nk ≤ Mk) (hk2 : nk ≤ 100000) : RunsTo Tryd.prog 28 [.code (bodyOf Tryd.f28)] (envOf [vL 61 13 n, vL 63 1 nk] Tryd.f28.ntmps) (Sx.look ((enE false 61 71 r M ++ [⟨63, false, none, 1, .ta Mk (.vi .i64 F)⟩]) ++ ([]))) 80 (vL 141 13 (onI nk F r.K n).length) (Sx.look (enE true 141 71 (r.sel (onI nk F r.K n)) (onI nk F r.K n).length)) 320 := by
  refine on1 r n M nk Mk F _ _ ?_
  exact down_loop (R := fun i => RunsTo Tryd.prog 28 (headOf Tryd.f28 0) (envAt Tryd.f28.ntmps ([(1, vL 63 1 nk), (5, vL 101 13 (onI nk F r.K i).length), (8, vL 61 13 n), (9, vN n), (10, vN (i : Nat))])) (Sx.look ((enE false 61 71 r M ++ [⟨63, false, none, 1, .ta Mk (.vi .i64 F)⟩]) ++ (enE true 101 71 (r.sel (onI nk F r.K i)) (onI nk F r.K i).length))) 80 (vL 141 13 (onI nk F r.K n).length) (Sx.look (enE true 141 71 (r.sel (onI nk F r.K n)) (onI nk F r.K n).length)) 320) (fun i hi q => by
    have hl := onI_len nk F r.K i
    rw [onI_succ] at q
    cases h : hasB nk F (r.K [i]) with
    | true => rw [h] at q; exact on2 r n M nk Mk F _ i hi hn hM hk hk2 hl h _ _ q
    | false => rw [h, if_neg (by decide), List.append_nil] at q; exact on3 r n M nk Mk F _ i hi hn hM hk hk2 hl h _ _ q) (on4 r n M nk Mk F _ n rfl)
def onP : PC := { args := [.v (.vl 61 13 0), .v (.vl 63 1 1)], heap := [⟨61, false, 13, .ta 40 (.tc (.vi .i64 10) (.tc (.vi .i64 11) (.tc (.vi .i64 12) (.tc (.vs 13) (.tc (.vf 71 1 23 14) (.tc (.tc (.vi .i64 15) (.tc (.vi .i64 16) (.tc (.vi .i64 17) (.tc (.vi .i64 18) (.tc (.vb 19) .t0))))) (.tc (.vi .i64 20) (.tc (.vi .i64 21) (.tc (.vx 213 errL 22) .t0)))))))))⟩, ⟨63, false, 1, .ta 5 (.vi .i64 6)⟩], gs := [], G := 23, tp := 213, n := 80, n' := 320, cond := fun e => decide (eN e 0 ≤ 1000) && (decide (eN e 0 ≤ eN e 40) && (decide (eN e 1 ≤ eN e 5) && decide (eN e 1 ≤ 100000))), v := fun e => vL 141 13 (onI (eN e 1) (eI e 6) ((⟨eI e 10, eI e 11, eI e 12, eS e 13, eM e 23, eM e 14, eI e 15, eI e 16, eI e 17, eI e 18, eB e 19, eI e 20, eI e 21, eM e 22, fun _ => 0⟩ : RF)).K (eN e 0)).length, post := fun e => enE true 141 71 ((⟨eI e 10, eI e 11, eI e 12, eS e 13, eM e 23, eM e 14, eI e 15, eI e 16, eI e 17, eI e 18, eB e 19, eI e 20, eI e 21, eM e 22, fun _ => 0⟩ : RF).sel (onI (eN e 1) (eI e 6) ((⟨eI e 10, eI e 11, eI e 12, eS e 13, eM e 23, eM e 14, eI e 15, eI e 16, eI e 17, eI e 18, eB e 19, eI e 20, eI e 21, eM e 22, fun _ => 0⟩ : RF)).K (eN e 0))) (onI (eN e 1) (eI e 6) ((⟨eI e 10, eI e 11, eI e 12, eS e 13, eM e 23, eM e 14, eI e 15, eI e 16, eI e 17, eI e 18, eB e 19, eI e 20, eI e 21, eM e 22, fun _ => 0⟩ : RF)).K (eN e 0)).length }
theorem onP_pc : PC.Runs Tryd.prog 28 Tryd.f28 (bodyOf Tryd.f28) onP := ⟨Tryd.func28, by kernel_rfl, (fun g hg => by first | (cases hg; done) | (revert g; show ∀ g ∈ ([] : List Nat), g < 23; decide)), fun e H hc => by
  have hc : (decide (eN e 0 ≤ 1000) && (decide (eN e 0 ≤ eN e 40) && (decide (eN e 1 ≤ eN e 5) && decide (eN e 1 ≤ 100000)))) = true := hc
  try simp only [Bool.and_eq_true, decide_eq_true_eq, Nat.beq_eq] at hc
  exact onT (⟨eI e 10, eI e 11, eI e 12, eS e 13, eM e 23, eM e 14, eI e 15, eI e 16, eI e 17, eI e 18, eB e 19, eI e 20, eI e 21, eM e 22, fun _ => 0⟩ : RF) (eN e 0) (eN e 40) (eN e 1) (eN e 5) (eI e 6) hc.1 hc.2.1 hc.2.2.1 hc.2.2.2⟩
end Go.Proofs.YtaleenklamognaaDoor

